/- A text that is told, run again: the walks. No condition. -/
import Derived.Test.YtedeonkjellcpaaGreatDoorRef3
namespace Go.Proofs.YtedeonkjellcpaaGreatDoor
open Go Go.RowKit
set_option linter.unusedVariables false
set_option linter.unusedSimpArgs false
section
theorem xe {f:Nat→Value} {w:World} {d:Option Nat} {ty:TypeId} {ps:String} {af:Array Edge} {g:Option (Nat×Bool)}:
  (execOp (dk f) ⟨d, .build 37 #[],ty,ps,af,g⟩).run Tryz.prog w= .ok (.value (.agg #[.int .u8 0, .int .u8 0, .slice none 0 0])) w:=by
 obtain⟨i0,hi0,hz0⟩:=Do.1 (show (Tryz.prog.info? 37).bind (·.zero)=_ from oZ)
 obtain⟨j34,hj34,hs34⟩:=an.1 pn
 obtain⟨j35,hj35,hs35⟩:=an.1 sx
 simp[execOp,Instr.build,zeroValue,typeInfo,sizeOf,hi0,hz0,run_underlying Tryz.underlying37,Instr.fill,d7,hj34,hs34,hj35,hs35]
theorem RY:cX Tryz.prog 172=true:=by kernel_rfl
theorem CQ:cX Tryz.prog 142=true:=by kernel_rfl
theorem Ri:cX Tryz.prog 143=true:=by kernel_rfl
theorem pS (s:List UInt8) (w:World) (hsl:s.length≤100000):
    Fn Tryz.prog 172 #[dY s] w λv w'=>v=if jy s=true then .tuple #[.agg #[.int .u8 ((pb s).m:Int), .int .u8 ((pb s).v:Int)], .bool true]else .tuple #[.agg #[.int .u8 0, .int .u8 0], .bool false]:=by
 refine cM (n:=44) Tryz.func172 rfl rfl rfl λhB=> ?_
 refine Zr<|Zy (cK gU rfl λt W3 y z a=> ?_)
 have d:=ZO y hB
 replace hB:=Ze hB z
 refine Zb rfl<|ct<|Zq<|Zr<|Zw (.string _) rfl<|Zv (mZ rfl Tryz.underlying9)<|Zv (iG rfl rfl)<|ct<|ZQ rfl (λA=> ?_) λA=> ?_
 refine Zr<|Zv (j6)<|Zy (cA rfl rfl dh rfl a rfl rfl λS B C=> ?_)
 replace hB:=Zg hB B d
 replace a:=C
 refine Zb rfl<|ct<|Zt<|eh rfl dh a rfl (v1:= .bool false) rfl ⟨hB,?_⟩
 exact(if_neg (by rw[JV (by omega)];decide)).symm
 refine cx<|Zr<|Zw (.slice none 0 0) rfl<|ct<|Zq<|Zr<|ZZ rfl<|cy ?_
 refine cY (σ:=(Nat)×(Value)) [3,5,10,41] (λ(k,v0)=>[(5, .int .i64 (k:Int)),(4,v0)]) (λsg W=>match sg with|(k,v0)=>(Below w.heap.size w W)∧(At W t _ 34)∧(cH dT 1 3 W w.heap.size v0 (iE (s.take k)))∧(k≤s.length)∧(∀q,q<k→kh (fZ s q)=true)∧(True)) (λ(k,v0)=>s.length-k) ((0, .slice none 0 0)) ⟨rfl,rfl,trivial⟩ ⟨hB,a,cH.nil,(my _),eT,trivial⟩ ?_
 rintro⟨k,v0⟩ T U ⟨hB,a,ho,hk,hq,_⟩ V e
 refine Zq<|Zr<|Zi rfl<|Zw (.string _) rfl<|Zv (mZ rfl Tryz.underlying9)<|Zv (dq rfl rfl)<|ct<|ZQ rfl (λD=> ?_) λD=> ?_
 refine cx<|Zq<|cy ?_
 have hbl:=uc s k
 refine Zr<|Zw (.string _) rfl<|Zi rfl<|Zv (lF rfl rfl Tryz.underlying9 Om)<|Zv (dJ rfl rfl)<|ZX rfl (λE=> ?_) λE=> ?_
 refine Zs<|Zs<|Zs<|Zs<|Zb rfl<|ct<|cQ rfl ?_
 have hbl:=uc s k
 refine cI<|Zw v0 rfl<|Zw (.string _) rfl<|Zi rfl<|Zv (lF rfl rfl Tryz.underlying9 Om)<|Zv (i7 rfl Tryz.underlying5 Tryz.underlying3 vP)<|Zv (jS rfl rfl Om Om)<|Zy (eC (u:= .int .i64 _) rfl cV eL rfl Dd Dd λf X Y F g=> ?_)
 obtain⟨hB,a,ho⟩:=F.k3 hB a ho
 refine Zy (dR (v:=v0) (v2:= .slice (some ⟨f,0,none⟩) 1 1) rfl rfl cV eL Dd ho (eK g rfl) rfl (mV hB) xo xo λc Z l b=> ?_)
 replace b:=cH.snoc (enc:=dT) (x:=_) rfl rfl rfl rfl b
 replace hB:=ZG hB l ho
 replace a:=At.grownOw a ho l Dd
 refine Zw c rfl<|ct<|cI<|Zi rfl<|Zv (eB rfl rfl Om Om)<|ZZ rfl ?_
 exact e _ _ ((k+1,c)) Za ⟨rfl,rfl,trivial⟩ ⟨hB,a,(by (rw[←sW (i:=k) (x:=(fZ s k:Int)-48) Om (by unfold rV;rw[if_neg Om])];exact b)),Om,(d6 hq (pL.2 Om)),trivial⟩ (by show s.length-(k+1)<s.length-k;omega)
 refine Zw (.string _) rfl<|Zi rfl<|Zv (lF rfl rfl Tryz.underlying9 Om)<|Zv (dJ rfl rfl)<|Zb rfl<|ct<|ZQ rfl (λG=> ?_) λG=> ?_
 have hbl:=uc s k
 refine cI<|Zw v0 rfl<|Zw (.string _) rfl<|Zi rfl<|Zv (lF rfl rfl Tryz.underlying9 Om)<|Zv (i7 rfl Tryz.underlying5 Tryz.underlying3 vP)<|Zv (jS rfl rfl Om Om)<|Zy (eC (u:= .int .i64 _) rfl cV eL rfl Dd Dd λf aa ab H g=> ?_)
 obtain⟨hB,a,ho⟩:=H.k3 hB a ho
 refine Zy (dR (v:=v0) (v2:= .slice (some ⟨f,0,none⟩) 1 1) rfl rfl cV eL Dd ho (eK g rfl) rfl (mV hB) xo xo λc ac o b=> ?_)
 replace b:=cH.snoc (enc:=dT) (x:=_) rfl rfl rfl rfl b
 replace hB:=ZG hB o ho
 replace a:=At.grownOw a ho o Dd
 refine Zw c rfl<|ct<|cI<|Zi rfl<|Zv (eB rfl rfl Om Om)<|ZZ rfl ?_
 exact e _ _ ((k+1,c)) Za ⟨rfl,rfl,trivial⟩ ⟨hB,a,(by (rw[←sW (i:=k) (x:=(fZ s k:Int)-48) Om (by unfold rV;rw[if_neg Om])];exact b)),Om,(d6 hq (pL.2 Om)),trivial⟩ (by show s.length-(k+1)<s.length-k;omega)
 refine Zr<|Zw (.string _) rfl<|Zi rfl<|Zv (lF rfl rfl Tryz.underlying9 Om)<|Zv (dJ rfl rfl)<|ct<|ZQ rfl (λI=> ?_) λI=> ?_
 have hbl:=uc s k
 refine cI<|Zw v0 rfl<|Zy (eC (u:= .int .i64 2) rfl cV eL rfl Dd Dd λJ ad ae K L=> ?_)
 obtain⟨hB,a,ho⟩:=K.k3 hB a ho
 refine Zy (dR (v:=v0) (v2:= .slice (some ⟨J,0,none⟩) 1 1) rfl rfl cV eL Dd ho (eK L rfl) rfl (mV hB) xo xo λp af r j=> ?_)
 replace j:=cH.snoc (enc:=dT) (x:=_) rfl rfl rfl rfl j
 replace hB:=ZG hB r ho
 replace a:=At.grownOw a ho r Dd
 refine Zw p rfl<|ct<|cI<|Zi rfl<|Zv (eB rfl rfl Om Om)<|ZZ rfl ?_
 exact e _ _ ((k+1,p)) Za ⟨rfl,rfl,trivial⟩ ⟨hB,a,(by (rw[←sW (i:=k) (x:=2) Om (by unfold rV;rw[if_pos Om])];exact j)),Om,(d6 hq (pL.2 Om)),trivial⟩ (by show s.length-(k+1)<s.length-k;omega)
 refine Zr<|Zv (j6)<|Zy (cA rfl rfl dh rfl a rfl rfl λag M N=> ?_)
 replace hB:=Zg hB M d
 replace a:=N
 refine Zb rfl<|ct<|Zt<|eh rfl dh a rfl (v1:= .bool false) rfl ⟨hB,?_⟩
 exact(if_neg (by rw[Or (i:=k) (by omega) (by cases h:kh (fZ s k)with|false=>rfl|true=>have:=pL.1 h;omega)];decide)).symm
 refine cT ?_
 have hks:k=s.length:=by omega
 have hqs:∀q,q<s.length→kh (fZ s q)=true:=λq h=>hq q (by omega)
 rw[hks,aa7]at ho
 refine Zr<|Zw v0 rfl<|ZC R3 (qY _ (iE s) _ ho.sl (Id Om hqs)) rfl λah ai O P=> ?_
 obtain⟨hB,a⟩:=O.k2 hB a
 obtain rfl:=P
 refine Zy (cA rfl rfl dh rfl a rfl rfl λaj Q R=> ?_)
 replace hB:=Zg hB Q d
 replace a:=R
 refine Zb rfl<|ct<|Zt<|eh rfl dh a rfl (v1:= .bool true) rfl ⟨hB,?_⟩
 (obtain⟨m1,m2⟩:=KT hqs;rw[if_pos (Dm (by omega) hqs),m1,m2])
theorem jH (line word:List UInt8) (lo hi:Int) (w:World) (h0:0≤lo) (h1:hi<100) (hwl:word.length≤10):
    Fn Tryz.prog 142 #[dY line,dY word, .int .i64 lo, .int .i64 hi] w λv w'=>v= .int .i64 (fG line word lo hi):=by
 refine cM (n:=24) Tryz.func142 rfl rfl rfl λhB=> ?_
 obtain⟨l,rfl⟩:=abj h0
 refine Zr<|ZZ rfl<|Zq<|Zr<|Zi rfl<|ZZ rfl<|cy ?_
 refine cY (σ:=(Nat)) [8,9,11,23] (λn=>[(9, .int .i64 (n:Int))]) (λn W=>(Below w.heap.size w W)∧(l≤n)∧(∀q:Nat,l≤q→q<n→¬line=word++32::ir q)∧(True)) (λn=>(hi+1).toNat-n) (l) ⟨rfl,trivial⟩ ⟨hB,(am _),(λq a b=>by omega),trivial⟩ ?_
 rintro n g8 W7 ⟨hB,hln,hq,_⟩ J9 d
 refine Zq<|Zr<|Zi rfl<|Zi rfl<|Zv (tA rfl rfl)<|ct<|ZQ rfl (λf=> ?_) λf=> ?_
 refine cx<|Zq<|cy ?_
 have hdl:=pM n
 refine Zr<|Zw (.string _) rfl<|Zw (.string _) rfl<|Zv (gK rfl rfl CB)<|Zi rfl<|ZC UP (pj n _ Om) rfl λi j g h=> ?_
 replace hB:=Ze hB g
 obtain rfl:=h
 refine Zv (gK rfl rfl CB)<|Zv (pV rfl rfl)<|ct<|ZQ rfl (λc=> ?_) λc=> ?_
 refine Zr<|Zi rfl<|ZZ rfl<|Zt<|df (v:= .int .i64 _) rfl ⟨hB,?_⟩
 exact congrArg (Value.int .i64) (WB (by omega) (by rw[c];simp) (by omega) (by omega)).symm
 refine cx<|cI<|Zi rfl<|Zv (eB rfl rfl Om Om)<|ZZ rfl ?_
 exact d _ _ (n+1) Za ⟨rfl,trivial⟩ ⟨hB,Om,(λq a b=>by rcases aaK.1 b with b|rfl;exact hq q a b;exact λe=>c (by rw[e];simp)),trivial⟩ Om
 refine cT<|Zr<|ZZ rfl<|Zt<|df (v:= .int .i64 _) rfl ⟨hB,?_⟩
 exact congrArg (Value.int .i64) (U5 λq a b=>hq q (by omega) (by omega)).symm
theorem qX (line:List UInt8) (ni no:Nat) (w:World) (hl:line.length≤100000) (hn8:ni≤8) (hn4:no≤4):
    Fn Tryz.prog 143 #[dY line, .int .i64 (ni:Int), .int .i64 (no:Int)] w λv w'=>∃(m u:Nat) (ov:Value) (os:List Int) (b:Bool),v= .tuple #[.agg #[.int .u8 (m:Int), .int .u8 (u:Int),ov], .bool b]∧m<256∧u<256∧cH dT 1 3 w' w.heap.size ov os∧b=gw (ni:Int) (no:Int) line∧(b=true→(⟨⟨m,u⟩,os⟩:Ln)=pH line):=by
 refine cM (n:=71) Tryz.func143 rfl rfl rfl λhB=> ?_
 refine Zr<|Zy (cK oZ rfl λh W3 N O c=> ?_)
 have o:=ZO N hB
 replace hB:=Ze hB O
 refine Zb rfl<|ct<|Zq<|Zr<|Zw (.string _) rfl<|Zv (mZ rfl Tryz.underlying9)<|Zi rfl<|Zv (eB rfl rfl Om Om)<|Zi rfl<|Zv (eB rfl rfl Om Om)<|Zv (e7 rfl rfl)<|ct<|ZQ rfl (λP=> ?_) λP=> ?_
 refine Zr<|Zv (xe)<|Zy (cA rfl rfl f7 rfl c rfl rfl λay Q R=> ?_)
 replace hB:=Zg hB Q o
 replace c:=R
 refine Zb rfl<|ct<|Zt<|eh rfl f7 c rfl (v1:= .bool false) rfl ⟨hB,?_⟩
 exact⟨0,0,_,[],false,rfl,by decide,by decide,cH.nil,(aa0.2 λk=>absurd (uP.1 k).1 (by omega)).symm,λe=>by cases e⟩
 refine cx<|Zr<|Zw (.string _) rfl<|Zi rfl<|Zv (HW rfl rfl Tryz.underlying9 Om)<|ZC RY (pS (line.take ni) _ Ht) rfl λaz aA S T=> ?_
 obtain⟨hB,c⟩:=S.k2 hB c
 obtain⟨cm,cu,cb,rfl,hcm,hcu,hcb,hcc⟩:=QP T
 refine Zw (.tuple #[.agg #[_,_], .bool cb]) rfl<|Zv (cZ rfl)<|Zv (c7 rfl)<|Zy (cK gU rfl λE aB U V f=> ?_)
 have X:=ZO U hB
 obtain⟨hB,c⟩:=V.k2 hB c
 refine Zy (cA rfl rfl dh rfl f rfl rfl λaC F Y=> ?_)
 replace hB:=Zg hB F X
 replace c:=At.grownAt c f F Dd
 replace f:=Y
 refine Zw (.bool cb) rfl<|ct<|Zr<|Zv (cz rfl dh rfl f)<|Zv (qm (h0:=rfl))<|Zy (cK oZ rfl λG aD H Z d=> ?_)
 have I:=ZO H hB
 have z:=Zn H c.lt
 obtain⟨hB,c,f⟩:=Z.k3 hB c f
 refine Zy (cA rfl rfl f7 rfl d rfl rfl λaE A aa=> ?_)
 replace hB:=Zg hB A I
 replace c:=At.grownNe c z A
 replace f:=At.grownAt f d A Dd
 replace d:=aa
 refine ct<|Zq<|Zr<|Zi rfl<|Zv (eB rfl rfl Om Om)<|ZZ rfl<|cy ?_
 refine cY (σ:=(Nat)×(Value)) [7,7,11,13,33,62] (λ(j,ov)=>[(11, .int .i64 ((ni+1+j:Nat):Int))]) (λsg W=>match sg with|(j,ov)=>(Below w.heap.size w W)∧(At W h _ 37)∧(At W E _ 34)∧(At W G #[.int .u8 (cm:Int), .int .u8 (cu:Int),ov] 37)∧(cH dT 1 3 W w.heap.size ov (iE ((line.drop (ni+1)).take j)))∧(ni+1+j≤line.length)∧(∀q,q<j→kh (fZ (line.drop (ni+1)) q)=true)∧(True)) (λ(j,ov)=>line.length-(ni+1+j)) ((0, .slice none 0 0)) ⟨rfl,trivial⟩ ⟨hB,c,f,d,cH.nil,Om,eT,trivial⟩ ?_
 rintro⟨j,ov⟩ aF aG ⟨hB,c,f,d,hov,hj,hq,_⟩ aH ab
 refine Zq<|Zr<|Zi rfl<|Zw (.string _) rfl<|Zv (mZ rfl Tryz.underlying9)<|Zv (dq rfl rfl)<|ct<|ZQ rfl (λac=> ?_) λac=> ?_
 refine cx<|Zq<|cy<|Zr<|ZZ rfl<|Zq<|Zr<|ZZ rfl<|cy ?_
 refine cY (σ:=(Nat)) [12,13,39,53] (λk=>[(12, .int .i64 (PS (fZ line (ni+1+j)) k)),(13, .int .i64 (k:Int))]) (λk W=>(Below w.heap.size w W)∧(At W h _ 37)∧(At W E _ 34)∧(At W G _ 37)∧(cH dT 1 3 W w.heap.size ov _)∧(k≤3)∧(True)) (λk=>3-k) (0) ⟨rfl,rfl,trivial⟩ ⟨hB,c,f,d,hov,(my _),trivial⟩ ?_
 rintro k aI aJ ⟨hB,c,f,d,hov,hk,_⟩ aK J
 refine Zq<|Zr<|Zi rfl<|Zv (dq rfl rfl)<|ct<|ZQ rfl (λad=> ?_) λad=> ?_
 refine cx<|Zq<|cy<|Zd dC λae af=> ?_
 obtain⟨hB,c,f,d,hov⟩:=af.k5 hB c f d hov
 have hS:=dC.refl ae
 refine Tw 0 (.string _) rfl rfl hS<|Ti 1 rfl rfl hS<|Ti 2 rfl rfl hS<|Tk 3 rfl (λ_ _=>eB rfl rfl Om Om) hS<|Tk 4 rfl (λ_ _=>zu (a:=line) (i:=ni+1+j) (j:=ni+1+j+1) rfl rfl rfl Tryz.underlying9 Om Om) hS<|Ti 6 rfl rfl hS<|To 5 rfl (Sw rfl rfl rfl jO G4 rfl rfl rfl λK ag ah B ai=>⟨.inl (hS.trans B),?_⟩)
 have aj:=ZO ah hB
 obtain⟨hB,c,f,d,hov⟩:=B.k5 hB c f d hov
 replace hS:=hS.trans B
 have L:cH xC 1 9 ag w.heap.size (.slice (some ⟨K,0,none⟩) 3 3) Bi:=xM (l:=Bi) ai aj iN (by decide)
 refine iY (dd:=some 50) 7 ka rfl rfl rfl rfl (Yd.val (dm (v:= .slice (some ⟨K,0,none⟩) 3 3) rfl L.sl rfl jO Om SB) ⟨.inl hS,?_⟩)
 refine iY (dd:=some 51) 8 ka rfl rfl rfl rfl (Yd.val (cD (v:= .string _) rfl kM (dp.cell L.sl iN [] Om SB 0 rfl)) ⟨.inl hS,?_⟩)
 refine Tk 9 rfl (λ_ _=>pV rfl rfl) hS<|Td<|ZQ rfl (λC=> ?_) λC=> ?_
 refine cI<|Zi rfl<|ZZ rfl<|cI<|Zi rfl<|Zv (eB rfl rfl Om Om)<|ZZ rfl ?_
 exact J _ _ (k+1) Za ⟨(by exact congrArg (Value.int .i64) (YX ((Fs Om).symm.trans (by simpa using C)))),rfl,trivial⟩ ⟨hB,c,f,d,hov,Om,trivial⟩ Zo
 refine cx<|cI<|Zi rfl<|Zv (eB rfl rfl Om Om)<|ZZ rfl ?_
 exact J _ _ (k+1) Za ⟨(by exact congrArg (Value.int .i64) (Yu λe=>C (by rw[Fs Om,e];simp))),rfl,trivial⟩ ⟨hB,c,f,d,hov,Om,trivial⟩ Zo
 refine cT<|Zq ?_
 obtain rfl:k=3:=by omega
 refine Zr<|Zi rfl<|Zv (dJ rfl rfl)<|ct<|ZQ rfl (λp=> ?_) λp=> ?_
 refine Zr<|Zv (xe)<|Zy (cA rfl rfl f7 rfl c rfl rfl λaL ak al=> ?_)
 replace hB:=Zg hB ak o
 replace c:=al
 refine Zb rfl<|ct<|Zt<|eh rfl f7 c rfl (v1:= .bool false) rfl ⟨hB,?_⟩
 exact⟨0,0,_,[],false,rfl,by decide,by decide,cH.nil,(Vo (by omega) (by omega) p).symm,λe=>by cases e⟩
 refine cx<|cI<|Zf rfl gX<|ZL ov rfl fp d rfl<|Zi rfl<|Zy (eC (u:= .int .i64 _) rfl cV eL rfl Dd Dd λao aM aN ap aq=> ?_)
 obtain⟨hB,c,f,d,hov⟩:=ap.k5 hB c f d hov
 refine Zy (dR (v:=ov) (v2:= .slice (some ⟨ao,0,none⟩) 1 1) rfl rfl cV eL Dd hov (eK aq rfl) rfl (mV hB) (by rw[mf,aa4,abw];omega) (by rw[mf,aa4,abw];omega) λM aO r g=> ?_)
 replace g:=cH.snoc (enc:=dT) (x:=_) rfl rfl rfl rfl g
 replace hB:=ZG hB r hov
 replace c:=At.grownOw c hov r Dd
 replace f:=At.grownOw f hov r Dd
 replace d:=At.grownOw d hov r Dd
 refine Zf rfl gX<|Zy (db (v:=M) rfl rfl fp (dp.one g.sl) d fD λaP s ar=> ?_)
 replace hB:=Zg hB s I
 replace c:=At.grownNe c z s
 replace f:=At.grownAt f d s Dd
 replace g:=cH.grownAt g d s Dd
 replace d:=ar
 replace d:At _ _ #[_,_,_] _:=d
 refine ct<|cI<|Zi rfl<|Zv (eB rfl rfl Om Om)<|ZZ rfl ?_
 exact ab _ _ ((j+1,M)) Za ⟨rfl,trivial⟩ ⟨hB,c,f,(by exact d),(by (rw[←sW (i:=j) (x:=PS (fZ line (ni+1+j)) 3) (by rw[abw];omega) (by rw[zE];exact(Zu (uc _ _) p).2.symm)];exact g)),Om,(d6 hq (by rw[zE];exact(Zu (uc _ _) p).1)),trivial⟩ Zo
 refine cT<|Zd (λa b=>a.grownBy b (some h)) λau av=> ?_
 obtain⟨hB,c,d,hov⟩:=av.k4 hB c d hov
 have hS:=World.grownBy.refl au (some h)
 refine Tk 0 rfl (λ_ hq=>cz rfl f7 rfl (At.grownNe d (Ne.symm z) hq)) hS<|Tw 1 (.bool cb) rfl rfl hS<|Tx 2 rfl (λ_ _=>jY (v:= .bool cb) rfl) hS (λD=> ?_) λD=> ?_
 refine Tw 3 (.string _) rfl rfl hS<|Ti 4 rfl rfl hS<|Tk 5 rfl (λ_ _=>lF rfl rfl Tryz.underlying9 Om) hS<|Tk 6 rfl (λ_ _=>dJ rfl rfl) hS<|Ty 7 rfl rfl hS<|To 8 rfl (cA rfl rfl f7 rfl c rfl (by exact oV (dp.one (cH.sl hov))) λaQ t aw=>⟨.inl (cB hS t),?_⟩)
 replace hS:=cB hS t
 replace hB:=Zg hB t o
 replace hov:=cH.grownAt hov c t Dd
 replace c:=aw
 refine Ty 9 rfl rfl hS<|Td<|Zt<|eh rfl f7 c rfl (v1:= .bool _) rfl ⟨hB,?_⟩
 exact O6 hcm hcu hcb hcc hov (by omega) (by omega) hq (by (rw[D,abu];exact decide_eq_decide.2 (by omega)))
 refine Tp 3 rfl hS<|Tp 4 rfl hS<|Tp 5 rfl hS<|Tp 6 rfl hS<|Ty 7 rfl rfl hS<|To 8 rfl (cA rfl rfl f7 rfl c rfl (by exact oV (dp.one (cH.sl hov))) λaR y ax=>⟨.inl (cB hS y),?_⟩)
 replace hS:=cB hS y
 replace hB:=Zg hB y o
 replace hov:=cH.grownAt hov c y Dd
 replace c:=ax
 refine Ty 9 rfl rfl hS<|Td<|Zt<|eh rfl f7 c rfl (v1:= .bool false) rfl ⟨hB,?_⟩
 exact O6 hcm hcu hcb hcc hov (by omega) (by omega) hq (by (rw[D];rfl))
set_option maxHeartbeats 4000000 in
set_option maxRecDepth 10000 in
theorem qC (s:List UInt8) (w:World) (hsl:s.length≤100000):
    Fn Tryz.prog 93 #[dY s] w λv w'=>∃lv vs,v= .tuple #[.agg #[.int .i64 (cF s).1.kind, .int .i64 (cF s).1.ni, .int .i64 (cF s).1.no,lv], .int .i64 ((cF s).2.1:Int), .int .i64 (cF s).2.2]∧cH ik 3 37 w' w.heap.size lv vs∧f6 3 w.heap.size w' vs (cF s).1.ls:=by
 refine cM (n:=139) Tryz.func93 rfl rfl rfl λhB=> ?_
 have hlc:=wO s
 refine Zr<|Zy (cK qu rfl λaa W3 az aA f=> ?_)
 have E:=ZO az hB
 replace hB:=Ze hB aA
 refine Zi rfl<|ZZ rfl<|Zq<|Zr<|Zw (.string _) rfl<|Zv (mZ rfl Tryz.underlying9)<|Zv (iG rfl rfl)<|ct<|ZQ rfl (λaB=> ?_) λaB=> ?_
 refine Zr<|Zv (gS)<|Zy (cA rfl rfl dX rfl f rfl rfl λbh aC aD=> ?_)
 replace hB:=Zg hB aC E
 replace f:=aD
 refine Zi rfl<|ZZ rfl<|Zt<|jK rfl dX f rfl (v1:= .int .i64 0) rfl (v2:= .int .i64 3) rfl ⟨hB,?_⟩
 rw[yt (by omega)]
 exact⟨_,[],rfl,cH.nil,f6.nil⟩
 refine cx<|Zr<|Zv (uV (h0:=rfl) (k0:=rfl) (c0_0:= .int .i64 1))<|Zy (cK qu rfl λab bi ar aE d=> ?_)
 have y:=ZO ar hB
 have z:=Zn ar f.lt
 obtain⟨hB,f⟩:=aE.k2 hB f
 refine Zy (cA rfl rfl dX rfl d rfl rfl λbj au aF=> ?_)
 replace hB:=Zg hB au y
 replace f:=At.grownNe f z au
 replace d:=aF
 refine ct<|Zr<|ZZ rfl<|Zr<|ZZ rfl<|Zr<|ZZ rfl<|Zr<|Zw (.string _) rfl<|ct<|Zq ?_
 refine Zr<|ZZ rfl<|cy ?_
 refine cY (σ:=(Nat)×(List (List UInt8))×(List UInt8)×(Value)×(List AA)) [3,4,6,17,23,129] (λ(i,A,l,lv,vs)=>[(10, .int .i64 (i:Int)),(9,dY (l)),(8, .int .i64 (A.length:Int)),(7, .int .i64 (wK (iz (cN s) A.length).st)),(6, .int .i64 (iz (cN s) A.length).told)]) (λsg W=>match sg with|(i,A,l,lv,vs)=>(Below w.heap.size w W)∧(At W aa _ 24)∧(At W ab #[.int .i64 (iz (cN s) A.length).T.kind, .int .i64 (iz (cN s) A.length).T.ni, .int .i64 (iz (cN s) A.length).T.no,lv] 24)∧(cH ik 3 37 W w.heap.size lv vs)∧(f6 3 w.heap.size W vs (iz (cN s) A.length).T.ls)∧(i≤s.length)∧(cN (s.take i)=A++[l])∧(l.length≤i)∧(∀q,q<A.length→lx (iz (cN s) q) ((cN s).getD q [])=0)∧(True)) (λ(i,A,l,lv,vs)=>s.length-i) ((0,[],[], .slice none 0 0,[])) ⟨rfl,rfl,rfl,rfl,rfl,trivial⟩ ⟨hB,f,d,cH.nil,f6.nil,(my _),rfl,(am _),(λq h=>absurd h (Nat.not_lt_zero q)),trivial⟩ ?_
 rintro⟨i,A,l,lv,vs⟩ bk bl ⟨hB,f,d,hlv,hls,hi,hA,hlb,herr,_⟩ bm N
 refine Zq<|Zr<|Zi rfl<|Zw (.string _) rfl<|Zv (mZ rfl Tryz.underlying9)<|Zv (dq rfl rfl)<|ct<|ZQ rfl (λaG=> ?_) λaG=> ?_
 refine cx<|Zq<|cy<|Zq<|Zr<|Zw (.string _) rfl<|Zi rfl<|Zv (lF rfl rfl Tryz.underlying9 Om)<|Zv (e7 rfl rfl)<|ct<|ZQ rfl (λaH=> ?_) λaH=> ?_
 have B:¬fZ s i=10:=by omega
 refine Zr<|Zw (.string _) rfl<|Zw (.string _) rfl<|Zi rfl<|Zi rfl<|Zv (eB rfl rfl Om Om)<|Zv (zu (a:=s) (i:=i) (j:=i+1) rfl rfl rfl Tryz.underlying9 Om Om)<|Zv (gK rfl rfl (by simp only[aa4,abw];omega))<|Zw (.string _) rfl<|ct<|cT<|cI<|Zi rfl ?_
 refine Zv (eB rfl rfl Om Om)<|ZZ rfl ?_
 exact N _ _ ((i+1,A,l++(s.drop i).take (i+1-i),lv,vs)) Za ⟨rfl,rfl,pI,pI,pI,trivial⟩ ⟨hB,f,(by exact d),hlv,(by exact hls),Om,(Mp Om hA B),(by simp only[An,aa4,abw];omega),herr,trivial⟩ (by show s.length-(i+1)<s.length-i;omega)
 refine cx ?_
 have B:fZ s i=10:=by omega
 have hnw:=LB (by omega) hA B
 refine Zr<|Zw (.string _) rfl<|Zw (.string _) rfl<|ct<|Zr<|Zw (.string _) rfl<|ct<|Zr<|Zi rfl<|Zv (eB rfl rfl Om Om)<|ZZ rfl<|Zq<|Zr ?_
 refine Zw (.string _) rfl<|Zv (pV rfl rfl)<|ZX rfl (λt=> ?_) λt=> ?_
 refine Zs<|Zs<|Zs<|Zb rfl<|ct<|cQ rfl<|cT<|cI<|Zi rfl<|Zv (eB rfl rfl Om Om)<|ZZ rfl ?_
 have hr2:=(z8 hnw).trans (jh (r:=(iz (cN s) A.length)) (uS t)).1
 exact N _ _ ((i+1,A++[l],[],lv,vs)) Za ⟨rfl,rfl,(by exact congrArg (Value.int .i64) fD),(by (rw[hr2];rfl)),(by (rw[hr2];rfl)),trivial⟩ ⟨hB,f,(by (rw[hr2];exact d)),hlv,(by (rw[hr2];exact hls)),Om,(uM Om hA B),(my _),(DG herr hnw (jh (uS t)).2),trivial⟩ (by show s.length-(i+1)<s.length-i;omega)
 refine Zw (.string _) rfl<|Zv (lF (i:=0) rfl rfl Tryz.underlying9 (by exact acp.2 t))<|Zv (dJ rfl rfl)<|Zb rfl<|ct<|ZQ rfl (λC=> ?_) λC=> ?_
 refine cT<|cI<|Zi rfl<|Zv (eB rfl rfl Om Om)<|ZZ rfl ?_
 have hr2:=(z8 hnw).trans (jh (r:=(iz (cN s) A.length)) (su C)).1
 exact N _ _ ((i+1,A++[l],[],lv,vs)) Za ⟨rfl,rfl,(by exact congrArg (Value.int .i64) fD),(by (rw[hr2];rfl)),(by (rw[hr2];rfl)),trivial⟩ ⟨hB,f,(by (rw[hr2];exact d)),hlv,(by (rw[hr2];exact hls)),Om,(uM Om hA B),(my _),(DG herr hnw (jh (su C)).2),trivial⟩ (by show s.length-(i+1)<s.length-i;omega)
 refine cx<|Zr<|ZZ rfl ?_
 refine qn (σ:=(Rd)×(Int)×(Value)×(List AA)) [6,7,12,17,50,123] (λ(r2,e,F,G)=>[(12, .int .i64 e),(7, .int .i64 (wK r2.st)),(6, .int .i64 r2.told)]) (λW=>(Below w.heap.size w W)∧(At W aa _ 24)∧(True)) ⟨hB,f,trivial⟩ (λsg W=>match sg with|(r2,e,F,G)=>(At W ab #[.int .i64 r2.T.kind, .int .i64 r2.T.ni, .int .i64 r2.T.no,F] 24)∧(cH ik 3 37 W w.heap.size F G)∧(f6 3 w.heap.size W G r2.T.ls)∧(um (iz (cN s) A.length) l r2 e)∧(True)) (λbn g=> ?_) ?_
 have hok:=Hg (ls:=cN s) A.length (by omega) herr
 have av:=(Ga (cN s) A.length (by omega)).1
 have ac:=(Ga (cN s) A.length (by omega)).2
 have h64:=hok.len
 refine Zr<|Zi rfl<|Zv (dJ rfl rfl)<|ct<|ZQ rfl (λO=> ?_) λO=> ?_
 refine Zr<|Zw (.string _) rfl<|ZC CQ (jH _ [46,105] 0 8 _ Dd Dd Dd) rfl λbo bp aI aJ=> ?_
 obtain⟨hB,f,d,hlv,hls⟩:=aI.k5 hB f d hlv hls
 obtain rfl:=aJ
 refine Zf rfl fT<|Zy (db (v:= .int .i64 _) rfl rfl cR rfl d fD λbq P aK=> ?_)
 replace hB:=Zg hB P y
 replace f:=At.grownNe f z P
 replace hlv:=cH.grownAt hlv d P Dd
 replace hls:=f6.grownAt hls d P Dd
 replace d:=aK
 replace d:At _ _ #[_,_,_,_] _:=d
 refine ct<|Zr<|ZZ rfl<|Zr<|Zf rfl fT<|Zl rfl cR d rfl<|Zv (kn rfl rfl)<|ct<|ZQ rfl (λad=> ?_) λad=> ?_
 refine cI<|ZZ rfl ?_
 exact g _ _ ((⟨{(iz (cN s) A.length).T with ni:=fG l [46,105] 0 8},1,(iz (cN s) A.length).told⟩,0,lv,vs)) Za ⟨rfl,pI,rfl,trivial⟩ ⟨hB,f,trivial⟩ (by exact⟨(by exact d),hlv,(by exact hls),(ZA O (Y6 ad)),trivial⟩)
 refine cx ?_
 exact g _ _ ((⟨{(iz (cN s) A.length).T with ni:=fG l [46,105] 0 8},1,(iz (cN s) A.length).told⟩,2,lv,vs)) Za ⟨rfl,pI,rfl,trivial⟩ ⟨hB,f,trivial⟩ (by exact⟨(by exact d),hlv,(by exact hls),(ZA O (YQ ad)),trivial⟩)
 refine Zr<|Zi rfl<|Zv (dJ rfl rfl)<|ct<|ZQ rfl (λQ=> ?_) λQ=> ?_
 refine Zr<|Zw (.string _) rfl<|ZC CQ (jH _ [46,111] 1 4 _ Dd Dd Dd) rfl λbr bs aL aM=> ?_
 obtain⟨hB,f,d,hlv,hls⟩:=aL.k5 hB f d hlv hls
 obtain rfl:=aM
 refine Zf rfl gD<|Zy (db (v:= .int .i64 _) rfl rfl cR rfl d fD λbt R aN=> ?_)
 replace hB:=Zg hB R y
 replace f:=At.grownNe f z R
 replace hlv:=cH.grownAt hlv d R Dd
 replace hls:=f6.grownAt hls d R Dd
 replace d:=aN
 replace d:At _ _ #[_,_,_,_] _:=d
 refine ct<|Zr<|ZZ rfl<|Zr<|Zf rfl gD<|Zl rfl cR d rfl<|Zv (kn rfl rfl)<|ct<|ZQ rfl (λae=> ?_) λae=> ?_
 refine cI<|ZZ rfl ?_
 exact g _ _ ((⟨{(iz (cN s) A.length).T with no:=fG l [46,111] 1 4},2,(iz (cN s) A.length).told⟩,0,lv,vs)) Za ⟨rfl,pI,rfl,trivial⟩ ⟨hB,f,trivial⟩ (by exact⟨(by exact d),hlv,(by exact hls),(XA Q (Y6 ae)),trivial⟩)
 refine cx ?_
 exact g _ _ ((⟨{(iz (cN s) A.length).T with no:=fG l [46,111] 1 4},2,(iz (cN s) A.length).told⟩,2,lv,vs)) Za ⟨rfl,pI,rfl,trivial⟩ ⟨hB,f,trivial⟩ (by exact⟨(by exact d),hlv,(by exact hls),(XA Q (YQ ae)),trivial⟩)
 refine Zr<|Zi rfl<|Zv (dq rfl rfl)<|ct<|ZQ rfl (λaf=> ?_) λaf=> ?_
 have hsr:=Ya av af O Q
 obtain⟨ni,hni⟩:=abj (hok.i (by omega)).1
 obtain⟨no,hno⟩:=abj (show 0≤(iz (cN s) A.length).T.no by have:=(hok.o hsr.1).1;omega)
 have bu:=(hok.i (by omega)).2
 have hno4:=(hok.o hsr.1).2
 rw[hni,hno]at d
 refine Zr<|ZZ rfl<|Zq<|Zr<|ZZ rfl<|cy ?_
 refine cY (σ:=(Nat)) [13,14,68,79] (λk=>[(13, .int .i64 (oS l k)),(14, .int .i64 (k:Int))]) (λk W=>(Below w.heap.size w W)∧(At W aa _ 24)∧(At W ab _ 24)∧(cH ik 3 37 W w.heap.size lv _)∧(f6 3 w.heap.size W vs ((iz (cN s) A.length).T.ls))∧(k≤4)∧(True)) (λk=>4-k) (0) ⟨rfl,rfl,trivial⟩ ⟨hB,f,d,hlv,hls,(my _),trivial⟩ ?_
 rintro k bv bw ⟨hB,f,d,hlv,hls,hk,_⟩ bx aw
 refine Zq<|Zr<|Zi rfl<|Zv (dq rfl rfl)<|ct<|ZQ rfl (λaO=> ?_) λaO=> ?_
 refine cx<|Zq<|cy ?_
 have hkl:=wl k
 refine Zr<|Zw (.string _) rfl<|ZC Ux (qo _) rfl λaP bz aQ S=> ?_
 have aR:=(Below.size hB)
 obtain⟨hB,f,d,hlv,hls⟩:=aQ.k5 hB f d hlv hls
 replace S:=cH.mono S aR
 refine Zi rfl<|Zv (dm (v:=aP) rfl S.sl rfl jO Om SB)<|Zv (cD (v:= .string _) rfl kM (dp.cell S.sl iN [] Om SB 0 rfl))<|Zv (gK rfl rfl (by simp only[An,aa5,abU,so];omega))<|Zv (pV rfl rfl)<|ct<|ZQ rfl (λag=> ?_) λag=> ?_
 refine cI<|Zi rfl<|ZZ rfl<|cI<|Zi rfl<|Zv (eB rfl rfl Om Om)<|ZZ rfl ?_
 exact aw _ _ (k+1) Za ⟨(by exact congrArg (Value.int .i64) (Pq ag)),rfl,trivial⟩ ⟨hB,f,d,hlv,hls,Om,trivial⟩ Zo
 refine cx<|cI<|Zi rfl<|Zv (eB rfl rfl Om Om)<|ZZ rfl ?_
 exact aw _ _ (k+1) Za ⟨(by exact congrArg (Value.int .i64) (JN ag)),rfl,trivial⟩ ⟨hB,f,d,hlv,hls,Om,trivial⟩ Zo
 refine cT ?_
 obtain rfl:k=4:=by omega
 refine Zr<|Zw (.string _) rfl<|ZC CQ (jH _ [46,112] 0 64 _ Dd Dd Dd) rfl λbA bB aS aT=> ?_
 obtain⟨hB,f,d,hlv,hls⟩:=aS.k5 hB f d hlv hls
 obtain rfl:=aT
 refine ZZ rfl<|Zr<|Zw (.string _) rfl<|Zf rfl fT<|Zl rfl cR d rfl<|Zf rfl gD<|Zl rfl cR d rfl<|ZC Ri (qX _ ni no _ Om Om Om) rfl λbC bD aU aV=> ?_
 have aW:=(Below.size hB)
 obtain⟨hB,f,d,hlv,hls⟩:=aU.k5 hB f d hlv hls
 obtain⟨cm,cu,ov,os,rb,rfl,hcm,hcu,hov,hrb,hrow⟩:=aV
 replace hov:=cH.mono hov aW
 refine Zw (.tuple #[.agg #[_,_,ov], .bool rb]) rfl<|Zv (cZ rfl)<|Zv (c7 rfl)<|Zy (cK oZ rfl λaX bE ax aY p=> ?_)
 have aZ:=ZO ax hB
 have a0:=abE (b:=aX) hlv (aa1 ax.symm)
 obtain⟨hB,f,d,hlv,hls,hov⟩:=aY.k6 hB f d hlv hls hov
 refine Zy (cA rfl rfl f7 rfl p rfl (by exact oV (dp.one (cH.sl hov))) λbF D a1=> ?_)
 replace hB:=Zg hB D aZ
 replace f:=At.grownAt f p D Dd
 replace d:=At.grownAt d p D Dd
 replace hlv:=abg hlv a0 D
 replace hls:=f6.grownAt hls p D Dd
 replace hov:=cH.grownAt hov p D Dd
 replace p:=a1
 refine Zw (.bool rb) rfl<|ct<|Zr<|Zi rfl<|Zv (kn rfl rfl)<|ct<|ZQ rfl (λU=> ?_) λU=> ?_
 refine Zr<|Zi rfl<|Zv (dJ rfl rfl)<|ct<|ZQ rfl (λah=> ?_) λah=> ?_
 refine Zr<|Zi rfl<|Zf rfl mn<|Zy (db (v:= .int .i64 _) rfl rfl cR rfl d fD λbG V a2=> ?_)
 replace hB:=Zg hB V y
 replace f:=At.grownNe f z V
 replace hlv:=cH.grownAt hlv d V Dd
 replace hls:=f6.grownAt hls d V Dd
 replace d:=a2
 replace d:At _ _ #[_,_,_,_] _:=d
 refine ct<|Zr<|ZZ rfl<|cI<|ZZ rfl ?_
 exact g _ _ ((⟨{(iz (cN s) A.length).T with kind:=oS l 4},3,(iz (cN s) A.length).told⟩,0,lv,vs)) Za ⟨rfl,pI,rfl,trivial⟩ ⟨hB,f,trivial⟩ (by exact⟨(by (rw[hni,hno];exact d)),hlv,(by exact hls),(aas ah U),trivial⟩)
 refine cx ?_
 exact g _ _ (((iz (cN s) A.length),2,lv,vs)) Za ⟨rfl,pI,rfl,trivial⟩ ⟨hB,f,trivial⟩ (by exact⟨(by (rw[hni,hno];exact d)),hlv,(by exact hls),(Yx hsr ah U),trivial⟩)
 have hvl:=hls.len
 refine Zr<|Zi rfl<|Zv (kn rfl rfl)<|ct<|ZQ rfl (λX=> ?_) λX=> ?_
 refine Zr<|Zi rfl<|Zv (dq rfl rfl)<|ct<|ZQ rfl (λai=> ?_) λai=> ?_
 refine Zr<|Zi rfl<|ZZ rfl<|Zr<|ZZ rfl<|cI<|ZZ rfl ?_
 exact g _ _ ((⟨(iz (cN s) A.length).T,4,fG l [46,112] 0 64⟩,0,lv,vs)) Za ⟨rfl,pI,rfl,trivial⟩ ⟨hB,f,trivial⟩ (by exact⟨(by (rw[hni,hno];exact d)),hlv,(by exact hls),(Z6 hsr ai X),trivial⟩)
 refine cx ?_
 exact g _ _ (((iz (cN s) A.length),2,lv,vs)) Za ⟨rfl,pI,rfl,trivial⟩ ⟨hB,f,trivial⟩ (by exact⟨(by (rw[hni,hno];exact d)),hlv,(by exact hls),(Yv hsr ai X),trivial⟩)
 refine Zr<|Zw (.string _) rfl<|Zv (pV rfl rfl)<|ct<|ZQ rfl (λH=> ?_) λH=> ?_
 refine Zr<|Zi rfl<|Zv (dq rfl rfl)<|ZX rfl (λaj=> ?_) λaj=> ?_
 refine Zs<|Zs<|Zs<|Zs<|Zs<|Zb rfl<|ct<|cQ rfl<|Zr<|ZZ rfl<|cI<|ZZ rfl ?_
 exact g _ _ ((⟨(iz (cN s) A.length).T,5,(iz (cN s) A.length).told⟩,0,lv,vs)) Za ⟨rfl,pI,rfl,trivial⟩ ⟨hB,f,trivial⟩ (by exact⟨(by (rw[hni,hno];exact d)),hlv,(by exact hls),(Xo hsr H (.inl aj)),trivial⟩)
 refine Zi rfl<|Zf rfl fW<|ZL lv rfl iU d rfl<|Zv (de (v:=lv) rfl hlv.sl gY)<|Zv (dJ rfl rfl)<|Zb rfl<|ct<|ZQ rfl (λa3=> ?_) λa3=> ?_
 refine Zr<|ZZ rfl<|cI<|ZZ rfl ?_
 exact g _ _ ((⟨(iz (cN s) A.length).T,5,(iz (cN s) A.length).told⟩,0,lv,vs)) Za ⟨rfl,pI,rfl,trivial⟩ ⟨hB,f,trivial⟩ (by exact⟨(by (rw[hni,hno];exact d)),hlv,(by exact hls),(Xo hsr H (.inr Om)),trivial⟩)
 refine cx ?_
 exact g _ _ (((iz (cN s) A.length),2,lv,vs)) Za ⟨rfl,pI,rfl,trivial⟩ ⟨hB,f,trivial⟩ (by exact⟨(by (rw[hni,hno];exact d)),hlv,(by exact hls),(YL hsr H aj Om),trivial⟩)
 refine Zr<|Zw (.bool rb) rfl<|ct<|ZQ rfl (λY=> ?_) λY=> ?_
 have ay:=hrow Y
 have hrw:gw (iz (cN s) A.length).T.ni (iz (cN s) A.length).T.no l=true:=by rw[hni,hno,←hrb];exact Y
 have hrc:(⟨cm,cu⟩:Cb)=(pH l).c:=congrArg Ln.c ay
 have hro:os=(pH l).os:=congrArg Ln.os ay
 rw[hro]at hov
 refine Zr<|ZZ rfl<|Zr<|ZZ rfl<|Zq<|Zr<|Zf rfl fW<|ZL lv rfl iU d rfl<|Zv (de (v:=lv) rfl hlv.sl gY)<|Zv (kn rfl rfl)<|ct<|ZQ rfl (λa4=> ?_) λa4=> ?_
 refine cI<|ZZ rfl<|cI<|Zf rfl fW<|ZL lv rfl iU d rfl<|Zv (cz rfl f7 rfl p)<|Zy (eC (u:= .agg #[_,_,_]) rfl gY oQ rfl Dd Dd λak bH bI a5 al=> ?_)
 obtain⟨hB,f,d,hlv,hls,hov⟩:=a5.k6 hB f d hlv hls hov
 refine Zy (dR (v:=lv) (v2:= .slice (some ⟨ak,0,none⟩) 1 1) rfl rfl gY oQ Dd hlv (eK al rfl) (oV (dp.one (cH.sl hov))) (mV hB) Om Om λI bJ J m=> ?_)
 replace m:=cH.snoc (enc:=ik) (x:=⟨⟨cm,cu⟩,ov⟩) rfl rfl rfl rfl m
 replace hB:=ZG hB J hlv
 replace f:=At.grownOw f hlv J Dd
 replace d:=At.grownOw d hlv J Dd
 replace hls:=f6.grownOw hls hlv J Dd
 replace hov:=cH.grownOw hov hlv J Dd
 refine Zf rfl fW<|Zy (db (v:=I) rfl rfl iU (dp.one m.sl) d fD λbK K a6=> ?_)
 replace hB:=Zg hB K y
 replace f:=At.grownNe f z K
 replace hls:=f6.grownAt hls d K Dd
 replace hov:=cH.grownAt hov d K Dd
 replace m:=cH.grownAt m d K Dd
 replace d:=a6
 replace d:At _ _ #[_,_,_,_] _:=d
 refine ct ?_
 exact g _ _ ((⟨{(iz (cN s) A.length).T with ls:=(iz (cN s) A.length).T.ls++[pH l]},4,(iz (cN s) A.length).told⟩,3,I,vs++[⟨⟨cm,cu⟩,ov⟩])) Za ⟨rfl,pI,rfl,trivial⟩ ⟨hB,f,trivial⟩ (by exact⟨(by (rw[hni,hno];exact d)),m,(by exact f6.snoc (l:=pH l) hls hrc hov),(Xg hsr hrw h64 Om),trivial⟩)
 refine cx<|cI<|Zf rfl fW<|ZL lv rfl iU d rfl<|Zv (cz rfl f7 rfl p)<|Zy (eC (u:= .agg #[_,_,_]) rfl gY oQ rfl Dd Dd λak bL bM a7 al=> ?_)
 obtain⟨hB,f,d,hlv,hls,hov⟩:=a7.k6 hB f d hlv hls hov
 refine Zy (dR (v:=lv) (v2:= .slice (some ⟨ak,0,none⟩) 1 1) rfl rfl gY oQ Dd hlv (eK al rfl) (oV (dp.one (cH.sl hov))) (mV hB) Om Om λI bN L m=> ?_)
 replace m:=cH.snoc (enc:=ik) (x:=⟨⟨cm,cu⟩,ov⟩) rfl rfl rfl rfl m
 replace hB:=ZG hB L hlv
 replace f:=At.grownOw f hlv L Dd
 replace d:=At.grownOw d hlv L Dd
 replace hls:=f6.grownOw hls hlv L Dd
 replace hov:=cH.grownOw hov hlv L Dd
 refine Zf rfl fW<|Zy (db (v:=I) rfl rfl iU (dp.one m.sl) d fD λbO M a8=> ?_)
 replace hB:=Zg hB M y
 replace f:=At.grownNe f z M
 replace hls:=f6.grownAt hls d M Dd
 replace hov:=cH.grownAt hov d M Dd
 replace m:=cH.grownAt m d M Dd
 replace d:=a8
 replace d:At _ _ #[_,_,_,_] _:=d
 refine ct ?_
 exact g _ _ ((⟨{(iz (cN s) A.length).T with ls:=(iz (cN s) A.length).T.ls++[pH l]},4,(iz (cN s) A.length).told⟩,0,I,vs++[⟨⟨cm,cu⟩,ov⟩])) Za ⟨rfl,pI,rfl,trivial⟩ ⟨hB,f,trivial⟩ (by exact⟨(by (rw[hni,hno];exact d)),m,(by exact f6.snoc (l:=pH l) hls hrc hov),(aac hsr hrw Om),trivial⟩)
 refine cx ?_
 exact g _ _ (((iz (cN s) A.length),2,lv,vs)) Za ⟨rfl,pI,rfl,trivial⟩ ⟨hB,f,trivial⟩ (by exact⟨(by (rw[hni,hno];exact d)),hlv,(by exact hls),(aay hsr U X H (by rw[hni,hno,←hrb];exact Y)),trivial⟩)
 refine cx ?_
 exact g _ _ (((iz (cN s) A.length),2,lv,vs)) Za ⟨rfl,pI,rfl,trivial⟩ ⟨hB,f,trivial⟩ (by exact⟨(by exact d),hlv,(by exact hls),(aak ac af),trivial⟩)
 rintro⟨r2,e,F,G⟩ bP bQ ⟨hB,f,_⟩ ⟨d,hlv,hls,hst,_⟩
 refine Zr<|Zi rfl<|Zv (e7 rfl rfl)<|ct<|ZQ rfl (λao=> ?_) λao=> ?_
 refine Zr<|Zv (gS)<|Zi rfl<|Zv (jS rfl rfl Om Om)<|Zi rfl<|Zy (cA rfl rfl dX rfl f rfl rfl λbR a9 ba=> ?_)
 replace hB:=Zg hB a9 E
 replace f:=ba
 refine Zi rfl<|ZZ rfl<|Zt<|jK rfl dX f rfl (v1:= .int .i64 _) rfl (v2:= .int .i64 _) rfl ⟨hB,?_⟩
 have hsk:=fH (r:=(iz (cN s) A.length)) (mR t C)
 rw[IU (k:=A.length) (n:=(cN s).length-1) (by omega) (by omega) (by omega) herr (by rw[hnw.1,hsk.2,←hst.1];exact ao),hnw.1,hsk.2,←hst.1,show (A.length:Int)+1-1=A.length by omega]
 exact⟨_,[],rfl,cH.nil,f6.nil⟩
 refine cx<|cI<|Zi rfl<|Zv (eB rfl rfl Om Om)<|ZZ rfl ?_
 have he0:e=0:=aaN ao
 have hr2:=(z8 hnw).trans ((fH (r:=(iz (cN s) A.length)) (mR t C)).1.trans (hst.2 he0).symm)
 exact N _ _ ((i+1,A++[l],[],F,G)) Za ⟨rfl,rfl,(by exact congrArg (Value.int .i64) fD),(by (rw[hr2];rfl)),(by (rw[hr2];rfl)),trivial⟩ ⟨hB,f,(by (rw[hr2];exact d)),hlv,(by (rw[hr2];exact hls)),Om,(uM Om hA B),(my _),(DG herr hnw ((fH (mR t C)).2.trans (hst.1.symm.trans he0))),trivial⟩ (by show s.length-(i+1)<s.length-i;omega)
 refine cT<|Zq ?_
 have hil:i=s.length:=by omega
 rw[hil]at hA
 have hle:=KU hA
 have av:=(Ga (cN s) A.length (by omega)).1
 have ac:=(Ga (cN s) A.length (by omega)).2
 refine Zr<|Zw (.string _) rfl<|Zv (H9 rfl rfl)<|ct<|ZQ rfl (λZ=> ?_) λZ=> ?_
 refine Zr<|Zv (gS)<|Zi rfl<|Zy (cA rfl rfl dX rfl f rfl rfl λbS bb bc=> ?_)
 replace hB:=Zg hB bb E
 replace f:=bc
 refine Zi rfl<|ZZ rfl<|Zt<|jK rfl dX f rfl (v1:= .int .i64 _) rfl (v2:= .int .i64 2) rfl ⟨hB,?_⟩
 rw[zM (n:=A.length) (by omega) hle.1 herr (by rw[hle.2];exact Z)]
 exact⟨_,[],rfl,cH.nil,f6.nil⟩
 refine cx<|Zq<|Zr<|Zi rfl<|Zv (e7 rfl rfl)<|ct<|ZQ rfl (λap=> ?_) λap=> ?_
 refine Zr<|Zv (gS)<|Zi rfl<|Zy (cA rfl rfl dX rfl f rfl rfl λbT bd bf=> ?_)
 replace hB:=Zg hB bd E
 replace f:=bf
 refine Zi rfl<|ZZ rfl<|Zt<|jK rfl dX f rfl (v1:= .int .i64 _) rfl (v2:= .int .i64 7) rfl ⟨hB,?_⟩
 rw[yr (n:=A.length) (by omega) hle.1 herr (by rw[hle.2];exact aaN Z) (λh=>ap (by unfold wK;rw[if_pos h]))]
 exact⟨_,[],rfl,cH.nil,f6.nil⟩
 refine cx<|Zr<|Zv (cz rfl dX rfl d)<|Zy (cA rfl rfl dX rfl f rfl (by exact qv (dp.one (cH.sl hlv))) λbU aq bg=> ?_)
 replace hB:=Zg hB aq E
 replace hlv:=cH.grownAt hlv f aq Dd
 replace hls:=f6.grownAt hls f aq Dd
 replace f:=bg
 refine Zi rfl<|ZZ rfl<|Zt<|jK rfl dX f rfl (v1:= .int .i64 0) rfl (v2:= .int .i64 0) rfl ⟨hB,?_⟩
 rw[Dv (n:=A.length) (by omega) hle.1 herr (by rw[hle.2];exact aaN Z) (Xt ac (by have h6:=aaN ap;omega))]
 exact⟨lv,vs,rfl,hlv,hls⟩
end
section
section
variable {S:Sp}
theorem SH {R:Nat} {e:Int} (h:TB R S e) (hb:(2^S.may.length-1)*bO S<R):e=0:=by
 obtain⟨ns',id,h1,_,_⟩:=h
 obtain⟨c,hc,s⟩:=h1.1.st
 exact(s.ok (by rw[abU];omega)).1
theorem aax:∀n m:Nat,n≤3→m≤2→(2^m-1)*(2^m*(tC n+2*n*3^n)+24+tJ (16+m)*3^n+(16+m)*3^n)<20000:=by
 intro n m hn hm
 have hn':n=0∨n=1∨n=2∨n=3:=by omega
 have hm':m=0∨m=1∨m=2:=by omega
 rcases hn' with rfl|rfl|rfl|rfl<;>rcases hm' with rfl|rfl|rfl<;>decide+kernel
theorem Vk (hn:S.n≤3) (hm:S.may.length≤2):(2^S.may.length-1)*bO S<20000:=aax (nN S) S.may.length (by unfold nN;omega) hm
theorem Tu (hl:(eV S).length≤4000) {T:Nat} (h:WS S T):T+1<2^(eV S).length:=by
 obtain⟨L,ks,h1,h2⟩:=h
 have h3:=vz h1.sub
 have h4:=XK (kT (S:=S) hl)
 exact abe h2 (aa8 (by decide) (go h3 h4))
end
def KQ:Sp:=⟨2,[14],[14]⟩
theorem MB:dt KQ=true:=by decide+kernel
theorem zf:(eV KQ).length=2:=by decide+kernel
theorem Uw:gz KQ (eV KQ)=true:=Jr MB
theorem Pn:gz KQ []=false∧gz KQ [(eV KQ).getD 0 ⟨⟨0,0⟩,0⟩]=false∧gz KQ [(eV KQ).getD 1 ⟨⟨0,0⟩,0⟩]=false:=by decide+kernel
theorem We {Rr:List Rw} (h:F7 KQ Rr):Rr.length=2:=by
 have h1:=h.min _ Uw
 rw[zf]at h1
 have hc:=h.cov
 have hs:=h.sub
 match Rr,h1,hc,hs with
 |[],_,hc,_=>rw[Pn.1]at hc;cases hc
 |[r],_,hc,hs=>
  have hm:r∈eV KQ:=hs.subset (aaL.2 rfl)
  obtain⟨j,hj,rfl⟩:=fi (d:=(⟨⟨0,0⟩,0⟩:Rw)) hm
  rw[zf]at hj
  have:j=0∨j=1:=by omega
  rcases this with rfl|rfl
  ·rw[Pn.2.1]at hc;cases hc
  ·rw[Pn.2.2]at hc;cases hc
 |[_,_],_,_,_=>rfl
 |_::_::_::_,h1,_,_=>simp only[aa5]at h1;omega
theorem aaW {how why sp:Int} {Rr:List Rw} (h:J7 20000 1000000 KQ how why sp Rr):how=1∧why=0∧Rr.length=2:=by
 rcases h with ⟨h1,h2,_,_,_,h3⟩|⟨_,_,⟨_,_,h⟩|⟨_,_,_,h⟩⟩
 ·exact⟨h1,h2,We h3⟩
 ·exact absurd (SH h (Vk (by decide) (by decide))) (by decide)
 ·have:=Tu (by rw[zf];decide) h
  rw[zf]at this
  omega
end
section
def Lc:List UInt8:=[46,105,32,50,10,46,111,32,49,10,48,49,32,49,10,49,48,32,49,10,49,49,32,49,10,46,101,10]
theorem Ko:(cF Lc).2.2=0∧oo (cF Lc).1=0∧(cF Lc).1.ni=2∧(cF Lc).1.no=1:=by decide+kernel
theorem Xz:eg (cF Lc).1=KQ:=by
 have h:(eg (cF Lc).1).n=2∧(eg (cF Lc).1).on=[14]∧(eg (cF Lc).1).may=[14]:=by decide+kernel
 cases hs:eg (cF Lc).1 with
 |mk a b c=>rw[hs]at h;obtain⟨rfl,rfl,rfl⟩:=h;rfl
theorem D1:yA Lc 4 3:=λ_=>by rw[Ko.2.2.1,Ko.2.2.2];decide
section
variable {tx:List UInt8} {how why rows ln e:Int}
theorem aaw (h:AP Lc 20000 1000000 tx how why rows ln e):how=1∧rows=2∧ln=0∧e=0∧tx=iV (nK KQ (eV KQ)):=by
 rcases h with ⟨h,_⟩|⟨_,_,_,h1,h2,sp,Rr,h3,h4,h5⟩
 ·rcases h with ⟨h,_⟩|⟨_,h,_⟩|⟨_,_,h,_⟩
  ·exact absurd Ko.1 h
  ·exact absurd Ko.2.1 h
  ·exact absurd (by decide) h
 ·rw[Xz]at h3 h4
  have h3':J7 20000 1000000 KQ how why sp Rr:=h3
  obtain⟨k1,_,k2⟩:=aaW h3'
  rcases h3' with h6|h6
  ·have hs:Rr=eV KQ:=h6.2.2.2.2.2.sub.eq_of_length (by rw[k2,zf])
   exact⟨k1,by rw[h5,k2];rfl,h1,h2,by rw[h4,hs]⟩
  ·have:=h6.1;omega
end
end
section
theorem VM:dW Tryz.prog 49=some (.agg #[.int .i64 0, .int .i64 0]):=by kernel_rfl
theorem yB {f:Nat→Value} {w:World} {d:Option Nat} {ty:TypeId} {ps:String} {af:Array Edge} {g:Option (Nat×Bool)} {x0 x1:Operand} {c0_0 c1_0:Value} (h0:dk f x0=c0_0) (k0:c0_0.cells= #[c0_0]) (h1:dk f x1=c1_0) (k1:c1_0.cells= #[c1_0]):
  (execOp (dk f) ⟨d, .build 49 #[(0,x0),(1,x1)],ty,ps,af,g⟩).run Tryz.prog w= .ok (.value (.agg #[c0_0,c1_0])) w:=by
 obtain⟨i0,hi0,hz0⟩:=Do.1 (show (Tryz.prog.info? 49).bind (·.zero)=_ from VM)
 obtain⟨j3,hj3,hs3⟩:=an.1 fN
 simp[execOp,h0,k0,h1,k1,Instr.build,zeroValue,typeInfo,sizeOf,hi0,hz0,run_underlying Tryz.underlying49,Instr.fill,d7,hj3,hs3]
theorem GF:cX Tryz.prog 23=true:=by kernel_rfl
end
section
section
variable {S:Sp} {b0 b1 how why sp:Int} {R T:Nat} {Rr:List Rw}
theorem Np (h:J7 R T S how why sp Rr) (h1:how=1):F7 S Rr:=by
 rcases h with h|h
 ·exact h.2.2.2.2.2
 ·have:=h.1;omega
end
end
section
def wT1:List UInt8:=[46,105,32,50,10,46,111,32,49,10,46,116,121,112,101,32,102,100,10,46,112,32,50,10,49,45,32,49,10,45,49,32,49,10,46,101,10]
theorem Qt:iV (nK KQ (eV KQ))=wT1:=by decide+kernel
def AL (s:List UInt8) (a b:Int):Bool:=decide (¬(cF s).2.2=0)||(decide ((cF s).1.ni≤a)&&decide ((cF s).1.no≤b))
def na (s:List UInt8) (b1:Int):Bool:=decide ((s.length:Int)>9000)||(decide (b1>2000)&&decide (b1≤1000000))|| !AL s 4 3
section
variable {s u tx tx2:List UInt8} {a b b0 b1 how why rows ln e how2 why2 rows2 ln2 e2:Int}
theorem YA (h:¬(cF s).2.2=0):Value.bool true= .bool (AL s a b):=by unfold AL;rw[decide_eq_true h];rfl
theorem Ys (h:¬¬(cF s).2.2=0) (h1:(cF s).1.ni≤a):Value.bool (decide ((cF s).1.no≤b))= .bool (AL s a b):=by unfold AL;rw[decide_eq_false h,decide_eq_true h1];rfl
theorem YB (h:¬¬(cF s).2.2=0) (h1:¬(cF s).1.ni≤a):Value.bool false= .bool (AL s a b):=by unfold AL;rw[decide_eq_false h,decide_eq_false h1];rfl
theorem YP (h:(s.length:Int)>9000):Value.bool true= .bool (na s b1):=by unfold na;rw[decide_eq_true h];rfl
theorem Zz (h2:b1>2000) (h3:b1≤1000000):Value.bool true= .bool (na s b1):=by unfold na;rw[decide_eq_true h2,decide_eq_true h3];simp
theorem Uk (h:¬(s.length:Int)>9000) (h2:¬(b1>2000∧b1≤1000000)):Value.bool (!AL s 4 3)= .bool (na s b1):=by
 unfold na
 rw[decide_eq_false h,←Bool.decide_and,decide_eq_false h2];rfl
theorem F3 (h:na s b1=false):s.length≤9000∧yA s 4 3:=by
 unfold na AL at h
 simp only[Bool.or_eq_false_iff,Bool.not_eq_false',decide_eq_false_iff_not,abF,decide_eq_true_eq,th]at h
 refine⟨by omega,λh0=> ?_⟩
 rcases h.2 with h1|h1
 ·exact absurd h0 h1
 ·exact h1
theorem CI (h:AP s b0 b1 tx how why rows ln e) (hf:yA s 4 3) (he:e=0):∃S sp Rr,S=eg (cF s).1∧(cF s).2.2=0∧oo (cF s).1=0∧dt S=true∧S.n≤4∧S.on.length≤3∧ot b0 b1∧J7 b0.toNat b1.toNat S how why sp Rr∧
  tx=iV (nK S Rr)∧rows=(Rr.length:Int)∧ln=0∧gz S Rr=true∧km S Rr=true∧Rr.length≤48:=by
 rcases h with ⟨h,_⟩|⟨hp,ho,hb,h1,_,sp,Rr,h3,h4,h5⟩
 ·exact absurd he h.ne
 ·have hr:=md ho
  obtain⟨hn,hl⟩:=pF hf hp hr
  obtain⟨hc,hl48⟩:=G7 hr hn hl h3
  exact⟨_,sp,Rr,rfl,hp,ho,hr,hn,hl,hb,h3,h4,h5,h1,hc,(eU.1 hc).2.1,hl48⟩
theorem OU (h:AP s b0 b1 tx how why rows ln e) (he:¬e=0):tx=[]∧how=0∧why=0∧rows=0:=by
 rcases h with ⟨_,h⟩|⟨_,_,_,_,h,_⟩
 ·exact h
 ·exact absurd h he
theorem Qa (h:AP s b0 b1 tx how why rows ln e) (he:e=0) (h1:¬how=1):how=2:=by
 rcases h with ⟨h,_⟩|⟨_,_,_,_,_,sp,Rr,h3,_⟩
 ·exact absurd he h.ne
 ·rcases h3 with h3|h3
  ·exact absurd h3.1 h1
  ·exact h3.1
theorem C1 {S:Sp} {Rr:List Rw} (hr:dt S=true) (hm:km S Rr=true) (hl:Rr.length≤48):cF (iV (nK S Rr))=(nK S Rr,0,0):=E5 (sT hr hm (by omega))
theorem L5 (h:AP s b0 b1 tx how why rows ln e) (hf:yA s 4 3):tx.length≤1000:=by
 by_cases he:e=0
 ·obtain⟨S,sp,Rr,_,_,_,hr,_,_,_,_,rfl,_,_,_,hm,hl⟩:=CI h hf he
  exact yQ (sT hr hm (by omega))
 ·rw[(OU h he).1];exact my _
theorem VL (h:AP s b0 b1 tx how why rows ln e) (hf:yA s 4 3) (he:e=0):yA tx 4 3:=by
 obtain⟨S,sp,Rr,_,_,_,hr,hn,h3,_,_,rfl,_,_,_,hm,hl⟩:=CI h hf he
 intro _
 rw[C1 hr hm hl]
 exact⟨hn,by show (S.on.length:Int)≤3;omega⟩
theorem tE (h:AP s b0 b1 tx how why rows ln e) (hf:yA s 4 3) (he:e=0) (h2:AP tx b0 b1 tx2 how2 why2 rows2 ln2 e2):e2=0∧ln2=0∧(how=1→how2=1→rows2=rows):=by
 obtain⟨S,sp,Rr,_,_,_,hr,hn,h3,hb,hmm,htx,hrw,_,hc,hm,hl⟩:=CI h hf he
 have hp:=C1 hr hm hl
 have ho:=Ie hr hm (show Rr.length≤64 by omega)
 rw[←htx]at hp
 rcases h2 with ⟨h2,_⟩|⟨_,_,_,k1,k2,sp2,R2,k3,k4,k5⟩
 ·rcases h2 with ⟨q,_⟩|⟨_,q,_⟩|⟨_,_,q,_⟩
  ·rw[hp]at q;exact absurd rfl q
  ·rw[hp]at q;exact absurd ho q
  ·exact absurd hb q
 ·refine⟨k2,k1,λe1 e2=> ?_⟩
  rw[hp]at k3
  rw[k5,hrw,LM (Np hmm e1) (by omega) (Np k3 e2)]
theorem Ol {S:Sp} {l:List Rw} (h:gz S l=true) (h64:l.length≤64):GT S (eg (nK S l))=true:=by
 obtain⟨hr,hm,hc⟩:=eU.1 h
 obtain⟨h0,h8,h1,h4,h5,hin⟩:=dz.1 hr
 unfold GT
 refine aa2.2 λo ho=> ?_
 have ho:=aba.1 ho
 have hq:=(ig hr hm ho).1 (hc o ho)
 obtain⟨w1,w2⟩:=hin o ho
 unfold qP
 rw[th]
 constructor
 ·refine dL.2 λp hp hb=> ?_
  have hlt:p<2^S.n.toNat:=by
   have:=dL.1 w2 p hp (dL.1 w1 p hp hb)
   rwa [fk,decide_eq_true_eq]at this
  show (AC (eg (nK S l)) o).testBit p=true
  rw[onR ho]
  exact(LR hr hm ho p).2 ⟨hlt,(hq p hlt).1 hb⟩
 ·refine dL.2 λp hp hb=> ?_
  have hb2:(kg (eg (nK S l)) o).testBit p=true:=hb
  rw[Wu ho]at hb2
  obtain⟨h2,h3⟩:=(LR hr hm ho p).1 hb2
  exact(hq p h2).2 h3
theorem OS {b:Bool} (h:AP s b0 b1 tx how why rows ln e) (hf:yA s 4 3) (he:e=0) (h2:Yw s tx b e2):b=true∧e2=0:=by
 obtain⟨S,sp,Rr,rfl,hp,ho,hr,hn,h3,hb,hmm,htx,hrw,_,hc,hm,hl⟩:=CI h hf he
 have hq:=C1 hr hm hl
 have hoq:=Ie hr hm (show Rr.length≤64 by omega)
 rw[←htx]at hq
 have hcm:LU (cF s).1 (cF tx).1:=by
  rw[hq]
  obtain⟨_,_,_,_,h7,_⟩:=iR (F0 hp)
  refine⟨rfl,rfl,?_⟩
  show ((pg _ _).length:Int)=_
  rw[ku]
  omega
 rcases h2 with ⟨h2,_⟩|⟨_,_,_,_,_,k1,k2⟩
 ·rcases h2 with ⟨q,_⟩|⟨_,q,_⟩|⟨_,_,q,_⟩|⟨_,_,_,q,_⟩|⟨_,_,_,_,q,_⟩
  ·exact absurd hp q
  ·exact absurd ho q
  ·rw[hq]at q;exact absurd rfl q
  ·exact absurd hcm q
  ·rw[hq]at q;exact absurd hoq q
 ·refine⟨?_,k1⟩
  rw[k2,hq]
  exact Ol hc (by omega)
end
end
section
theorem Wh:cX Tryz.prog 93=true:=by kernel_rfl
theorem Vd:cX Tryz.prog 24=true:=by kernel_rfl
theorem Mb:cX Tryz.prog 67=true:=by kernel_rfl
theorem Vr:cX Tryz.prog 22=true:=by kernel_rfl
theorem Af:cX Tryz.prog 37=true:=by kernel_rfl
theorem mJ (s:List UInt8) (a b:Int) (w:World) (hsl:s.length≤100000):
    Fn Tryz.prog 67 #[dY s, .int .i64 a, .int .i64 b] w λv w'=>v= .bool (AL s a b):=by
 refine cM (n:=30) Tryz.func67 rfl rfl rfl λhB=> ?_
 refine Zr<|Zb rfl<|ct<|Zr<|Zw (.string _) rfl<|ZC Wh (qC _ _ pN) rfl λp W5 h i=> ?_
 replace hB:=Ze hB h
 obtain⟨j,q,rfl,hsl1_1,c⟩:=i
 replace hsl1_1:=cH.sl hsl1_1
 replace c:=f6.at c
 refine Zw (.tuple #[.agg #[.int .i64 _, .int .i64 _, .int .i64 _,j], .int .i64 _, .int .i64 _]) rfl<|Zv (gR rfl)<|Zv (jm rfl)<|Zv (iQ rfl)<|Zy (cK qu rfl λr W8 k g d=> ?_)
 have l:=ZO k hB
 obtain⟨hB,hsl1_1⟩:=g.k2 hB hsl1_1
 replace c:=qW.ext g c
 refine Zy (cA rfl rfl dX rfl d rfl (by exact qv (dp.one hsl1_1)) λt m o=> ?_)
 replace hB:=Zg hB m l
 replace d:=o
 refine Zi rfl<|ZZ rfl<|Zr<|Zi rfl<|Zv (e7 rfl rfl)<|ZX rfl (λe=> ?_) λe=> ?_
 refine Zs<|Zs<|Zs<|Zs<|Zs<|Zs<|Zs<|Zs<|Zs<|Zs<|Zb rfl<|Zb rfl<|ct<|Zt ?_
 refine df (v:= .bool true) rfl ⟨hB,?_⟩
 exact YA e
 refine Zf rfl fT<|Zl rfl cR d rfl<|Zi rfl<|Zv (tA rfl rfl)<|ZX rfl (λf=> ?_) λf=> ?_
 refine Zf rfl gD<|Zl rfl cR d rfl<|Zi rfl<|Zv (tA rfl rfl)<|Zb rfl<|Zb rfl<|Zb rfl<|ct<|Zt<|df (v:= .bool _) rfl ⟨hB,?_⟩
 exact Ys e f
 refine Zs<|Zs<|Zs<|Zs<|Zb rfl<|Zb rfl<|Zb rfl<|ct<|Zt<|df (v:= .bool false) rfl ⟨hB,?_⟩
 exact YB e f
theorem VS {f:Nat→Value} {w:World} {d:Option Nat} {ty t2:TypeId} {ps:String} {af:Array Edge} {g:Option (Nat×Bool)} {x y:Operand} (hx:dk f x= .agg #[dY [], .int .i64 0, .int .i64 0, .int .i64 0]) (hy:dk f y= .agg #[.string ⟨#[]⟩, .int .i64 0, .int .i64 0, .int .i64 0]):
  (execOp (dk f) ⟨d, .binOp .eql 52 x y t2,ty,ps,af,g⟩).run Tryz.prog w= .ok (.value (.bool true)) w:=by
 unfold dY at hx
 have hg:Tryz.prog.eqGuardType Tryz.prog.depth 52=false:=by kernel_rfl
 have hp:Tryz.prog.stoodInHeld 52=false:=by kernel_rfl
 have hu:Tryz.prog.underlying 52=some (.struct (Tryz.prog.fieldsOf 52)):=by kernel_rfl
 simp only[execOp,hx,hy,Sem.run_bind,run_eqGuard_agg _ _ _ _ _ _ _ hg,Result.andThen_ok,run_eql_struct,run_equalIn_agg _ 9999 52 _ _ hu hp]
 simp only[Program.fieldsOf,Tryz.underlying52]
 simp[Op.eqFields,part,isAgg,run_underlying Tryz.underlying9,run_underlying Tryz.underlying3,run_underlying Tryz.underlying27,run_equalIn_string _ 9998 9 _ _ Tryz.underlying9,run_equalIn_int _ 9998 3 _ _ _ _ Tryz.underlying3,run_equalIn_int _ 9998 27 _ _ _ _ Tryz.underlying27]
theorem gg (w:World) (hgl:Gl w):
    Fn Tryz.prog 37 #[] w λv w'=>v= .bool true:=by
 refine cM (n:=49) Tryz.func37 rfl rfl rfl λhB=> ?_
 refine Zr<|Zb rfl<|ct<|Zr<|Zw (.string _) rfl<|ct<|Zr<|Zw (.string _) rfl<|Zv (yB (h0:=rfl) (k0:=rfl) (h1:=rfl) (k1:=rfl) (c0_0:= .int .i64 20000) (c1_0:= .int .i64 1000000))<|ZC (vs:=[.string _, .agg #[_,_]]) GF (wG Lc 20000 1000000 _ (Gl.below hB hgl) Dd D1) rfl λr W7 h i=> ?_
 replace hB:=Ze hB h
 obtain⟨tx2_2,how2_2,why2_2,rows2_2,ln2_2,e2_2,rfl,b⟩:=i
 obtain⟨rfl,rfl,rfl,rfl,rfl⟩:=aaw b
 refine Zw (.tuple #[.agg #[.string _, .int .i64 _, .int .i64 _, .int .i64 _], .int .i64 0, .int .i64 0]) rfl<|Zv (gR rfl)<|Zv (jm rfl)<|Zv (iQ rfl)<|Zy (cK z7 rfl λs t j k a=> ?_)
 have l:=ZO j hB
 replace hB:=Ze hB k
 refine Zy (cA rfl rfl nk rfl a rfl rfl λu m o=> ?_)
 replace hB:=Zg hB m l
 replace a:=o
 refine Zi rfl<|ZZ rfl<|Zr<|Zw (.string _) rfl<|Zf rfl sj<|ZL (.string _) rfl kM a rfl<|ZC Vd (FV Lc (iV (nK KQ (eV KQ))) _ (Gl.below hB hgl) Dd (by have:=L5 b D1;omega)) rfl λx y p q=> ?_
 obtain⟨hB,a⟩:=p.k2 hB a
 obtain⟨cb3_3,ce3_3,rfl,hC3_3⟩:=q
 obtain⟨rfl,rfl⟩:=OS b D1 rfl hC3_3
 refine Zw (.tuple #[.bool true, .int .i64 0]) rfl<|Zv (cZ rfl)<|Zv (c7 rfl)<|Zb rfl<|ZZ rfl<|Zr<|Zf rfl sj<|ZL (.string _) rfl kM a rfl<|Zv (pV rfl rfl)<|ZX rfl (λc=> ?_) λc=> ?_
 refine Zf rfl pw<|Zl rfl cR a rfl<|Zv (dJ rfl rfl)<|Zb rfl<|ZX rfl (λd=> ?_) λd=> ?_
 refine Zf rfl sI<|Zl rfl cR a rfl<|Zv (dJ rfl rfl)<|Zb rfl<|ZX rfl (λe=> ?_) λe=> ?_
 refine Zi rfl<|Zv (dJ rfl rfl)<|Zb rfl<|ZX rfl (λf=> ?_) λf=> ?_
 refine Zi rfl<|Zv (dJ rfl rfl)<|Zb rfl<|ZX rfl (λg=> ?_) λg=> ?_
 refine Zb rfl<|Zb rfl<|Zb rfl<|Zi rfl<|Zv (dJ rfl rfl)<|Zb rfl<|Zb rfl<|ct<|Zt<|df (v:= .bool _) rfl ⟨hB,?_⟩
 rfl
 exact absurd rfl g
 exact absurd rfl f
 exact absurd rfl e
 exact absurd rfl d
 exact absurd Qt c
theorem qb (s:List UInt8) (b0 b1:Int) (w:World):
    Fn Tryz.prog 22 #[dY s, .agg #[.int .i64 b0, .int .i64 b1]] w λv w'=>v= .bool (na s b1):=by
 refine cM (n:=23) Tryz.func22 rfl rfl rfl λhB=> ?_
 refine Zr<|Zy (dw (c:= #[_,_]) rfl rfl λl W3 m g f=> ?_)
 replace hB:=Ze hB g
 refine Zb rfl<|ct<|Zr<|Zw (.string _) rfl<|Zv (mZ rfl Tryz.underlying9)<|Zv (iG rfl rfl)<|ZX rfl (λa=> ?_) λa=> ?_
 refine Zs<|Zs<|Zs<|Zs<|Zs<|Zs<|Zs<|Zs<|Zb rfl<|Zb rfl<|Zs<|Zs<|Zs<|Zb rfl ?_
 refine Zb rfl<|ct<|Zt<|df (v:= .bool true) rfl ⟨hB,?_⟩
 exact YP a
 refine Zf rfl nC<|Zl rfl cR f rfl<|Zv (iG rfl rfl)<|ZX rfl (λb=> ?_) λb=> ?_
 refine Zf rfl nC<|Zl rfl cR f rfl<|Zv (tA rfl rfl)<|Zb rfl<|Zb rfl<|ZX rfl (λd=> ?_) λd=> ?_
 refine Zs<|Zs<|Zs<|Zb rfl<|Zb rfl<|ct<|Zt<|df (v:= .bool true) rfl ⟨hB,?_⟩
 exact Zz b d
 refine Zw (.string _) rfl<|ZC Mb (mJ s 4 3 _ Om) rfl λi W8 j e=> ?_
 replace hB:=Ze hB j
 obtain rfl:=e
 refine Zv (eR rfl)<|Zb rfl<|Zb rfl<|ct<|Zt<|df (v:= .bool _) rfl ⟨hB,?_⟩
 exact Uk a (λh=>d h.2)
 refine Zs<|Zs<|Zs<|Zb rfl<|Zb rfl<|Zb rfl<|Zw (.string _) rfl<|ZC Mb (mJ s 4 3 _ Om) rfl λi o k e=> ?_
 replace hB:=Ze hB k
 obtain rfl:=e
 refine Zv (eR rfl)<|Zb rfl<|Zb rfl<|ct<|Zt<|df (v:= .bool _) rfl ⟨hB,?_⟩
 exact Uk a (λh=>b h.1)
theorem oq (s:List UInt8) (b0 b1:Int) (w:World) (hgl:Gl w):
    Fn Tryz.prog 8 #[dY s, .agg #[.int .i64 b0, .int .i64 b1]] w λv w'=>v= .bool true:=by
 refine cM (n:=73) Tryz.func8 rfl rfl rfl λhB=> ?_
 refine Zr<|Zy (dw (c:= #[_,_]) rfl rfl λW W3 X y b=> ?_)
 replace hB:=Ze hB y
 refine Zb rfl<|ct<|Zq<|Zr<|Zw (.string _) rfl<|Zv (cz rfl uY rfl b)<|ZC (vs:=[.string _, .agg #[_,_]]) Vr (qb s b0 b1 _) rfl λY Z z A=> ?_
 obtain⟨hB,b⟩:=z.k2 hB b
 obtain rfl:=A
 refine ct<|ZQ rfl (λk=> ?_) λk=> ?_
 refine Zr<|ZC Af (gg _ (Gl.below hB hgl)) rfl λaa ab B C=> ?_
 replace hB:=Ze hB B
 obtain rfl:=C
 refine Zb rfl<|ct<|Zt<|df (v:= .bool _) rfl ⟨hB,?_⟩
 rfl
 refine cx ?_
 obtain⟨hl9,hfew⟩:=F3 k
 refine Zr<|Zw (.string _) rfl<|Zv (cz rfl uY rfl b)<|ZC (vs:=[.string _, .agg #[_,_]]) GF (wG s b0 b1 _ (Gl.below hB hgl) Om hfew) rfl λac ad D E=> ?_
 obtain⟨hB,b⟩:=D.k2 hB b
 obtain⟨tx3_2,how3_2,why3_2,rows3_2,ln3_2,e3_2,rfl,e⟩:=E
 refine Zw (.tuple #[.agg #[.string _, .int .i64 _, .int .i64 _, .int .i64 _], .int .i64 _, .int .i64 _]) rfl<|Zv (gR rfl)<|Zv (jm rfl)<|Zv (iQ rfl)<|Zy (cK z7 rfl λae af F G a=> ?_)
 have H:=ZO F hB
 obtain⟨hB,b⟩:=G.k2 hB b
 refine Zy (cA rfl rfl nk rfl a rfl rfl λag l I=> ?_)
 replace hB:=Zg hB l H
 replace b:=At.grownAt b a l Dd
 replace a:=I
 refine Zi rfl<|ZZ rfl<|Zq<|Zr<|Zi rfl<|Zv (e7 rfl rfl)<|ZX rfl (λd=> ?_) λd=> ?_
 refine Zs<|Zs<|Zs<|Zb rfl<|ct<|cQ rfl ?_
 obtain⟨rfl,rfl,rfl,rfl⟩:=OU e d
 refine Zr<|Zi rfl<|Zv (e7 rfl rfl)<|ZX rfl (λf=> ?_) λf=> ?_
 refine Zv (cz rfl nk rfl a)<|Zv (wM)<|Zv (VS rfl rfl)<|Zb rfl<|Zx (jY (v:= .bool true) rfl) (λm=> ?_) λm=> ?_
 refine Zs<|Zs<|Zs<|Zb rfl<|Zb rfl<|ZC Af (gg _ (Gl.below hB hgl)) rfl λJ ah K h=> ?_
 replace hB:=Ze hB K
 obtain rfl:=h
 refine Zb rfl<|Zb rfl<|ct<|Zt<|df (v:= .bool _) rfl ⟨hB,?_⟩
 rfl
 exact Bool.noConfusion m
 exact absurd d f
 refine Zf rfl pw<|Zl rfl cR a rfl<|Zv (e7 rfl rfl)<|Zb rfl<|ct<|ZQ rfl (λi=> ?_) λi=> ?_
 have hh2:=Qa e (aaN d) i
 refine Zr<|Zi rfl<|Zv (e7 rfl rfl)<|ZX rfl (λf=> ?_) λf=> ?_
 exact absurd (aaN d) f
 refine Zs<|Zs<|Zs<|Zb rfl<|Zb rfl<|Zf rfl pw<|Zl rfl cR a rfl<|Zv (dJ rfl rfl)<|Zb rfl<|ZX rfl (λo=> ?_) λo=> ?_
 refine ZC Af (gg _ (Gl.below hB hgl)) rfl λJ ai L h=> ?_
 replace hB:=Ze hB L
 obtain rfl:=h
 refine Zb rfl<|Zb rfl<|ct<|Zt<|df (v:= .bool _) rfl ⟨hB,?_⟩
 rfl
 exact absurd hh2 o
 refine cx ?_
 have he0:=aaN d
 have hh1:=aaN i
 refine Zr<|Zf rfl sj<|ZL (.string _) rfl kM a rfl<|Zv (cz rfl uY rfl b)<|ZC (vs:=[.string _, .agg #[_,_]]) GF (wG tx3_2 b0 b1 _ (Gl.below hB hgl) (by have:=L5 e hfew;omega) (VL e hfew he0)) rfl λaj ak M N=> ?_
 obtain⟨hB,a⟩:=M.k2 hB a
 obtain⟨tx6_3,how6_3,why6_3,rows6_3,ln6_3,e6_3,rfl,O⟩:=N
 obtain⟨rfl,rfl,hag6_3⟩:=tE e hfew he0 O
 refine Zw (.tuple #[.agg #[.string _, .int .i64 _, .int .i64 _, .int .i64 _], .int .i64 0, .int .i64 0]) rfl<|Zv (gR rfl)<|Zv (jm rfl)<|Zv (iQ rfl)<|Zy (cK z7 rfl λal ao p P g=> ?_)
 have Q:=ZO p hB
 have R:=Zn p a.lt
 obtain⟨hB,a⟩:=P.k2 hB a
 refine Zy (cA rfl rfl nk rfl g rfl rfl λap q S=> ?_)
 replace hB:=Zg hB q Q
 replace a:=At.grownNe a R q
 replace g:=S
 refine Zi rfl<|ZZ rfl<|Zr<|Zi rfl<|Zv (dJ rfl rfl)<|ZX rfl (λr=> ?_) λr=> ?_
 refine Zi rfl<|Zv (dJ rfl rfl)<|Zb rfl<|ZX rfl (λt=> ?_) λt=> ?_
 refine Zf rfl pw<|Zl rfl cR g rfl<|Zv (e7 rfl rfl)<|ZX rfl (λu=> ?_) λu=> ?_
 refine Zs<|Zs<|Zs<|Zs<|Zs<|Zb rfl<|Zb rfl<|Zb rfl<|ZC Af (gg _ (Gl.below hB hgl)) rfl λT aq U j=> ?_
 replace hB:=Ze hB U
 obtain rfl:=j
 refine Zb rfl<|Zb rfl<|ct<|Zt<|df (v:= .bool _) rfl ⟨hB,?_⟩
 rfl
 refine Zf rfl sI<|Zl rfl cR g rfl<|Zf rfl sI<|Zl rfl cR a rfl<|Zv (dJ rfl rfl)<|Zb rfl<|Zb rfl<|ZX rfl (λx=> ?_) λx=> ?_
 refine ZC Af (gg _ (Gl.below hB hgl)) rfl λT ar V j=> ?_
 replace hB:=Ze hB V
 obtain rfl:=j
 refine Zb rfl<|Zb rfl<|ct<|Zt<|df (v:= .bool _) rfl ⟨hB,?_⟩
 rfl
 exact absurd (hag6_3 hh1 (aaN u)) x
 exact absurd rfl t
 exact absurd rfl r
end
end Go.Proofs.YtedeonkjellcpaaGreatDoor
