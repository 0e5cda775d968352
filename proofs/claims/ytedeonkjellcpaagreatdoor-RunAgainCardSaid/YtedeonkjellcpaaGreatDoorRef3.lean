/- The way through a job's steps; a text, run. The steps of the check that compare and ask; the check. What the check of a text against another one comes to. No program in it. The check of a text against another one. The document's reading of texts, and that it comes to what the program's reading comes -/
import Derived.Test.YtedeonkjellcpaaGreatDoorRunP
namespace Go.Proofs.YtedeonkjellcpaaGreatDoor
set_option linter.unusedVariables false
set_option linter.unusedSimpArgs false
section
open Go Go.RowKit
theorem uy:fl Tryz.prog 184=some (1,1,8):=by kernel_rfl
theorem V0:eJ Tryz.prog 1=true:=by kernel_rfl
theorem z7:dW Tryz.prog 52=some (.agg #[.string ⟨#[]⟩, .int .i64 0, .int .i64 0, .int .i64 0]):=by kernel_rfl
theorem Qo:dW Tryz.prog 127=some (.agg #[.int .i64 0, .int .i64 0, .int .i64 0, .slice none 0 0, .int .i64 0, .int .i64 0, .int .i64 0, .slice none 0 0, .int .i64 0, .slice none 0 0, .slice none 0 0, .slice none 0 0, .int .i64 0, .int .i64 0, .int .i64 0, .string ⟨#[]⟩, .int .i64 0, .int .i64 0, .int .i64 0, .int .i64 0, .int .i64 0]):=by kernel_rfl
theorem Lb:(Tryz.prog.info? 52).map (·.size)=some 4:=by kernel_rfl
theorem K8:(Tryz.prog.info? 59).map (·.size)=some 3:=by kernel_rfl
theorem Lz:(Tryz.prog.info? 85).map (·.size)=some 4:=by kernel_rfl
theorem uZ {f:Nat→Value} {w:World} {d:Option Nat} {ty:TypeId} {ps:String} {af:Array Edge} {g:Option (Nat×Bool)}:
    (execOp (dk f) ⟨d, .build 127 #[],ty,ps,af,g⟩).run Tryz.prog w= .ok (.value (.agg #[.int .i64 0, .int .i64 0, .int .i64 0, .slice none 0 0, .int .i64 0, .int .i64 0, .int .i64 0, .slice none 0 0, .int .i64 0, .slice none 0 0, .slice none 0 0, .slice none 0 0, .int .i64 0, .int .i64 0, .int .i64 0, .string ⟨#[]⟩, .int .i64 0, .int .i64 0, .int .i64 0, .int .i64 0, .int .i64 0])) w:=by
  obtain⟨i0,hi0,hz0⟩:=Do.1 (show (Tryz.prog.info? 127).bind (·.zero)=_ from Qo)
  obtain⟨j3,hj3,hs3⟩:=an.1 fN
  obtain⟨j24,hj24,hs24⟩:=an.1 Bn
  obtain⟨j27,hj27,hs27⟩:=an.1 nE
  obtain⟨j52,hj52,hs52⟩:=an.1 Lb
  obtain⟨j59,hj59,hs59⟩:=an.1 K8
  obtain⟨j85,hj85,hs85⟩:=an.1 Lz
  simp[execOp,Instr.build,zeroValue,typeInfo,sizeOf,hi0,hz0,run_underlying Tryz.underlying127,Instr.fill,d7,hj3,hs3,hj24,hs24,hj27,hs27,hj52,hs52,hj59,hs59,hj85,hs85]
theorem Ir:dW Tryz.prog 125=some (.pointer none):=by kernel_rfl
theorem PJ:(dW Tryz.prog 1).map (λz=>z.cells.size)=some 1:=by kernel_rfl
theorem OL:cX Tryz.prog 68=true:=by kernel_rfl
theorem WQ:cX Tryz.prog 69=true:=by kernel_rfl
theorem VZ:cX Tryz.prog 70=true:=by kernel_rfl
theorem U9:cX Tryz.prog 71=true:=by kernel_rfl
theorem WG:cX Tryz.prog 72=true:=by kernel_rfl
theorem UE:cX Tryz.prog 73=true:=by kernel_rfl
theorem KI:d5 Tryz.prog 85 1=some 1:=by kernel_rfl
theorem LC:d5 Tryz.prog 85 2=some 2:=by kernel_rfl
theorem pw:d5 Tryz.prog 52 1=some 1:=by kernel_rfl
theorem LQ:d5 Tryz.prog 52 2=some 2:=by kernel_rfl
theorem sI:d5 Tryz.prog 52 3=some 3:=by kernel_rfl
theorem nk:kf Tryz.prog 52=some 4:=by kernel_rfl
theorem M2:(Tryz.prog.info? 9).map (·.size)=some 1:=by kernel_rfl
theorem wM {f:Nat→Value} {w:World} {d:Option Nat} {ty:TypeId} {ps:String} {af:Array Edge} {g:Option (Nat×Bool)}:
    (execOp (dk f) ⟨d, .build 52 #[],ty,ps,af,g⟩).run Tryz.prog w= .ok (.value (.agg #[.string ⟨#[]⟩, .int .i64 0, .int .i64 0, .int .i64 0])) w:=by
  obtain⟨i0,hi0,hz0⟩:=Do.1 (show (Tryz.prog.info? 52).bind (·.zero)=_ from z7)
  obtain⟨j3,hj3,hs3⟩:=an.1 fN
  obtain⟨j9,hj9,hs9⟩:=an.1 M2
  obtain⟨j27,hj27,hs27⟩:=an.1 nE
  simp[execOp,Instr.build,zeroValue,typeInfo,sizeOf,hi0,hz0,run_underlying Tryz.underlying52,Instr.fill,d7,hj3,hs3,hj9,hs9,hj27,hs27]
theorem mM (N bj:Nat) (xs:Value) (fs:List Value) (q:Nat→Nat) (cap:Nat→Array Value) (J:Nat→World→Prop) (E:World→Prop) (w:World) (hN0:N≤w.heap.size) (hsl:∀k W,J k W→dp encV 1 W xs fs) (hfl:fs.length≤100) (hfs:∀k,k<fs.length→fs.getD k undef= .func (.func (q k)) #[] (cap k)) (hcb:∀k,k<fs.length→cX Tryz.prog (q k)=true) (hJ:J 0 w) (hst:∀k W,k<fs.length→N≤W.heap.size→J k W→lc Tryz.prog (q k) (cap k) W λv W'=>Below N W W'∧∃cs e,At W' bj cs 127∧cs[20]? =some (.int .i64 e)∧(e=0→J (k+1) W')∧(¬e=0→E W')):
    lc Tryz.prog 68 #[.pointer (some ⟨bj,0,none⟩),xs] w λv w'=>Below N w w'∧((v= .bool true∧J fs.length w')∨(v= .bool false∧E w')):=by
 refine dK (n:=21) (N:=N) Tryz.func68 rfl rfl rfl λhB=> ?_
 have hxs:=hsl 0 w hJ
 refine Zr<|Zb rfl<|ct<|Zq<|Zr<|Zw xs rfl<|Zv (de (v:=xs) rfl hxs uy)<|ZZ rfl<|cy ?_
 refine cY (σ:=(Nat)) [4,4,6,6,9,20] (λk=>[(9, .int .i64 (k:Int))]) (λk W=>(Below N w W)∧(J k W)∧(dp encV 1 W xs fs)∧(k≤fs.length)∧(True)) (λk=>fs.length-k) (0) ⟨rfl,trivial⟩ ⟨hB,hJ,hxs,(my _),trivial⟩ ?_
 rintro k g8 W7 ⟨hB,hJ,hxs,hk,_⟩ J9 c
 refine Zr<|Zv (dq rfl rfl)<|ct<|Zq<|ZQ rfl (λd=> ?_) λd=> ?_
 refine cx<|Zq<|cy<|Zr<|Zv (dm (v:=xs) rfl hxs rfl uy Om Om)<|Zv (cD (v:=(fs.getD k undef)) rfl V0 (dp.cell hxs fX undef Om Om 0 rfl))<|Zw (fs.getD k undef) rfl<|ct<|Zr<|Zw (fs.getD k undef) rfl ?_
 refine mQ (dd:=some 14) rfl rfl rfl (ip (q:=q k) (first:= #[]) (cap:=cap k) (vs:=cap k) (hfs k Om) (hcb k Om) fD) (hst k _ Om (go hN0 (Below.size hB)) hJ) (λg h f=> ?_)
 obtain⟨hBt,cs,e,hj,hc,h0,h1⟩:=f
 replace hB:=Below.trans hB hBt
 refine ct<|Zr<|Zp rfl<|Zc rfl<|Zf rfl eZ<|Zv (cD (v:= .int .i64 e) rfl fe (At.cell hj hc))<|Zv (e7 rfl rfl)<|ct<|ZQ rfl (λb=> ?_) λb=> ?_
 refine Zr<|Zb rfl<|ct<|Zt<|df (v:= .bool false) rfl ?_
 exact⟨hB, .inr ⟨rfl,h1 b⟩⟩
 refine cx<|ZT rfl rfl rfl ?_
 exact c _ _ (k+1) Za ⟨rfl,trivial⟩ ⟨hB,(h0 (aaN b)),(hsl _ _ (h0 (aaN b))),Om,trivial⟩ Zo
 refine cT<|Zr<|Zb rfl<|ct<|Zt<|df (v:= .bool true) rfl ?_
 (obtain rfl:k=fs.length:=(by omega);exact⟨hB, .inl ⟨rfl,hJ⟩⟩)
def A4 (N bp bt bb br bj:Nat) (xs:Value) (fs:List Value) (s:List UInt8) (b0 b1:Int) (W:World):Prop:=
  (∀V,Below N W V→Gl V)∧At W bp #[.pointer (some ⟨bj,0,none⟩)] 125∧At W bt #[dY s] 9∧At W bb #[.int .i64 b0, .int .i64 b1] 49∧At W br #[.string ⟨#[]⟩, .int .i64 0, .int .i64 0, .int .i64 0] 52∧cH encV 1 1 W N xs fs
theorem A4.dx {N bp bt bb br bj:Nat} {xs:Value} {fs:List Value} {s:List UInt8} {b0 b1:Int} {W W':World} {cj:Array Value} (h:A4 N bp bt bb br bj xs fs s b0 b1 W) (hN:N≤W.heap.size) (hX:Dx 127 N [bj] W W') (hj:At W bj cj 127):A4 N bp bt bb br bj xs fs s b0 b1 W':=
  ⟨λV hV=>h.1 V (Below.trans (hX.below2 hN) hV),acX hX hj h.2.1 (by decide),acX hX hj h.2.2.1 (by decide),acX hX hj h.2.2.2.1 (by decide),acX hX hj h.2.2.2.2.1 (by decide),acW hX hj h.2.2.2.2.2 (by decide)⟩
def KK (N bp bt bb br bj:Nat) (xs:Value) (fs:List Value) (s:List UInt8) (b0 b1:Int):Nat→World→Prop
  |0=>λW=>A4 N bp bt bb br bj xs fs s b0 b1 W∧At W bj #[.int .i64 0, .int .i64 0, .int .i64 0, .slice none 0 0, .int .i64 0, .int .i64 0, .int .i64 0, .slice none 0 0, .int .i64 0, .slice none 0 0, .slice none 0 0, .slice none 0 0, .int .i64 0, .int .i64 0, .int .i64 0, .string ⟨#[]⟩, .int .i64 0, .int .i64 0, .int .i64 0, .int .i64 0, .int .i64 0] 127
  |1=>λW=>A4 N bp bt bb br bj xs fs s b0 b1 W∧(cF s).2.2=0∧∃lv vs,At W bj #[.int .i64 (cF s).1.kind, .int .i64 (cF s).1.ni, .int .i64 (cF s).1.no,lv, .int .i64 0, .int .i64 0, .int .i64 0, .slice none 0 0, .int .i64 0, .slice none 0 0, .slice none 0 0, .slice none 0 0, .int .i64 0, .int .i64 0, .int .i64 0, .string ⟨#[]⟩, .int .i64 0, .int .i64 0, .int .i64 0, .int .i64 ((cF s).2.1:Int), .int .i64 0] 127∧cH ik 3 37 W N lv vs∧f6 3 N W vs (cF s).1.ls
  |2=>λW=>A4 N bp bt bb br bj xs fs s b0 b1 W∧(cF s).2.2=0∧oo (cF s).1=0∧∃lv onV mayV,At W bj #[.int .i64 (cF s).1.kind, .int .i64 (cF s).1.ni, .int .i64 (cF s).1.no,lv, .int .i64 0, .int .i64 0, .int .i64 0, .slice none 0 0, .int .i64 (eg (cF s).1).n,onV,mayV, .slice none 0 0, .int .i64 0, .int .i64 0, .int .i64 0, .string ⟨#[]⟩, .int .i64 0, .int .i64 0, .int .i64 0, .int .i64 ((cF s).2.1:Int), .int .i64 0] 127∧cH fh 4 40 W N onV ((eg (cF s).1).on)∧cH fh 4 40 W N mayV ((eg (cF s).1).may)
  |3=>λW=>A4 N bp bt bb br bj xs fs s b0 b1 W∧(cF s).2.2=0∧oo (cF s).1=0∧ot b0 b1∧∃lv onV mayV x how why sp Rr,At W bj #[.int .i64 (cF s).1.kind, .int .i64 (cF s).1.ni, .int .i64 (cF s).1.no,lv, .int .i64 0, .int .i64 0, .int .i64 0, .slice none 0 0, .int .i64 (eg (cF s).1).n,onV,mayV,x, .int .i64 how, .int .i64 why, .int .i64 sp, .string ⟨#[]⟩, .int .i64 0, .int .i64 0, .int .i64 0, .int .i64 ((cF s).2.1:Int), .int .i64 0] 127∧cH fh 4 40 W N onV ((eg (cF s).1).on)∧cH fh 4 40 W N mayV ((eg (cF s).1).may)∧cH gx 3 158 W N x (Rr)∧J7 b0.toNat b1.toNat (eg (cF s).1) how why sp Rr
  |4=>λW=>A4 N bp bt bb br bj xs fs s b0 b1 W∧(cF s).2.2=0∧oo (cF s).1=0∧ot b0 b1∧∃lv onV mayV x how why sp Rr lv2 vs2,At W bj #[.int .i64 (cF s).1.kind, .int .i64 (cF s).1.ni, .int .i64 (cF s).1.no,lv, .int .i64 (nK (eg (cF s).1) Rr).kind, .int .i64 (nK (eg (cF s).1) Rr).ni, .int .i64 (nK (eg (cF s).1) Rr).no,lv2, .int .i64 (eg (cF s).1).n,onV,mayV,x, .int .i64 how, .int .i64 why, .int .i64 sp, .string ⟨#[]⟩, .int .i64 0, .int .i64 0, .int .i64 0, .int .i64 ((cF s).2.1:Int), .int .i64 0] 127∧cH gx 3 158 W N x (Rr)∧J7 b0.toNat b1.toNat (eg (cF s).1) how why sp Rr∧cH ik 3 37 W N lv2 vs2∧f6 3 N W vs2 (nK (eg (cF s).1) Rr).ls
  |_=>λW=>A4 N bp bt bb br bj xs fs s b0 b1 W∧(cF s).2.2=0∧oo (cF s).1=0∧ot b0 b1∧∃lv onV mayV x how why sp Rr lv2,At W bj #[.int .i64 (cF s).1.kind, .int .i64 (cF s).1.ni, .int .i64 (cF s).1.no,lv, .int .i64 (nK (eg (cF s).1) Rr).kind, .int .i64 (nK (eg (cF s).1) Rr).ni, .int .i64 (nK (eg (cF s).1) Rr).no,lv2, .int .i64 (eg (cF s).1).n,onV,mayV,x, .int .i64 how, .int .i64 why, .int .i64 sp,dY (iV (nK (eg (cF s).1) Rr)), .int .i64 0, .int .i64 0, .int .i64 0, .int .i64 ((cF s).2.1:Int), .int .i64 0] 127∧cH gx 3 158 W N x (Rr)∧J7 b0.toNat b1.toNat (eg (cF s).1) how why sp Rr
def Zh (N bp bt bb br bj:Nat) (xs:Value) (fs:List Value) (s:List UInt8) (b0 b1:Int) (W:World):Prop:=At W bp #[.pointer (some ⟨bj,0,none⟩)] 125∧At W br #[.string ⟨#[]⟩, .int .i64 0, .int .i64 0, .int .i64 0] 52∧∃cs ln e,At W bj cs 127∧cs[19]? =some (.int .i64 ln)∧cs[20]? =some (.int .i64 e)∧DX s b0 b1 ln e
theorem KK.xs {N bp bt bb br bj:Nat} {xs:Value} {fs:List Value} {s:List UInt8} {b0 b1:Int}:∀k W,KK N bp bt bb br bj xs fs s b0 b1 k W→dp encV 1 W xs fs:=by
  intro k W h
  have hC:A4 N bp bt bb br bj xs fs s b0 b1 W:=by
    match k,h with
    |0,h|1,h|2,h|3,h|4,h|_+5,h=>exact h.1
  exact hC.2.2.2.2.2.sl
def YW:Nat→Nat:=ZR 69 70 71 72 73
def pv (b:Nat):Value:= .pointer (some ⟨b,0,none⟩)
def OT (bp bt bb:Nat):Nat→Array Value:=cF5 #[pv bt,pv bp] #[pv bp] #[pv bp,pv bb] #[pv bp] #[pv bp]
theorem NG {N bp bt bb br bj:Nat} {xs:Value} {fs:List Value} {s:List UInt8} {b0 b1:Int} (loj:N≤bj) (hsl:s.length≤100000) (hfew:yA s 4 3):∀k W,k<5→N≤W.heap.size→KK N bp bt bb br bj xs fs s b0 b1 k W→
    lc Tryz.prog (YW k) (OT bp bt bb k) W λv W'=>Below N W W'∧∃cs e,At W' bj cs 127∧cs[20]? =some (.int .i64 e)∧(e=0→KK N bp bt bb br bj xs fs s b0 b1 (k+1) W')∧(¬e=0→Zh N bp bt bb br bj xs fs s b0 b1 W'):=by
  intro k W hk hN hI
  match k,hk,hI with
  |0,_,hI=>
    obtain⟨hC,hj⟩:=hI
    refine lc.mono (Ei N bj bp bt s W hN hC.1 hC.2.1 loj hj hC.2.2.1 hsl) λv W' ⟨hX,lv,vs,h1,h2,h3⟩=>⟨hX.below2 hN,_,_,h1,rfl,λe=>⟨hC.dx hN hX hj,e,lv,vs,by rw[e]at h1;exact h1,h2,h3⟩,λe=>⟨(hC.dx hN hX hj).2.1,(hC.dx hN hX hj).2.2.2.2.1,_,_,_,h1,rfl,rfl, .inl ⟨e,rfl,rfl⟩⟩⟩
  |1,_,hI=>
    obtain⟨hC,hp,lv,vs,hj,hlv,hls⟩:=hI
    refine lc.mono (Fj N bj bp (cF s).1 lv vs _ W hN hC.1 hC.2.1 loj hj hlv hls (zV s)) λv W' ⟨hX,h⟩=>⟨hX.below2 hN,?_⟩
    rcases h with ⟨h0,onV,mayV,h1,h2,h3⟩|⟨h0,h1⟩
    · exact⟨_,_,h1,rfl,λ_=>⟨hC.dx hN hX hj,hp,h0,lv,onV,mayV,h1,h2,h3⟩,λe=>absurd rfl e⟩
    · exact⟨_,_,h1,rfl,λe=>absurd e h0,λ_=>⟨(hC.dx hN hX hj).2.1,(hC.dx hN hX hj).2.2.2.2.1,_,_,_,h1,rfl,rfl, .inr (.inl ⟨hp,h0,by rw[FP hp];rfl,rfl⟩)⟩⟩
  |2,_,hI=>
    obtain⟨hC,hp,h0,lv,onV,mayV,hj,hon,hmay⟩:=hI
    refine lc.mono (FE N bj bp bb (eg (cF s).1) onV mayV b0 b1 _ _ _ _ _ W hN hC.1 hC.2.1 loj hj hon hmay hC.2.2.2.1 (pF hfew hp)) λv W' ⟨hX,h⟩=>⟨hX.below2 hN,?_⟩
    rcases h with ⟨hb,x,how,why,sp,Rr,h1,h2,h3⟩|⟨hb,h1⟩
    · exact⟨_,_,h1,rfl,λ_=>⟨hC.dx hN hX hj,hp,h0,hb.2,lv,onV,mayV,x,how,why,sp,Rr,h1,acW hX hj hon (by decide),acW hX hj hmay (by decide),h2,h3⟩,λe=>absurd rfl e⟩
    · exact⟨_,_,h1,rfl,λe=>absurd e (by decide),λ_=>⟨(hC.dx hN hX hj).2.1,(hC.dx hN hX hj).2.2.2.2.1,_,_,_,h1,rfl,rfl, .inr (.inr ⟨hp,h0,λk=>hb ⟨md h0,k⟩,by rw[FP hp];rfl,rfl⟩)⟩⟩
  |3,_,hI=>
    obtain⟨hC,hp,h0,hb,lv,onV,mayV,x,how,why,sp,Rr,hj,hon,hmay,hx,hmo⟩:=hI
    have hr:=md h0
    obtain⟨hcv,h48⟩:=G7 hr (pF hfew hp hr).1 (pF hfew hp hr).2 hmo
    have hm:=(eU.1 hcv).2.1
    refine lc.mono (EO N bj bp (eg (cF s).1) onV mayV x Rr _ _ _ _ _ _ _ _ W hN hC.1 hC.2.1 loj hj hon hmay hx hr hm (NQ hr hm) (by omega)) λv W' ⟨hX,lv2,vs2,h1,h2,h3⟩=>⟨hX.below2 hN,_,_,h1,rfl,λ_=>⟨hC.dx hN hX hj,hp,h0,hb,lv,onV,mayV,x,how,why,sp,Rr,lv2,vs2,h1,acW hX hj hx (by decide),hmo,h2,h3⟩,λe=>absurd rfl e⟩
  |4,_,hI=>
    obtain⟨hC,hp,h0,hb,lv,onV,mayV,x,how,why,sp,Rr,lv2,vs2,hj,hx,hmo,hlv2,hls2⟩:=hI
    have hr:=md h0
    obtain⟨hcv,h48⟩:=G7 hr (pF hfew hp hr).1 (pF hfew hp hr).2 hmo
    have hT:=sT hr (eU.1 hcv).2.1 (show Rr.length≤64 by omega)
    refine lc.mono (EZ N bj bp (nK (eg (cF s).1) Rr) lv2 vs2 _ _ _ _ _ _ _ _ _ _ _ _ W hN hC.1 hC.2.1 loj hj hlv2 hls2 (FZ hT) hT) λv W' ⟨hX,h1⟩=>⟨hX.below2 hN,_,_,h1,rfl,λ_=>⟨hC.dx hN hX hj,hp,h0,hb,lv,onV,mayV,x,how,why,sp,Rr,lv2,h1,acW hX hj hx (by decide),hmo⟩,λe=>absurd rfl e⟩
  |k+5,hk,_=>exact absurd hk (by omega)
set_option maxHeartbeats 4000000 in
theorem wG (s:List UInt8) (b0 b1:Int) (w:World) (hgl:Gl w) (hsl:s.length≤100000) (hfew:yA s 4 3):
    Fn Tryz.prog 23 #[dY s, .agg #[.int .i64 b0, .int .i64 b1]] w λv w'=>∃tx how why rows ln e,v= .tuple #[.agg #[dY tx, .int .i64 how, .int .i64 why, .int .i64 rows], .int .i64 ln, .int .i64 e]∧AP s b0 b1 tx how why rows ln e:=by
 refine cM (n:=62) Tryz.func23 rfl rfl rfl λhB=> ?_
 refine Zr<|Zy (dw (c:= #[_]) rfl rfl λm W3 ai K h=> ?_)
 replace hB:=Ze hB K
 refine Zy (dw (c:= #[_,_]) rfl rfl λo W6 aj L j=> ?_)
 obtain⟨hB,h⟩:=L.k2 hB h
 refine Zy (cK z7 rfl λy W9 M N p=> ?_)
 have G:=ZO M hB
 obtain⟨hB,h,j⟩:=N.k3 hB h j
 refine Zi rfl<|ZZ rfl<|Zr<|Zv (uZ)<|Zy (dw (c:= #[_,_,_,_,_,_,_,_,_,_,_,_,_,_,_,_,_,_,_,_,_]) rfl rfl λf ak O P q=> ?_)
 have z:=ZO O hB
 obtain⟨hB,h,j,p⟩:=P.k4 hB h j p
 refine Zy (cK Ir rfl λd al Q R i=> ?_)
 have S:=ZO Q hB
 obtain⟨hB,h,j,p,q⟩:=R.k5 hB h j p q
 refine Zy (db (v:= .pointer (some ⟨f,0,none⟩)) rfl rfl dE rfl i K1 λao r T=> ?_)
 replace hB:=Zg hB r S
 replace h:=At.grownAt h i r Dd
 replace j:=At.grownAt j i r Dd
 replace p:=At.grownAt p i r Dd
 replace q:=At.grownAt q i r Dd
 replace i:=T
 replace i:At _ _ #[_] _:=i
 refine ct<|Zr<|ZL (.pointer (some ⟨f,0,none⟩)) rfl dE i rfl<|Zv (eS (vs:= #[.pointer (some ⟨m,0,none⟩), .pointer (some ⟨d,0,none⟩)]) AO)<|Zv (eS (vs:= #[.pointer (some ⟨d,0,none⟩)]) AO)<|Zv (eS (vs:= #[.pointer (some ⟨d,0,none⟩), .pointer (some ⟨o,0,none⟩)]) AO)<|Zv (eS (vs:= #[.pointer (some ⟨d,0,none⟩)]) AO)<|Zv (eS (vs:= #[.pointer (some ⟨d,0,none⟩)]) AO)<|Zy (Nr (u0:= .func (.func 69) #[] #[.pointer (some ⟨m,0,none⟩), .pointer (some ⟨d,0,none⟩)]) (u1:= .func (.func 70) #[] #[.pointer (some ⟨d,0,none⟩)]) (u2:= .func (.func 71) #[] #[.pointer (some ⟨d,0,none⟩), .pointer (some ⟨o,0,none⟩)]) (u3:= .func (.func 72) #[] #[.pointer (some ⟨d,0,none⟩)]) (u4:= .func (.func 73) #[] #[.pointer (some ⟨d,0,none⟩)]) rfl rfl rfl rfl rfl uy PJ rfl rfl rfl rfl rfl λH ap U W X=> ?_)
 have Y:=ZO U hB
 obtain⟨hB,h,j,p,q,i⟩:=W.k6 hB h j p q i
 have C:=ER X Y
 replace C:cH encV 1 _ _ _ _ (QL 69 70 71 72 73 #[pv m,pv d] #[pv d] #[pv d,pv o] #[pv d] #[pv d]):=C
 refine ZH OL (mM w.heap.size f _ (QL 69 70 71 72 73 #[pv m,pv d] #[pv d] #[pv d,pv o] #[pv d] #[pv d]) YW (OT d m o) (KK w.heap.size d m o y f (.slice (some ⟨H,0,none⟩) 5 5) (QL 69 70 71 72 73 #[pv m,pv d] #[pv d] #[pv d,pv o] #[pv d] #[pv d]) s b0 b1) (Zh w.heap.size d m o y f (.slice (some ⟨H,0,none⟩) 5 5) (QL 69 70 71 72 73 #[pv m,pv d] #[pv d] #[pv d,pv o] #[pv d] #[pv d]) s b0 b1) _ (Below.size hB) KK.xs (show 5≤100 by decide) (λk hk=>Kc hk) (λk _=>fB5 WQ VZ U9 WG UE) ⟨⟨λV hV=>Gl.below (Below.trans hB hV) hgl,i,h,j,p,C⟩,q⟩ (NG z hsl hfew)) rfl λaq ar Z=> ?_
 obtain⟨hBt,hR⟩:=Z
 replace hB:=Below.trans hB hBt
 rcases hR with hR|hR
 obtain⟨rfl,⟨_,hbp,_,_,hbr,_⟩,hp,hof,hbd,lv,onV,mayV,x,how,why,sp,Rr,au,hbj,hx,hmo⟩:=hR
 refine Zb rfl<|ct<|Zq<|Zr<|Zb rfl<|Zv (eR rfl)<|ct<|dH rfl<|cx<|Zd (λa b=>D4 f 16 a b) λI aa=> ?_
 obtain⟨hB,hbp,hbr,hbj,hx⟩:=aa.k5 hB hbp hbr hbj hx
 have l:=hbj
 have hS:D4 f 16 I I:=D4.refl
 refine Tk 0 rfl (λ_ hq=>cD (v:= .pointer (some ⟨f,0,none⟩)) rfl dE (At.cell (At.grownAt hbp l hq.g Dd) rfl)) hS<|Tk 1 rfl (λ_ hq=>cD (v:= .pointer (some ⟨f,0,none⟩)) rfl dE (At.cell (At.grownAt hbp l hq.g Dd) rfl)) hS<|Tk 2 rfl (λ_ hq=>cD (v:= .pointer (some ⟨f,0,none⟩)) rfl dE (At.cell (At.grownAt hbp l hq.g Dd) rfl)) hS<|Tk 3 rfl (λ_ hq=>cD (v:= .pointer (some ⟨f,0,none⟩)) rfl dE (At.cell (At.grownAt hbp l hq.g Dd) rfl)) hS<|Tc 4 rfl rfl hS<|Tf 5 rfl rfl mh hS<|Tf 6 rfl rfl KI hS<|Tk 7 rfl (λ_ hq=>cD (v:= .int .i64 _) rfl cR (D4.cell hq l Dd rfl)) hS<|Tk 8 rfl (λ_ hq=>cD (v:= .pointer (some ⟨f,0,none⟩)) rfl dE (At.cell (At.grownAt hbp l hq.g Dd) rfl)) hS<|Tc 9 rfl rfl hS<|Tf 10 rfl rfl mh hS<|Tf 11 rfl rfl LC hS<|Tk 12 rfl (λ_ hq=>cD (v:= .int .i64 _) rfl fe (D4.cell hq l Dd rfl)) hS<|Tk 13 rfl (λ_ hq=>cD (v:= .pointer (some ⟨f,0,none⟩)) rfl dE (At.cell (At.grownAt hbp l hq.g Dd) rfl)) hS ?_
 refine Tc 14 rfl rfl hS<|Tf 15 rfl rfl mh hS<|Tf 16 rfl rfl sk hS<|Tk 17 rfl (λ_ hq=>cD (v:=x) rfl ng (D4.cell hq l Dd rfl)) hS<|Tk 18 rfl (λ_ hq=>de (v:=x) rfl ((cH.grownAt hx l hq.g Dd)).sl dM) hS<|Tc 19 rfl rfl hS<|Tf 20 rfl rfl oa hS<|Tf 21 rfl rfl pw hS<|To 22 rfl (db (v:= .int .i64 _) rfl rfl cR rfl hbj fD λav t D=>⟨.inl (ac5 hS hbj t D (by decide)),?_⟩)
 replace hS:=ac5 hS hbj t D Dd
 replace hB:=Zg hB t z
 replace hbp:=At.grownAt hbp hbj t Dd
 replace hbr:=At.grownAt hbr hbj t Dd
 replace hbj:=D
 replace hbj:At _ _ #[_,_,_,_,_,_,_,_,_,_,_,_,_,_,_,_,_,_,_,_,_] _:=hbj
 refine Tc 23 rfl rfl hS<|Tf 24 rfl rfl oa hS<|Tf 25 rfl rfl LQ hS<|To 26 rfl (db (v:= .int .i64 _) rfl rfl fe rfl hbj fD λaw u E=>⟨.inl (ac5 hS hbj u E (by decide)),?_⟩)
 replace hS:=ac5 hS hbj u E Dd
 replace hB:=Zg hB u z
 replace hbp:=At.grownAt hbp hbj u Dd
 replace hbr:=At.grownAt hbr hbj u Dd
 replace hbj:=E
 replace hbj:At _ _ #[_,_,_,_,_,_,_,_,_,_,_,_,_,_,_,_,_,_,_,_,_] _:=hbj
 refine Tc 27 rfl rfl hS<|Tf 28 rfl rfl oa hS<|Tf 29 rfl rfl sI hS<|To 30 rfl (db (v:= .int .i64 _) rfl rfl cR rfl hbj fD λax A J=>⟨.inl (ac5 hS hbj A J (by decide)),?_⟩)
 replace hB:=Zg hB A z
 replace hbp:=At.grownAt hbp hbj A Dd
 replace hbr:=At.grownAt hbr hbj A Dd
 replace hbj:=J
 replace hbj:At _ _ #[_,_,_,_,_,_,_,_,_,_,_,_,_,_,_,_,_,_,_,_,_] _:=hbj
 refine Td<|Zr<|ZL (.pointer (some ⟨f,0,none⟩)) rfl dE hbp rfl<|Zc rfl<|Zf rfl oa<|Zv (eQ rfl nk (At.cell hbj rfl) (At.cell hbj rfl) (At.cell hbj rfl) (At.cell hbj rfl))<|Zy (cA rfl rfl nk rfl hbr rfl rfl λay ab ac=> ?_)
 replace hB:=Zg hB ab G
 replace hbr:=ac
 refine Zi rfl<|ZZ rfl<|Zt<|jK rfl nk hbr rfl (v1:= .int .i64 0) rfl (v2:= .int .i64 0) rfl ⟨hB,?_⟩
 exact⟨_,_,_,_,_,_,rfl, .inr ⟨hp,hof,hbd,rfl,rfl,sp,Rr,hmo,rfl,rfl⟩⟩
 obtain⟨rfl,hbp,hbr,cs,ln,er,hbj,ad,ae,herr⟩:=hR
 refine Zb rfl<|ct<|Zq<|Zr<|Zb rfl<|Zv (eR rfl)<|ct<|cQ rfl<|Zd (λa b=>a.grownBy b (some y)) λaf ag=> ?_
 obtain⟨hB,hbp,hbr,hbj⟩:=ag.k4 hB hbp hbr hbj
 have B:=hbr
 have hS:=World.grownBy.refl af (some y)
 refine Tk 0 rfl (λ_ _=>wM) hS<|Tk 1 rfl (λ_ hq=>cD (v:= .pointer (some ⟨f,0,none⟩)) rfl dE (At.cell (At.grownAt hbp B hq Dd) rfl)) hS<|Tc 2 rfl rfl hS<|Tf 3 rfl rfl zT hS<|Tk 4 rfl (λ_ hq=>cD (v:= .int .i64 ln) rfl cR (At.cell (At.grownAt hbj B hq Dd) ad)) hS<|Tk 5 rfl (λ_ hq=>cD (v:= .pointer (some ⟨f,0,none⟩)) rfl dE (At.cell (At.grownAt hbp B hq Dd) rfl)) hS<|Tc 6 rfl rfl hS<|Tf 7 rfl rfl eZ hS<|Tk 8 rfl (λ_ hq=>cD (v:= .int .i64 er) rfl fe (At.cell (At.grownAt hbj B hq Dd) ae)) hS<|To 9 rfl (cA rfl rfl nk rfl hbr rfl rfl λaz F ah=>⟨.inl (cB hS F),?_⟩)
 replace hS:=cB hS F
 replace hB:=Zg hB F G
 replace hbr:=ah
 refine Ti 10 rfl rfl hS<|Ti 11 rfl rfl hS<|Td<|Zt<|jK rfl nk hbr rfl (v1:= .int .i64 _) rfl (v2:= .int .i64 _) rfl ⟨hB,?_⟩
 exact⟨_,_,_,_,_,_,rfl, .inl ⟨herr,rfl,rfl,rfl,rfl⟩⟩
end
section
open Go Go.RowKit
theorem A7 (N bj bp:Nat) (T U:Tb) (lv lu s0 s1 s2:Value) (w:World) (hN0:N≤w.heap.size) (hgl:∀W,Below N w W→Gl W) (hbp:At w bp #[.pointer (some ⟨bj,0,none⟩)] 125) (loj:N≤bj) (hbj:At w bj #[.int .i64 T.kind, .int .i64 T.ni, .int .i64 T.no,lv, .int .i64 U.kind, .int .i64 U.ni, .int .i64 U.no,lu,s0,s1,s2, .slice none 0 0, .int .i64 0, .int .i64 0, .int .i64 0, .string ⟨#[]⟩, .int .i64 0, .int .i64 0, .int .i64 0, .int .i64 0, .int .i64 0] 127):
    lc Tryz.prog 77 #[.pointer (some ⟨bp,0,none⟩)] w λv w'=>Dx 127 N [bj] w w'∧(((U.kind=1∧U.ni=T.ni∧U.no=T.no)∧At w' bj #[.int .i64 T.kind, .int .i64 T.ni, .int .i64 T.no,lv, .int .i64 U.kind, .int .i64 U.ni, .int .i64 U.no,lu,s0,s1,s2, .slice none 0 0, .int .i64 0, .int .i64 0, .int .i64 0, .string ⟨#[]⟩, .int .i64 0, .int .i64 0, .int .i64 0, .int .i64 0, .int .i64 0] 127)∨(¬(U.kind=1∧U.ni=T.ni∧U.no=T.no)∧At w' bj #[.int .i64 T.kind, .int .i64 T.ni, .int .i64 T.no,lv, .int .i64 U.kind, .int .i64 U.ni, .int .i64 U.no,lu,s0,s1,s2, .slice none 0 0, .int .i64 0, .int .i64 0, .int .i64 0, .string ⟨#[]⟩, .int .i64 0, .int .i64 0, .int .i64 0, .int .i64 0, .int .i64 1] 127)):=by
 refine dK (n:=36) (N:=N) Tryz.func77 rfl rfl rfl λhB=> ?_
 have hX:Dx 127 N [bj] w w:=Dx.refl
 refine Zd dC λW3 a=> ?_
 obtain⟨hbp,hbj,hX⟩:=a.k3 hbp hbj hX
 have hS:=dC.refl W3
 refine Tk 0 rfl (λ_ hq=>cD (v:= .pointer (some ⟨bj,0,none⟩)) rfl dE (At.cell (hq.at hbp) rfl)) hS<|Tc 1 rfl rfl hS<|Tf 2 rfl rfl jZ hS<|Tf 3 rfl rfl mn hS<|Tk 4 rfl (λ_ hq=>cD (v:= .int .i64 _) rfl cR (At.cell (hq.at hbj) rfl)) hS<|Tk 5 rfl (λ_ _=>e7 rfl rfl) hS<|Tx 6 rfl (λ_ _=>jY (v:= .bool _) rfl) hS (λb=> ?_) λb=> ?_
 refine Tp 7 rfl hS<|Tp 8 rfl hS<|Tp 9 rfl hS<|Tp 10 rfl hS<|Tp 11 rfl hS<|Tp 12 rfl hS<|Tp 13 rfl hS<|Tp 14 rfl hS<|Tp 15 rfl hS<|Tp 16 rfl hS<|Tp 17 rfl hS<|Ty 18 rfl rfl hS<|Ty 19 rfl rfl hS<|Tp 20 rfl hS ?_
 refine Tp 21 rfl hS<|Tp 22 rfl hS<|Tp 23 rfl hS<|Tp 24 rfl hS<|Tp 25 rfl hS<|Tp 26 rfl hS<|Tp 27 rfl hS<|Tp 28 rfl hS<|Tp 29 rfl hS<|Tp 30 rfl hS<|Ty 31 rfl rfl hS<|Td<|cQ rfl<|cI ?_
 refine ZL (.pointer (some ⟨bj,0,none⟩)) rfl dE hbp rfl<|Zc rfl<|Zf rfl eZ<|Zy (db (v:= .int .i64 1) rfl rfl fe rfl hbj fD λW5 c d=> ?_)
 replace hX:=Dx.trans hX (abZ c loj)
 replace hbj:=d
 replace hbj:At _ _ #[_,_,_,_,_,_,_,_,_,_,_,_,_,_,_,_,_,_,_,_,_] _:=hbj
 refine ct ?_
 repeat (first|refine eN ?_|refine ex ?_)
 refine eq ?_
 repeat (first|refine d9 ?_|refine dO ?_)
 refine oe ?_
 exact⟨hX, .inr ⟨by omega,hbj⟩⟩
 refine Tk 7 rfl (λ_ hq=>cD (v:= .pointer (some ⟨bj,0,none⟩)) rfl dE (At.cell (hq.at hbp) rfl)) hS<|Tc 8 rfl rfl hS<|Tf 9 rfl rfl jZ hS<|Tf 10 rfl rfl fT hS<|Tk 11 rfl (λ_ hq=>cD (v:= .int .i64 _) rfl cR (At.cell (hq.at hbj) rfl)) hS<|Tk 12 rfl (λ_ hq=>cD (v:= .pointer (some ⟨bj,0,none⟩)) rfl dE (At.cell (hq.at hbp) rfl)) hS<|Tc 13 rfl rfl hS<|Tf 14 rfl rfl mj hS<|Tf 15 rfl rfl fT hS<|Tk 16 rfl (λ_ hq=>cD (v:= .int .i64 _) rfl cR (At.cell (hq.at hbj) rfl)) hS<|Tk 17 rfl (λ_ _=>e7 rfl rfl) hS<|Ty 18 rfl rfl hS<|Tx 19 rfl (λ_ _=>jY (v:= .bool _) rfl) hS (λe=> ?_) λe=> ?_
 refine Tp 20 rfl hS<|Tp 21 rfl hS<|Tp 22 rfl hS<|Tp 23 rfl hS<|Tp 24 rfl hS<|Tp 25 rfl hS<|Tp 26 rfl hS<|Tp 27 rfl hS<|Tp 28 rfl hS<|Tp 29 rfl hS<|Tp 30 rfl hS<|Ty 31 rfl rfl hS<|Td<|cQ rfl ?_
 refine cI<|ZL (.pointer (some ⟨bj,0,none⟩)) rfl dE hbp rfl<|Zc rfl<|Zf rfl eZ<|Zy (db (v:= .int .i64 1) rfl rfl fe rfl hbj fD λW8 f g=> ?_)
 replace hX:=Dx.trans hX (abZ f loj)
 replace hbj:=g
 replace hbj:At _ _ #[_,_,_,_,_,_,_,_,_,_,_,_,_,_,_,_,_,_,_,_,_] _:=hbj
 refine ct ?_
 repeat (first|refine eN ?_|refine ex ?_)
 refine eq ?_
 repeat (first|refine d9 ?_|refine dO ?_)
 refine oe ?_
 exact⟨hX, .inr ⟨by omega,hbj⟩⟩
 refine Tk 20 rfl (λ_ hq=>cD (v:= .pointer (some ⟨bj,0,none⟩)) rfl dE (At.cell (hq.at hbp) rfl)) hS<|Tc 21 rfl rfl hS<|Tf 22 rfl rfl jZ hS<|Tf 23 rfl rfl gD hS<|Tk 24 rfl (λ_ hq=>cD (v:= .int .i64 _) rfl cR (At.cell (hq.at hbj) rfl)) hS<|Tk 25 rfl (λ_ hq=>cD (v:= .pointer (some ⟨bj,0,none⟩)) rfl dE (At.cell (hq.at hbp) rfl)) hS<|Tc 26 rfl rfl hS<|Tf 27 rfl rfl mj hS<|Tf 28 rfl rfl gD hS<|Tk 29 rfl (λ_ hq=>cD (v:= .int .i64 _) rfl cR (At.cell (hq.at hbj) rfl)) hS<|Tk 30 rfl (λ_ _=>e7 rfl rfl) hS<|Ty 31 rfl rfl hS<|Td<|ZQ rfl (λh=> ?_) λh=> ?_
 refine cI<|ZL (.pointer (some ⟨bj,0,none⟩)) rfl dE hbp rfl<|Zc rfl<|Zf rfl eZ<|Zy (db (v:= .int .i64 1) rfl rfl fe rfl hbj fD λk i j=> ?_)
 replace hX:=Dx.trans hX (abZ i loj)
 replace hbj:=j
 replace hbj:At _ _ #[_,_,_,_,_,_,_,_,_,_,_,_,_,_,_,_,_,_,_,_,_] _:=hbj
 refine ct ?_
 repeat (first|refine eN ?_|refine ex ?_)
 refine eq ?_
 repeat (first|refine d9 ?_|refine dO ?_)
 refine oe ?_
 exact⟨hX, .inr ⟨by omega,hbj⟩⟩
 refine cx ?_
 repeat (first|refine eN ?_|refine ex ?_)
 refine eq ?_
 repeat (first|refine d9 ?_|refine dO ?_)
 refine oe ?_
 exact⟨hX, .inl ⟨⟨by omega,by omega,by omega⟩,hbj⟩⟩
theorem A8 (N bj bp:Nat) (U:Tb) (lu:Value) (us:List AA) (t0 t1 t2 t3 s0 s1 s2:Value) (bg:Nat) (w:World) (hN0:N≤w.heap.size) (hgl:∀W,Below N w W→Gl W) (hbp:At w bp #[.pointer (some ⟨bj,0,none⟩)] 125) (loj:N≤bj) (hbj:At w bj #[t0,t1,t2,t3, .int .i64 U.kind, .int .i64 U.ni, .int .i64 U.no,lu,s0,s1,s2, .slice none 0 0, .int .i64 0, .int .i64 0, .int .i64 0, .string ⟨#[]⟩, .int .i64 0, .int .i64 0, .int .i64 0, .int .i64 0, .int .i64 0] 127) (hlv:cH ik 3 37 w N lu (us)) (hls:f6 3 N w us U.ls) (hmb:∀i,i<U.ls.length→(U.ls.getD i jE).c.m<256∧(U.ls.getD i jE).c.v<256) (hbg:At w bg #[.int .i64 0, .slice none 0 0, .slice none 0 0] 59) (log:N≤bg):
    lc Tryz.prog 78 #[.pointer (some ⟨bp,0,none⟩), .pointer (some ⟨bg,0,none⟩)] w λv w'=>Dx 127 N [bj,bg] w w'∧((oo U=0∧∃onV mayV,At w' bj #[t0,t1,t2,t3, .int .i64 U.kind, .int .i64 U.ni, .int .i64 U.no,lu,s0,s1,s2, .slice none 0 0, .int .i64 0, .int .i64 0, .int .i64 0, .string ⟨#[]⟩, .int .i64 0, .int .i64 0, .int .i64 0, .int .i64 0, .int .i64 0] 127∧At w' bg #[.int .i64 U.ni,onV,mayV] 59∧cH fh 4 40 w' N onV (pg U U.no.toNat)∧cH fh 4 40 w' N mayV (lK U U.no.toNat))∨(¬oo U=0∧At w' bj #[t0,t1,t2,t3, .int .i64 U.kind, .int .i64 U.ni, .int .i64 U.no,lu,s0,s1,s2, .slice none 0 0, .int .i64 0, .int .i64 0, .int .i64 0, .string ⟨#[]⟩, .int .i64 0, .int .i64 0, .int .i64 0, .int .i64 0, .int .i64 (oo U)] 127)):=by
 refine dK (n:=13) (N:=N) Tryz.func78 rfl rfl rfl λhB=> ?_
 have hX:Dx 127 N [bj,bg] w w:=Dx.refl
 refine eP (λa b=>Dx 127 N [bj,bg] a b) fC (λW1 l=> ?_)
 obtain⟨hbp,hbj,hlv,hls,hbg,hX⟩:=l.k6 hbp hbj hlv hls hbg hX
 replace hB:=cW hB l hN0
 have hj0:=hbj
 have o:=hbg
 have hS:Dx 127 N [bj,bg] W1 W1:=Dx.refl
 refine Tk 0 rfl (λ_ hq=>cD (v:= .pointer (some ⟨bj,0,none⟩)) rfl dE (At.cell (At.dx2 hq hj0 o hbp Dd Dd) rfl)) hS<|Tk 1 rfl (λ_ hq=>cD (v:= .pointer (some ⟨bj,0,none⟩)) rfl dE (At.cell (At.dx2 hq hj0 o hbp Dd Dd) rfl)) hS<|Tc 2 rfl rfl hS<|Tf 3 rfl rfl jZ hS ?_
 refine iY (dd:=some 7) 4 ka rfl rfl rfl rfl (Yd.val (eQ rfl dX (At.cell hbj rfl) (At.cell hbj rfl) (At.cell hbj rfl) (At.cell hbj rfl)) ⟨.inl hS,?_⟩)
 refine To 5 rfl (TC (vs:=[.agg #[_,_,_,_]]) HL (wt U _ us _ hlv.sl (f6.at hls) hmb) rfl λA W3 p g=>⟨.inl (Dx.trans hS (Dx.ext p)),?_⟩)
 have s:=(go hN0 (Below.size hB))
 obtain⟨hbj,hbg,hX,hS⟩:=p.k4 hbj hbg hX hS
 have q:=s
 rcases g with g|g
 obtain⟨k,t,u,rfl,d,e⟩:=g
 replace d:=cH.mono d q
 replace e:=cH.mono e q
 refine Tw 6 (.tuple #[.agg #[.int .i64 _,t,u], .int .i64 0]) rfl rfl hS<|Tk 7 rfl (λ_ _=>cZ rfl) hS<|Tk 8 rfl (λ_ _=>c7 rfl) hS<|To 9 rfl (cA rfl rfl ee rfl hbg rfl (by exact ua (dp.one (cH.sl d)) (dp.one (cH.sl e))) λW7 f x=>⟨.inl (Dx.trans hS (Dx.grown f fD log)),?_⟩)
 replace hS:=Dx.trans hS (Dx.grown f fD log)
 replace hbj:=At.grownAt hbj hbg f Dd
 replace hX:=Dx.trans hX (Dx.grown f fD log)
 replace d:=cH.grownAt d hbg f Dd
 replace e:=cH.grownAt e hbg f Dd
 replace hbg:=x
 refine Tc 10 rfl rfl hS<|Tf 11 rfl rfl eZ hS<|To 12 rfl (db (v:= .int .i64 0) rfl rfl fe rfl hbj fD λB h y=>⟨.inl (Dx.trans hS (Dx.grown h fD loj)),?_⟩)
 replace hbg:=At.grownAt hbg hbj h Dd
 replace hX:=Dx.trans hX (Dx.grown h fD loj)
 replace d:=cH.grownAt d hbj h Dd
 replace e:=cH.grownAt e hbj h Dd
 replace hbj:=y
 replace hbj:At _ _ #[_,_,_,_,_,_,_,_,_,_,_,_,_,_,_,_,_,_,_,_,_] _:=hbj
 refine Td ?_
 repeat (first|refine eN ?_|refine ex ?_)
 refine eq ?_
 repeat (first|refine d9 ?_|refine dO ?_)
 refine oe ?_
 exact⟨hX, .inl ⟨k,_,_,hbj,hbg,d,e⟩⟩
 obtain⟨k,rfl⟩:=g
 refine Tw 6 (.tuple #[.agg #[.int .i64 0, .slice none 0 0, .slice none 0 0], .int .i64 _]) rfl rfl hS<|Tk 7 rfl (λ_ _=>cZ rfl) hS<|Tk 8 rfl (λ_ _=>c7 rfl) hS<|To 9 rfl (cA rfl rfl ee rfl hbg rfl (by exact ua rfl rfl) λC j D=>⟨.inl (Dx.trans hS (Dx.grown j fD log)),?_⟩)
 replace hS:=Dx.trans hS (Dx.grown j fD log)
 replace hbj:=At.grownAt hbj hbg j Dd
 replace hX:=Dx.trans hX (Dx.grown j fD log)
 refine Tc 10 rfl rfl hS<|Tf 11 rfl rfl eZ hS<|To 12 rfl (db (v:= .int .i64 _) rfl rfl fe rfl hbj fD λE r z=>⟨.inl (Dx.trans hS (Dx.grown r fD loj)),?_⟩)
 replace hX:=Dx.trans hX (Dx.grown r fD loj)
 replace hbj:=z
 replace hbj:At _ _ #[_,_,_,_,_,_,_,_,_,_,_,_,_,_,_,_,_,_,_,_,_] _:=hbj
 refine Td ?_
 repeat (first|refine eN ?_|refine ex ?_)
 refine eq ?_
 repeat (first|refine d9 ?_|refine dO ?_)
 refine oe ?_
 exact⟨hX, .inr ⟨k,hbj⟩⟩
end
section
open Go Go.RowKit
def LU (T U:Tb):Prop:=U.kind=1∧U.ni=T.ni∧U.no=T.no
def Mh (s u:List UInt8) (e:Int):Prop:=
 (¬(cF s).2.2=0∧e=(cF s).2.2)∨((cF s).2.2=0∧¬oo (cF s).1=0∧e=oo (cF s).1)∨((cF s).2.2=0∧oo (cF s).1=0∧¬(cF u).2.2=0∧e=(cF u).2.2)∨
 ((cF s).2.2=0∧oo (cF s).1=0∧(cF u).2.2=0∧¬LU (cF s).1 (cF u).1∧e=1)∨((cF s).2.2=0∧oo (cF s).1=0∧(cF u).2.2=0∧LU (cF s).1 (cF u).1∧¬oo (cF u).1=0∧e=oo (cF u).1)
def qP (S G:Sp) (i:Nat):Bool:=ep (S.on.getD i 0) (G.on.getD i 0)&&ep (G.may.getD i 0) (S.may.getD i 0)
def GT (S G:Sp):Bool:=(List.range S.on.length).all (qP S G)
def Yw (s u:List UInt8) (b:Bool) (e:Int):Prop:=
 (Mh s u e∧b=false)∨((cF s).2.2=0∧oo (cF s).1=0∧(cF u).2.2=0∧LU (cF s).1 (cF u).1∧oo (cF u).1=0∧e=0∧b=GT (eg (cF s).1) (eg (cF u).1))
section
variable {S G:Sp} {k:Nat}
theorem XP (hk:S.on.length≤k) (h:∀q,q<k→qP S G q=true):true=GT S G:=by
 unfold GT
 exact(aa2.2 λq hq=>h q (by have:=aba.1 hq;omega)).symm
theorem T8 (hk:k<S.on.length) (h:qP S G k=false):false=GT S G:=by
 unfold GT
 cases hb:(List.range S.on.length).all (qP S G)with
 |false=>rfl
 |true=>rw[aa2.1 hb k (aba.2 hk)]at h;cases h
theorem XN (h1:(!ep (S.on.getD (k:Int).toNat 0) (G.on.getD (k:Int).toNat 0))=false) (h2:(!ep (G.may.getD (k:Int).toNat 0) (S.may.getD (k:Int).toNat 0))=false):qP S G k=true:=by
 rw[so,Bool.not_eq_false']at h1 h2
 unfold qP
 rw[h1,h2];rfl
theorem Xa (h1:(!ep (S.on.getD (k:Int).toNat 0) (G.on.getD (k:Int).toNat 0))=true):qP S G k=false:=by
 rw[so,Bool.not_eq_true']at h1
 unfold qP
 rw[h1];rfl
theorem Xc (h2:(!ep (G.may.getD (k:Int).toNat 0) (S.may.getD (k:Int).toNat 0))=true):qP S G k=false:=by
 rw[so,Bool.not_eq_true']at h2
 unfold qP
 rw[h2,abq]
end
end
section
open Go Go.RowKit
theorem UB:cX Tryz.prog 74=true:=by kernel_rfl
theorem WI:cX Tryz.prog 75=true:=by kernel_rfl
theorem Vz:cX Tryz.prog 76=true:=by kernel_rfl
theorem Wr:cX Tryz.prog 77=true:=by kernel_rfl
theorem UX:cX Tryz.prog 78=true:=by kernel_rfl
def wz (N bp bt bu bg bj:Nat) (xs:Value) (fs:List Value) (s u:List UInt8) (W:World):Prop:=
  (∀V,Below N W V→Gl V)∧At W bp #[.pointer (some ⟨bj,0,none⟩)] 125∧At W bt #[dY s] 9∧At W bu #[dY u] 9∧cH encV 1 1 W N xs fs
theorem wz.dx {N bp bt bu bg bj:Nat} {xs:Value} {fs:List Value} {s u:List UInt8} {W W':World} {cj:Array Value} (h:wz N bp bt bu bg bj xs fs s u W) (hN:N≤W.heap.size) (hX:Dx 127 N [bj] W W') (hj:At W bj cj 127):wz N bp bt bu bg bj xs fs s u W':=
  ⟨λV hV=>h.1 V (Below.trans (hX.below2 hN) hV),acX hX hj h.2.1 (by decide),acX hX hj h.2.2.1 (by decide),acX hX hj h.2.2.2.1 (by decide),acW hX hj h.2.2.2.2 (by decide)⟩
theorem wz.dx2 {N bp bt bu bg bj:Nat} {xs:Value} {fs:List Value} {s u:List UInt8} {W W':World} {cj cg:Array Value} (h:wz N bp bt bu bg bj xs fs s u W) (hN:N≤W.heap.size) (hX:Dx 127 N [bj,bg] W W') (hj:At W bj cj 127) (hg:At W bg cg 59):wz N bp bt bu bg bj xs fs s u W':=
  ⟨λV hV=>h.1 V (Below.trans (hX.below2 hN) hV),At.dx2 hX hj hg h.2.1 (by decide) (by decide),At.dx2 hX hj hg h.2.2.1 (by decide) (by decide),At.dx2 hX hj hg h.2.2.2.1 (by decide) (by decide),cH.dx2 hX hj hg h.2.2.2.2 (by decide) (by decide)⟩
def LF (N bp bt bu bg bj:Nat) (xs:Value) (fs:List Value) (s u:List UInt8):Nat→World→Prop
  |0=>λW=>wz N bp bt bu bg bj xs fs s u W∧At W bj #[.int .i64 0, .int .i64 0, .int .i64 0, .slice none 0 0, .int .i64 0, .int .i64 0, .int .i64 0, .slice none 0 0, .int .i64 0, .slice none 0 0, .slice none 0 0, .slice none 0 0, .int .i64 0, .int .i64 0, .int .i64 0, .string ⟨#[]⟩, .int .i64 0, .int .i64 0, .int .i64 0, .int .i64 0, .int .i64 0] 127∧At W bg #[.int .i64 0, .slice none 0 0, .slice none 0 0] 59
  |1=>λW=>wz N bp bt bu bg bj xs fs s u W∧(cF s).2.2=0∧∃lv vs,At W bj #[.int .i64 (cF s).1.kind, .int .i64 (cF s).1.ni, .int .i64 (cF s).1.no,lv, .int .i64 0, .int .i64 0, .int .i64 0, .slice none 0 0, .int .i64 0, .slice none 0 0, .slice none 0 0, .slice none 0 0, .int .i64 0, .int .i64 0, .int .i64 0, .string ⟨#[]⟩, .int .i64 0, .int .i64 0, .int .i64 0, .int .i64 0, .int .i64 0] 127∧At W bg #[.int .i64 0, .slice none 0 0, .slice none 0 0] 59∧cH ik 3 37 W N lv vs∧f6 3 N W vs (cF s).1.ls
  |2=>λW=>wz N bp bt bu bg bj xs fs s u W∧(cF s).2.2=0∧oo (cF s).1=0∧∃lv onV mayV,At W bj #[.int .i64 (cF s).1.kind, .int .i64 (cF s).1.ni, .int .i64 (cF s).1.no,lv, .int .i64 0, .int .i64 0, .int .i64 0, .slice none 0 0, .int .i64 (eg (cF s).1).n,onV,mayV, .slice none 0 0, .int .i64 0, .int .i64 0, .int .i64 0, .string ⟨#[]⟩, .int .i64 0, .int .i64 0, .int .i64 0, .int .i64 0, .int .i64 0] 127∧At W bg #[.int .i64 0, .slice none 0 0, .slice none 0 0] 59∧cH fh 4 40 W N onV ((eg (cF s).1).on)∧cH fh 4 40 W N mayV ((eg (cF s).1).may)
  |3=>λW=>wz N bp bt bu bg bj xs fs s u W∧(cF s).2.2=0∧oo (cF s).1=0∧(cF u).2.2=0∧∃lv onV mayV lu us,At W bj #[.int .i64 (cF s).1.kind, .int .i64 (cF s).1.ni, .int .i64 (cF s).1.no,lv, .int .i64 (cF u).1.kind, .int .i64 (cF u).1.ni, .int .i64 (cF u).1.no,lu, .int .i64 (eg (cF s).1).n,onV,mayV, .slice none 0 0, .int .i64 0, .int .i64 0, .int .i64 0, .string ⟨#[]⟩, .int .i64 0, .int .i64 0, .int .i64 0, .int .i64 0, .int .i64 0] 127∧At W bg #[.int .i64 0, .slice none 0 0, .slice none 0 0] 59∧cH fh 4 40 W N onV ((eg (cF s).1).on)∧cH fh 4 40 W N mayV ((eg (cF s).1).may)∧cH ik 3 37 W N lu us∧f6 3 N W us (cF u).1.ls
  |4=>λW=>wz N bp bt bu bg bj xs fs s u W∧(cF s).2.2=0∧oo (cF s).1=0∧(cF u).2.2=0∧LU (cF s).1 (cF u).1∧∃lv onV mayV lu us,At W bj #[.int .i64 (cF s).1.kind, .int .i64 (cF s).1.ni, .int .i64 (cF s).1.no,lv, .int .i64 (cF u).1.kind, .int .i64 (cF u).1.ni, .int .i64 (cF u).1.no,lu, .int .i64 (eg (cF s).1).n,onV,mayV, .slice none 0 0, .int .i64 0, .int .i64 0, .int .i64 0, .string ⟨#[]⟩, .int .i64 0, .int .i64 0, .int .i64 0, .int .i64 0, .int .i64 0] 127∧At W bg #[.int .i64 0, .slice none 0 0, .slice none 0 0] 59∧cH fh 4 40 W N onV ((eg (cF s).1).on)∧cH fh 4 40 W N mayV ((eg (cF s).1).may)∧cH ik 3 37 W N lu us∧f6 3 N W us (cF u).1.ls
  |_=>λW=>wz N bp bt bu bg bj xs fs s u W∧(cF s).2.2=0∧oo (cF s).1=0∧(cF u).2.2=0∧LU (cF s).1 (cF u).1∧oo (cF u).1=0∧∃lv onV mayV lu onG mayG,At W bj #[.int .i64 (cF s).1.kind, .int .i64 (cF s).1.ni, .int .i64 (cF s).1.no,lv, .int .i64 (cF u).1.kind, .int .i64 (cF u).1.ni, .int .i64 (cF u).1.no,lu, .int .i64 (eg (cF s).1).n,onV,mayV, .slice none 0 0, .int .i64 0, .int .i64 0, .int .i64 0, .string ⟨#[]⟩, .int .i64 0, .int .i64 0, .int .i64 0, .int .i64 0, .int .i64 0] 127∧At W bg #[.int .i64 (cF u).1.ni,onG,mayG] 59∧cH fh 4 40 W N onV ((eg (cF s).1).on)∧cH fh 4 40 W N mayV ((eg (cF s).1).may)∧cH fh 4 40 W N onG ((eg (cF u).1).on)∧cH fh 4 40 W N mayG ((eg (cF u).1).may)
def Xe (N bp bt bu bg bj:Nat) (xs:Value) (fs:List Value) (s u:List UInt8) (W:World):Prop:=At W bp #[.pointer (some ⟨bj,0,none⟩)] 125∧∃cs e,At W bj cs 127∧cs[20]? =some (.int .i64 e)∧Mh s u e
theorem LF.xs {N bp bt bu bg bj:Nat} {xs:Value} {fs:List Value} {s u:List UInt8}:∀k W,LF N bp bt bu bg bj xs fs s u k W→dp encV 1 W xs fs:=by
  intro k W h
  have hC:wz N bp bt bu bg bj xs fs s u W:=by
    match k,h with
    |0,h|1,h|2,h|3,h|4,h|_+5,h=>exact h.1
  exact hC.2.2.2.2.sl
def YJ:Nat→Nat:=ZR 74 75 76 77 78
def Oe (bp bt bu bg:Nat):Nat→Array Value:=cF5 #[pv bt,pv bp] #[pv bp] #[pv bu,pv bp] #[pv bp] #[pv bp,pv bg]
theorem Ho {N bp bt bu bg bj:Nat} {xs:Value} {fs:List Value} {s u:List UInt8} (loj:N≤bj) (log:N≤bg) (hsl:s.length≤100000) (hul:u.length≤100000):∀k W,k<5→N≤W.heap.size→LF N bp bt bu bg bj xs fs s u k W→
    lc Tryz.prog (YJ k) (Oe bp bt bu bg k) W λv W'=>Below N W W'∧∃cs e,At W' bj cs 127∧cs[20]? =some (.int .i64 e)∧(e=0→LF N bp bt bu bg bj xs fs s u (k+1) W')∧(¬e=0→Xe N bp bt bu bg bj xs fs s u W'):=by
  intro k W hk hN hI
  match k,hk,hI with
  |0,_,hI=>
    obtain⟨hC,hj,hg⟩:=hI
    refine lc.mono (Bf N bj bp bt s W hN hC.1 hC.2.1 loj hj hC.2.2.1 hsl) λv W' ⟨hX,lv,vs,h1,h2,h3⟩=>⟨hX.below2 hN,_,_,h1,rfl,λe=>⟨hC.dx hN hX hj,e,lv,vs,by rw[e]at h1;exact h1,acX hX hj hg (by decide),h2,h3⟩,λe=>⟨(hC.dx hN hX hj).2.1,_,_,h1,rfl, .inl ⟨e,rfl⟩⟩⟩
  |1,_,hI=>
    obtain⟨hC,hp,lv,vs,hj,hg,hlv,hls⟩:=hI
    refine lc.mono (AY N bj bp (cF s).1 lv vs W hN hC.1 hC.2.1 loj hj hlv hls (zV s)) λv W' ⟨hX,h⟩=>⟨hX.below2 hN,?_⟩
    rcases h with ⟨h0,onV,mayV,h1,h2,h3⟩|⟨h0,h1⟩
    · exact⟨_,_,h1,rfl,λ_=>⟨hC.dx hN hX hj,hp,h0,lv,onV,mayV,h1,acX hX hj hg (by decide),h2,h3⟩,λe=>absurd rfl e⟩
    · exact⟨_,_,h1,rfl,λe=>absurd e h0,λ_=>⟨(hC.dx hN hX hj).2.1,_,_,h1,rfl, .inr (.inl ⟨hp,h0,rfl⟩)⟩⟩
  |2,_,hI=>
    obtain⟨hC,hp,h0,lv,onV,mayV,hj,hg,hon,hmay⟩:=hI
    refine lc.mono (AK N bj bp bu u _ _ _ _ _ _ _ W hN hC.1 hC.2.1 loj hj hC.2.2.2.1 hul) λv W' ⟨hX,lu,us,h1,h2,h3⟩=>⟨hX.below2 hN,_,_,h1,rfl,λe=>⟨hC.dx hN hX hj,hp,h0,e,lv,onV,mayV,lu,us,by rw[e]at h1;exact h1,acX hX hj hg (by decide),acW hX hj hon (by decide),acW hX hj hmay (by decide),h2,h3⟩,λe=>⟨(hC.dx hN hX hj).2.1,_,_,h1,rfl, .inr (.inr (.inl ⟨hp,h0,e,rfl⟩))⟩⟩
  |3,_,hI=>
    obtain⟨hC,hp,h0,hq,lv,onV,mayV,lu,us,hj,hg,hon,hmay,hlu,hus⟩:=hI
    refine lc.mono (A7 N bj bp (cF s).1 (cF u).1 lv lu _ _ _ W hN hC.1 hC.2.1 loj hj) λv W' ⟨hX,h⟩=>⟨hX.below2 hN,?_⟩
    rcases h with ⟨hc,h1⟩|⟨hc,h1⟩
    · exact⟨_,_,h1,rfl,λ_=>⟨hC.dx hN hX hj,hp,h0,hq,hc,lv,onV,mayV,lu,us,h1,acX hX hj hg (by decide),acW hX hj hon (by decide),acW hX hj hmay (by decide),acW hX hj hlu (by decide),f6.dxj hX hj hus (by decide)⟩,λe=>absurd rfl e⟩
    · exact⟨_,_,h1,rfl,λe=>absurd e (by decide),λ_=>⟨(hC.dx hN hX hj).2.1,_,_,h1,rfl, .inr (.inr (.inr (.inl ⟨hp,h0,hq,hc,rfl⟩)))⟩⟩
  |4,_,hI=>
    obtain⟨hC,hp,h0,hq,hc,lv,onV,mayV,lu,us,hj,hg,hon,hmay,hlu,hus⟩:=hI
    refine lc.mono (A8 N bj bp (cF u).1 lu us _ _ _ _ _ _ _ bg W hN hC.1 hC.2.1 loj hj hlu hus (zV u) hg log) λv W' ⟨hX,h⟩=>⟨hX.below2 hN,?_⟩
    rcases h with ⟨h1,onG,mayG,h2,h3,h4,h5⟩|⟨h1,h2⟩
    · exact⟨_,_,h2,rfl,λ_=>⟨hC.dx2 hN hX hj hg,hp,h0,hq,hc,h1,lv,onV,mayV,lu,onG,mayG,h2,h3,cH.dx2 hX hj hg hon (by decide) (by decide),cH.dx2 hX hj hg hmay (by decide) (by decide),h4,h5⟩,λe=>absurd rfl e⟩
    · exact⟨_,_,h2,rfl,λe=>absurd e h1,λ_=>⟨(hC.dx2 hN hX hj hg).2.1,_,_,h2,rfl, .inr (.inr (.inr (.inr ⟨hp,h0,hq,hc,h1,rfl⟩)))⟩⟩
  |k+5,hk,_=>exact absurd hk (by omega)
set_option maxHeartbeats 4000000 in
theorem FV (s u:List UInt8) (w:World) (hgl:Gl w) (hsl:s.length≤100000) (hul:u.length≤100000):
    Fn Tryz.prog 24 #[dY s,dY u] w λv w'=>∃b e,v= .tuple #[.bool b, .int .i64 e]∧Yw s u b e:=by
 refine cM (n:=64) Tryz.func24 rfl rfl rfl λhB=> ?_
 refine Zr<|Zy (dw (c:= #[_]) rfl rfl λj W3 ay H d=> ?_)
 replace hB:=Ze hB H
 refine Zy (dw (c:= #[_]) rfl rfl λl W6 az I g=> ?_)
 obtain⟨hB,d⟩:=I.k2 hB d
 refine Zb rfl<|ZZ rfl<|Zr<|Zv (uZ)<|Zy (dw (c:= #[_,_,_,_,_,_,_,_,_,_,_,_,_,_,_,_,_,_,_,_,_]) rfl rfl λm aA J K o=> ?_)
 have L:=ZO J hB
 obtain⟨hB,d,g⟩:=K.k3 hB d g
 refine Zy (cK Ir rfl λa aB M N f=> ?_)
 have O:=ZO M hB
 obtain⟨hB,d,g,o⟩:=N.k4 hB d g o
 refine Zy (db (v:= .pointer (some ⟨m,0,none⟩)) rfl rfl dE rfl f K1 λaC z P=> ?_)
 replace hB:=Zg hB z O
 replace d:=At.grownAt d f z Dd
 replace g:=At.grownAt g f z Dd
 replace o:=At.grownAt o f z Dd
 replace f:=P
 replace f:At _ _ #[_] _:=f
 refine ct<|Zr<|Zy (cK za rfl λh aD Q R A=> ?_)
 have S:=ZO Q hB
 obtain⟨hB,d,g,o,f⟩:=R.k5 hB d g o f
 refine ct<|Zr<|ZL (.pointer (some ⟨m,0,none⟩)) rfl dE f rfl<|Zv (eS (vs:= #[.pointer (some ⟨j,0,none⟩), .pointer (some ⟨a,0,none⟩)]) AO)<|Zv (eS (vs:= #[.pointer (some ⟨a,0,none⟩)]) AO)<|Zv (eS (vs:= #[.pointer (some ⟨l,0,none⟩), .pointer (some ⟨a,0,none⟩)]) AO)<|Zv (eS (vs:= #[.pointer (some ⟨a,0,none⟩)]) AO)<|Zv (eS (vs:= #[.pointer (some ⟨a,0,none⟩), .pointer (some ⟨h,0,none⟩)]) AO)<|Zy (Nr (u0:= .func (.func 74) #[] #[.pointer (some ⟨j,0,none⟩), .pointer (some ⟨a,0,none⟩)]) (u1:= .func (.func 75) #[] #[.pointer (some ⟨a,0,none⟩)]) (u2:= .func (.func 76) #[] #[.pointer (some ⟨l,0,none⟩), .pointer (some ⟨a,0,none⟩)]) (u3:= .func (.func 77) #[] #[.pointer (some ⟨a,0,none⟩)]) (u4:= .func (.func 78) #[] #[.pointer (some ⟨a,0,none⟩), .pointer (some ⟨h,0,none⟩)]) rfl rfl rfl rfl rfl uy PJ rfl rfl rfl rfl rfl λG aE T U X=> ?_)
 have Y:=ZO T hB
 obtain⟨hB,d,g,o,f,A⟩:=U.k6 hB d g o f A
 have B:=ER X Y
 replace B:cH encV 1 _ _ _ _ (QL 74 75 76 77 78 #[pv j,pv a] #[pv a] #[pv l,pv a] #[pv a] #[pv a,pv h]):=B
 refine ZH OL (mM w.heap.size m _ (QL 74 75 76 77 78 #[pv j,pv a] #[pv a] #[pv l,pv a] #[pv a] #[pv a,pv h]) YJ (Oe a j l h) (LF w.heap.size a j l h m (.slice (some ⟨G,0,none⟩) 5 5) (QL 74 75 76 77 78 #[pv j,pv a] #[pv a] #[pv l,pv a] #[pv a] #[pv a,pv h]) s u) (Xe w.heap.size a j l h m (.slice (some ⟨G,0,none⟩) 5 5) (QL 74 75 76 77 78 #[pv j,pv a] #[pv a] #[pv l,pv a] #[pv a] #[pv a,pv h]) s u) _ (Below.size hB) LF.xs (show 5≤100 by decide) (λk hk=>Kc hk) (λk _=>fB5 UB WI Vz Wr UX) ⟨⟨λV hV=>Gl.below (Below.trans hB hV) hgl,f,d,g,B⟩,o,A⟩ (Ho L S hsl hul)) rfl λaF aG Z=> ?_
 obtain⟨hBt,hR⟩:=Z
 replace hB:=Below.trans hB hBt
 rcases hR with hR|hR
 obtain⟨rfl,⟨_,hbp,_⟩,hp,hof,hq,hcm,hog,lv,onV,mayV,lu,onG,mayG,hbj,hbg,hon,hmay,hong,hmayg⟩:=hR
 refine Zb rfl<|ct<|Zq<|Zr<|Zb rfl<|Zv (eR rfl)<|ct<|dH rfl<|cx<|Zq ?_
 have e1:(eg (cF s).1).on.length=(cF s).1.no.toNat:=ku _ _
 have e2:(eg (cF s).1).may.length=(cF s).1.no.toNat:=qd _ _
 have e3:(eg (cF u).1).on.length=(cF u).1.no.toNat:=ku _ _
 have e4:(eg (cF u).1).may.length=(cF u).1.no.toNat:=qd _ _
 have e5:=hcm.2.2
 have e6:=dz.1 (md hof)
 refine Zr<|ZL (.pointer (some ⟨m,0,none⟩)) rfl dE hbp rfl<|Zc rfl<|Zf rfl j7<|Zf rfl gW<|ZL onV rfl eY hbj rfl<|Zv (de (v:=onV) rfl hon.sl ey)<|ZZ rfl<|cy ?_
 refine cY (σ:=(Nat)) [4,5,9,10,33,63] (λk=>[(33, .int .i64 (k:Int))]) (λk W=>(Below w.heap.size w W)∧(At W a _ 125)∧(At W m _ 127)∧(At W h _ 59)∧(cH fh 4 40 W w.heap.size onV _)∧(cH fh 4 40 W w.heap.size mayV _)∧(cH fh 4 40 W w.heap.size onG _)∧(cH fh 4 40 W w.heap.size mayG _)∧(k≤(eg (cF s).1).on.length)∧(∀q,q<k→qP (eg (cF s).1) (eg (cF u).1) q=true)∧(True)) (λk=>(eg (cF s).1).on.length-k) (0) ⟨rfl,trivial⟩ ⟨hB,hbp,hbj,hbg,hon,hmay,hong,hmayg,(my _),eT,trivial⟩ ?_
 rintro k aH aI ⟨hB,hbp,hbj,hbg,hon,hmay,hong,hmayg,hk,hin,_⟩ aJ aa
 refine Zr<|Zv (dq rfl rfl)<|ct<|Zq<|ZQ rfl (λab=> ?_) λab=> ?_
 refine cx<|Zq<|cy<|Zr<|Zi rfl<|Zv (dm (v:=onV) rfl hon.sl rfl ey Om Om)<|Zv (eQ rfl cC (dp.cell hon.sl dr 0 Om Om 0 rfl) (dp.cell hon.sl dr 0 Om Om 1 rfl) (dp.cell hon.sl dr 0 Om Om 2 rfl) (dp.cell hon.sl dr 0 Om Om 3 rfl))<|Zy (cK el rfl λr ac t ad i=> ?_)
 have ae:=ZO t hB
 have af:=abE (b:=r) hon (aa1 t.symm)
 have ag:=abE (b:=r) hmay (aa1 t.symm)
 have ah:=abE (b:=r) hong (aa1 t.symm)
 have ai:=abE (b:=r) hmayg (aa1 t.symm)
 obtain⟨hB,hbp,hbj,hbg,hon,hmay,hong,hmayg⟩:=ad.k8 hB hbp hbj hbg hon hmay hong hmayg
 replace i:At ac r #[wv 0 0,wv 0 1,wv 0 2,wv 0 3] 40:=i
 refine Zi rfl<|Zy (cA rfl rfl cC rfl i rfl rfl λaK p aj=> ?_)
 replace hB:=Zg hB p ae
 replace hbp:=At.grownAt hbp i p Dd
 replace hbj:=At.grownAt hbj i p Dd
 replace hbg:=At.grownAt hbg i p Dd
 replace hon:=abg hon af p
 replace hmay:=abg hmay ag p
 replace hong:=abg hong ah p
 replace hmayg:=abg hmayg ai p
 replace i:=aj
 refine ct<|Zd dC λak al=> ?_
 obtain⟨hB,hbp,hbj,hbg,hon,hmay,hong,hmayg,i⟩:=al.k9 hB hbp hbj hbg hon hmay hong hmayg i
 have hS:=dC.refl ak
 refine Tk 0 rfl (λ_ hq=>cz rfl cC rfl (hq.at i)) hS<|Tf 1 rfl rfl gW hS<|Tk 2 rfl (λ_ hq=>cD (v:=onG) rfl eY (At.cell (hq.at hbg) rfl)) hS<|Ti 3 rfl rfl hS<|Tk 4 rfl (λ_ hq=>dm (v:=onG) rfl ((hq.ow hong)).sl rfl ey Om Om) hS<|Tk 5 rfl (λ_ hq=>eQ rfl cC (dp.cell ((hq.ow hong)).sl dr 0 Om Om 0 rfl) (dp.cell ((hq.ow hong)).sl dr 0 Om Om 1 rfl) (dp.cell ((hq.ow hong)).sl dr 0 Om Om 2 rfl) (dp.cell ((hq.ow hong)).sl dr 0 Om Om 3 rfl)) hS<|To 6 rfl (TC (vs:=[.agg #[_,_,_,_], .agg #[_,_,_,_]]) oW (gN _ _ _) rfl λaL aM C ao=>⟨.inl (hS.trans C),?_⟩)
 have ap:=hbp
 have aq:=hbj
 have ar:=hbg
 have x:=hmay
 have y:=hmayg
 obtain⟨hB,hbp,hbj,hbg,hon,hmay,hong,hmayg⟩:=C.k8 hB hbp hbj hbg hon hmay hong hmayg
 replace hS:=hS.trans C
 obtain rfl:=ao
 refine Tk 7 rfl (λ_ _=>eR rfl) hS<|Tx 8 rfl (λ_ _=>jY (v:= .bool _) rfl) hS (λD=> ?_) λD=> ?_
 refine Tp 9 rfl hS<|Tp 10 rfl hS<|Tp 11 rfl hS<|Tp 12 rfl hS<|Tp 13 rfl hS<|Tp 14 rfl hS<|Tp 15 rfl hS<|Tp 16 rfl hS<|Tp 17 rfl hS<|Tp 18 rfl hS<|Tp 19 rfl hS<|Tp 20 rfl hS<|Tp 21 rfl hS<|Tp 22 rfl hS ?_
 refine Tp 23 rfl hS<|Ty 24 rfl rfl hS<|Td<|cQ rfl<|Zr<|Zb rfl<|ZZ rfl<|Zt<|dG (v:= .bool false) rfl (v1:= .int .i64 0) rfl ⟨hB,?_⟩
 exact⟨_,_,rfl, .inr ⟨hp,hof,hq,hcm,hog,rfl,(by exact T8 (k:=k) (by omega) (by exact Xa D))⟩⟩
 refine Tf 9 rfl rfl gi hS<|Tk 10 rfl (λ_ hq=>cD (v:=mayG) rfl eY (At.cell (hq.at ar) rfl)) hS<|Ti 11 rfl rfl hS<|Tk 12 rfl (λ_ hq=>dm (v:=mayG) rfl ((hq.ow y)).sl rfl ey Om Om) hS<|Tk 13 rfl (λ_ hq=>eQ rfl cC (dp.cell ((hq.ow y)).sl dr 0 Om Om 0 rfl) (dp.cell ((hq.ow y)).sl dr 0 Om Om 1 rfl) (dp.cell ((hq.ow y)).sl dr 0 Om Om 2 rfl) (dp.cell ((hq.ow y)).sl dr 0 Om Om 3 rfl)) hS<|Tk 14 rfl (λ_ hq=>cD (v:= .pointer (some ⟨m,0,none⟩)) rfl dE (At.cell (hq.at ap) rfl)) hS<|Tc 15 rfl rfl hS<|Tf 16 rfl rfl j7 hS<|Tf 17 rfl rfl gi hS<|Tk 18 rfl (λ_ hq=>cD (v:=mayV) rfl eY (At.cell (hq.at aq) rfl)) hS<|Ti 19 rfl rfl hS<|Tk 20 rfl (λ_ hq=>dm (v:=mayV) rfl ((hq.ow x)).sl rfl ey Om Om) hS<|Tk 21 rfl (λ_ hq=>eQ rfl cC (dp.cell ((hq.ow x)).sl dr 0 Om Om 0 rfl) (dp.cell ((hq.ow x)).sl dr 0 Om Om 1 rfl) (dp.cell ((hq.ow x)).sl dr 0 Om Om 2 rfl) (dp.cell ((hq.ow x)).sl dr 0 Om Om 3 rfl)) hS<|To 22 rfl (TC (vs:=[.agg #[_,_,_,_], .agg #[_,_,_,_]]) oW (gN _ _ _) rfl λaN aO E au=>⟨.inl (hS.trans E),?_⟩)
 obtain⟨hB,hbp,hbj,hbg,hon,hmay,hong,hmayg⟩:=E.k8 hB hbp hbj hbg hon hmay hong hmayg
 replace hS:=hS.trans E
 obtain rfl:=au
 refine Tk 23 rfl (λ_ _=>eR rfl) hS<|Ty 24 rfl rfl hS<|Td<|ZQ rfl (λF=> ?_) λF=> ?_
 refine Zr<|Zb rfl<|ZZ rfl<|Zt<|dG (v:= .bool false) rfl (v1:= .int .i64 0) rfl ⟨hB,?_⟩
 exact⟨_,_,rfl, .inr ⟨hp,hof,hq,hcm,hog,rfl,(by exact T8 (k:=k) (by omega) (by exact Xc F))⟩⟩
 refine cx<|ZT rfl rfl rfl ?_
 exact aa _ _ (k+1) Za ⟨rfl,trivial⟩ ⟨hB,hbp,hbj,hbg,hon,hmay,hong,hmayg,Om,(d6 hin (XN D F)),trivial⟩ Zo
 refine cT<|Zr<|Zb rfl<|ZZ rfl<|Zt<|dG (v:= .bool true) rfl (v1:= .int .i64 0) rfl ⟨hB,?_⟩
 exact⟨_,_,rfl, .inr ⟨hp,hof,hq,hcm,hog,rfl,(by exact XP (by omega) hin)⟩⟩
 obtain⟨rfl,hbp,cs,er,hbj,av,herr⟩:=hR
 refine Zb rfl<|ct<|Zq<|Zr<|Zb rfl<|Zv (eR rfl)<|ct<|cQ rfl<|Zd dC λaw ax=> ?_
 obtain⟨hB,hbp,hbj⟩:=ax.k3 hB hbp hbj
 have hS:=dC.refl aw
 refine Tk 0 rfl (λ_ hq=>cD (v:= .pointer (some ⟨m,0,none⟩)) rfl dE (At.cell (hq.at hbp) rfl)) hS<|Tc 1 rfl rfl hS<|Tf 2 rfl rfl eZ hS<|Tk 3 rfl (λ_ hq=>cD (v:= .int .i64 er) rfl fe (At.cell (hq.at hbj) av)) hS<|Ty 4 rfl rfl hS<|Ti 5 rfl rfl hS<|Td<|Zt<|dG (v:= .bool false) rfl (v1:= .int .i64 _) rfl ⟨hB,?_⟩
 exact⟨_,_,rfl, .inl ⟨herr,rfl⟩⟩
end
section
open Go Go.RowKit
section
variable {s line:List UInt8} {i k:Nat}
theorem sF (hi:i<s.length):(iE s).getD i 0=rV (fZ s i):=by
 unfold iE fZ
 rw[me,ab0,me,we hi]
 rfl
theorem pL {b:Nat}:kh b=true↔b=45∨b=48∨b=49:=by
 unfold kh
 simp only[abF,beq_iff_eq]
 omega
theorem Ge {b:Nat} (h:kh b=true):rV b=0∨rV b=1∨rV b=2:=by
 unfold rV
 rcases pL.1 h with rfl|rfl|rfl<;>decide
theorem Id (h8:s.length≤8) (h:∀q,q<s.length→kh (fZ s q)=true):RP (iE s):=
 ⟨by rw[mf];exact h8,λq hq=>by
  rw[mf]at hq
  rw[sF hq]
  exact Ge (h q hq)⟩
theorem BA (h:∀q,q<s.length→kh (fZ s q)=true):∀k,k≤s.length→kN (iE s) k=Az s k∧n7 (iE s) k=yI s k
 |0,_=>⟨rfl,rfl⟩
 |k+1,hk=>by
  obtain⟨i1,i2⟩:=BA h k (by omega)
  have hlm:=zb s k
  have hlv:=DL s k
  have om:Az s k ||| 1*2^k=Az s k+2^k:=by
   have e:=abS hlm 1
   rw[ab4]at e
   rw[abd,Nat.or_comm,←e,Nat.add_comm]
  have ov:yI s k ||| 1*2^k=yI s k+2^k:=by
   have e:=abS hlv 1
   rw[ab4]at e
   rw[abd,Nat.or_comm,←e,Nat.add_comm]
  rcases pL.1 (h k (by omega))with hb|hb|hb
  ·have e:(iE s).getD k 0=2:=by rw[sF (by omega),hb];rfl
   obtain⟨m1,m2⟩:=uj (l:=iE s) (k:=k) (by rw[e];decide)
   rw[m1,m2,i1,i2,Az,yI,if_neg (by omega),if_neg (by omega)]
   exact⟨rfl,rfl⟩
  ·have e:(iE s).getD k 0=((0:Nat):Int):=by rw[sF (by omega),hb];rfl
   obtain⟨m1,m2⟩:=qr e (by decide)
   rw[m1,m2,i1,i2,Az,yI,if_pos (.inl hb),if_neg (by omega),om,Nat.mul_zero,ab7]
   exact⟨rfl,rfl⟩
  ·have e:(iE s).getD k 0=((1:Nat):Int):=by rw[sF (by omega),hb];rfl
   obtain⟨m1,m2⟩:=qr e (by decide)
   rw[m1,m2,i1,i2,Az,yI,if_pos (.inr hb),if_pos hb,om,ov,ab4]
   exact⟨rfl,rfl⟩
theorem KT (h:∀q,q<s.length→kh (fZ s q)=true):kN (iE s) (iE s).length=(pb s).m∧n7 (iE s) (iE s).length=(pb s).v:=by
 rw[mf]
 exact BA h _ (am _)
theorem sW (hi:i<s.length) {x:Int} (hx:rV (fZ s i)=x):iE (s.take i)++[x]=iE (s.take (i+1)):=(qg hi hx.symm).symm
theorem zz:∀s:List UInt8,(32:UInt8)∉s→Lib.index s [32]= -1
 |[],_=>rfl
 |c::s,h=>by
  have h1:c≠32:=λe=>h U6
  have ih:=zz s (λe=>h (abf _ e))
  have hp:([32]:List UInt8).isPrefixOf (c::s)=false:=by simp[List.isPrefixOf,Ne.symm h1]
  rw[Lib.index,hp,ih]
  rfl
theorem NU (h:(32:UInt8)∉s):Lib.cut s [32]=(s,[],false):=by
 unfold Lib.cut
 rw[zz s h,if_neg (by decide)]
theorem Fa (h:(Lib.cut s [32]).2.2=true):s=(Lib.cut s [32]).1++32::(Lib.cut s [32]).2.1:=by
 by_cases hm:(32:UInt8)∈s
 ·obtain⟨a,b,e,ha⟩:=List.eq_append_cons_of_mem hm
  have:=CD (a:=a) (b:=b) ha
  rw[←e]at this
  rw[this]
  exact e
 ·rw[NU hm]at h
  cases h
theorem VO {s:List UInt8} (hi:i<s.length) (h:fZ s i=32):s[i]=32:=by
 unfold fZ at h
 rw[me,we hi]at h
 exact UInt8.toNat_inj.1 h
theorem zE {q n:Nat}:fZ (s.drop n) q=fZ s (n+q):=by
 unfold fZ
 rw[me,me,acO]
theorem E9 (h:jy s=true):(32:UInt8)∉s:=λhm=>by
 obtain⟨q,hq,e⟩:=List.getElem_of_mem hm
 unfold jy at h
 rw[th]at h
 have h2:=aa2.1 h.2 q (aba.2 hq)
 have e2:fZ s q=32:=by
  unfold fZ
  rw[me,we hq,e]
  rfl
 rw[e2]at h2
 cases h2
theorem zj {ni:Nat} (hl:ni<line.length) (h:fZ line ni=32):line=line.take ni++32::line.drop (ni+1):=by
 rw[←VO hl h,←List.drop_eq_getElem_cons hl,List.take_append_drop]
theorem uP {ni no:Nat}:gw (ni:Int) (no:Int) line=true↔line.length=ni+1+no∧jy (line.take ni)=true∧fZ line ni=32∧∀q,q<(line.drop (ni+1)).length→kh (fZ (line.drop (ni+1)) q)=true:=by
 rw[sK]
 constructor
 ·rintro⟨h1,h2,h3,h4,h5⟩
  have e:=Fa h1
  generalize (Lib.cut line [32]).1=a at*
  generalize (Lib.cut line [32]).2.1=b at*
  have ha:a.length=ni:=by omega
  have hb:b.length=no:=by omega
  subst e
  have e1:(a++32::b).take ni=a:=by rw[←ha];exact List.take_left
  have e2:(a++32::b).drop (ni+1)=b:=by
   rw[show a++32::b=(a++[32])++b by simp,show ni+1=(a++[32]).length by simp[ha]]
   exact List.drop_left
  refine⟨by simp;omega,by rw[e1];exact h2,?_,by rw[e2];exact h5⟩
  unfold fZ
  rw[me,←ha,abz (am _),Nat.sub_self]
  rfl
 ·rintro⟨h1,h2,h3,h4⟩
  have e:=zj (line:=line) (ni:=ni) (by omega) h3
  have hc:Lib.cut line [32]=(line.take ni,line.drop (ni+1),true):=by
   conv=>lhs;rw[e]
   exact CD (E9 h2)
  rw[hc]
  exact⟨rfl,h2,by rw[aa4];omega,by rw[abw];omega,h4⟩
theorem MM {ni no:Nat} (h:gw (ni:Int) (no:Int) line=true):pH line=⟨pb (line.take ni),iE (line.drop (ni+1))⟩:=by
 obtain⟨h1,h2,h3,h4⟩:=uP.1 h
 have e:=zj (line:=line) (ni:=ni) (by omega) h3
 have hc:Lib.cut line [32]=(line.take ni,line.drop (ni+1),true):=by
  conv=>lhs;rw[e]
  exact CD (E9 h2)
 unfold pH
 rw[hc]
def PS (b:Nat):Nat→Int
 |0=>3
 |m+1=>if [UInt8.ofNat b]=Bi.getD m []then (m:Int)else PS b m
theorem Jt:∀b,b<256→PS b 3=if kh b=true then rV b else 3:=by decide+kernel
theorem YX {b m:Nat} (h:[UInt8.ofNat b]=Bi.getD m []):(m:Int)=PS b (m+1):=(if_pos h).symm
theorem Yu {b m:Nat} (h:¬[UInt8.ofNat b]=Bi.getD m []):PS b m=PS b (m+1):=(if_neg h).symm
theorem Fs (h:k<s.length):(s.drop k).take (k+1-k)=[UInt8.ofNat (fZ s k)]:=by
 have e:fZ s k=s[k].toNat:=by
  unfold fZ
  rw[me,we h]
  rfl
 rw[show k+1-k=1 by omega,List.drop_eq_getElem_cons h,e,UInt8.ofNat_toNat]
 rfl
theorem Zu {b:Nat} (hb:b<256) (h:¬PS b 3=3):kh b=true∧PS b 3=rV b:=by
 rw[Jt b hb]at h ⊢
 by_cases hc:kh b=true
 ·rw[if_pos hc];exact⟨hc,rfl⟩
 ·rw[if_neg hc]at h;exact absurd rfl h
theorem aag {b:Nat} (hb:b<256) (h:PS b 3=3):kh b=false:=by
 rw[Jt b hb]at h
 cases hc:kh b with
 |false=>rfl
 |true=>
  rw[hc,if_pos rfl]at h
  rcases Ge hc with e|e|e<;>rw[e]at h<;>cases h
end
section
variable {line word:List UInt8} {lo hi:Int} {n:Nat}
theorem WB (hn:n<100) (h:line=word++32::ir n) (h1:lo≤n) (h2:(n:Int)≤hi):fG line word lo hi=n:=by
 unfold fG
 rw[sm hn h]
 exact if_pos ⟨h1,h2⟩
theorem U5 (h:∀q:Nat,lo≤q→(q:Int)≤hi→¬line=word++32::ir q):fG line word lo hi= -1:=by
 unfold fG
 cases hk:xB line word with
 |none=>rfl
 |some q=>
  obtain⟨_,h2⟩:=FA.1 hk
  simp only
  by_cases hc:lo≤q∧(q:Int)≤hi
  ·exact absurd h2 (h q hc.1 hc.2)
  ·rw[if_neg hc]
end
def oS (l:List UInt8):Nat→Int
 |0=> -1
 |k+1=>if l=gT++gn.getD k []then (k:Int)else oS l k
section
variable {r:Rd} {l:List UInt8}
theorem Pq {k:Nat} (h:l=gT++gn.getD k []):(k:Int)=oS l (k+1):=(if_pos h).symm
theorem JN {k:Nat} (h:¬l=gT++gn.getD k []):oS l k=oS l (k+1):=(if_neg h).symm
theorem Da:∀k,0≤oS l k→∃q,q<k∧l=gT++gn.getD q []∧oS l k=q
 |0,h=>absurd h (show ¬(0:Int)≤-1 by decide)
 |k+1,h=>by
  by_cases hc:l=gT++gn.getD k []
  ·exact⟨k,by omega,hc,(Pq hc).symm⟩
  ·rw[←JN hc]at h
   obtain⟨q,h1,h2,h3⟩:=Da k h
   exact⟨q,by omega,h2,by rw[←JN hc];exact h3⟩
theorem M3:∀k,oS l k<0→∀q,q<k→¬l=gT++gn.getD q []
 |0,_,q,hq=>by cases hq
 |k+1,h,q,hq=>by
  by_cases hc:l=gT++gn.getD k []
  ·rw[←Pq hc]at h;omega
  ·rw[←JN hc]at h
   rcases aaK.1 hq with h1|rfl
   ·exact M3 k h q h1
   ·exact hc
theorem GI {b:List UInt8} (h:l=46::b) (ni no:Int):gw ni no l=false:=aa0.2 λk=>by
 obtain⟨h1,h2,h3,h4,h5⟩:=sK.1 k
 have e:=Fa h1
 generalize (Lib.cut l [32]).1=a at*
 cases a with
 |nil=>
  rw[h]at e
  have:=(abT e).1
  cases this
 |cons c a=>
  rw[h]at e
  have e1:=(abT e).1
  unfold jy at h2
  rw[th]at h2
  have:=aa2.1 h2.2 0 (aba.2 fD)
  rw[←e1]at this
  cases this
theorem B7 (h:Lib.hasPrefix l gT=true):∃b,l=46::b:=by
 obtain⟨r,hr⟩:=mt.1 h
 exact⟨_,hr⟩
theorem zq {a:UInt8} {lo hi:Int} (h0:0≤lo) (h:fG l [46,a] lo hi≥0):∃q,l=[46,a]++32::ir q:=by
 unfold fG at h
 cases hk:xB l [46,a]with
 |none=>rw[hk]at h;exact absurd h (show ¬(-1:Int)≥0 by decide)
 |some q=>exact⟨q,(FA.1 hk).2⟩
theorem Bz (h:Lib.hasPrefix l gT=true):¬fG l [46,112] 0 64≥0:=λk=>by
 obtain⟨r,hr⟩:=mt.1 h
 obtain⟨q,hq⟩:=zq (by decide) k
 rw[hr]at hq
 have:=(abT (abT hq).2).1
 cases this
theorem Bo (h:Lib.hasPrefix l gT=true):¬l=[46,101]:=λk=>by
 obtain⟨r,hr⟩:=mt.1 h
 rw[hr]at k
 have:=(abT (abT k).2).1
 cases this
theorem Bp (h:fG l [46,112] 0 64≥0):¬Lib.hasPrefix l gT=true:=λk=>Bz k h
theorem Na (h:fG l [46,112] 0 64≥0):¬l=[46,101]:=λk=>by
 obtain⟨q,hq⟩:=zq (by decide) h
 rw[k]at hq
 have:=(abT (abT hq).2).1
 cases this
theorem Ub (h:fG l [46,112] 0 64≥0):∃b,l=46::b:=by
 obtain⟨q,hq⟩:=zq (by decide) h
 exact⟨_,hq⟩
theorem aaV {k:Nat} (h2:r.st=2) (hi:k<4) (h:l=gT++gn.getD k []):ff r l=(⟨{r.T with kind:=(k:Int)},3,r.told⟩,0):=
 Vf (by omega) (by omega) (by omega) (mt.2 ⟨_,h⟩) h2 hi (by rw[h,pO])
theorem ZB {k:Nat} (h3:3≤r.st) (h4:r.st≤4) (hi:k<4) (h:l=gT++gn.getD k []):(ff r l).2=2:=by
 have hp:Lib.hasPrefix l gT=true:=mt.2 ⟨_,h⟩
 obtain⟨b,hb⟩:=B7 hp
 rw[Jy (by omega) (by omega) (by omega) (λe=>by omega) (λe=>Bz hp e.1) (Bo hp) (GI hb _ _)]
theorem aaf (h2:2≤r.st) (h3:r.st≤3) (h:fG l [46,112] 0 64≥0):ff r l=(⟨r.T,4,fG l [46,112] 0 64⟩,0):=
 Vt (by omega) (by omega) (by omega) (λe=>Bp h e.1) h h3
theorem YV (h4:r.st=4) (h:fG l [46,112] 0 64≥0):(ff r l).2=2:=by
 obtain⟨b,hb⟩:=Ub h
 rw[Jy (by omega) (by omega) (by omega) (λe=>Bp h e.1) (λe=>by omega) (Na h) (GI hb _ _)]
theorem Xn (h2:2≤r.st) (h4:r.st≤4) (h:l=[46,101]):ff r l=(⟨r.T,5,r.told⟩,JS (decide (r.told<0)||decide (r.told=(r.T.ls.length:Int)))):=
 Rn (by omega) (by omega) (by omega) (λe=>Bo e.1 h) (λe=>Na e.1 h) h
theorem Yn (h2:2≤r.st) (h4:r.st≤4) (hr:gw r.T.ni r.T.no l=true):ff r l=(⟨{r.T with ls:=r.T.ls++[pH l]},4,r.told⟩,if r.T.ls.length=64 then 3 else 0):=by
 have hd:∀b,¬l=46::b:=λb e=>by rw[GI e]at hr;cases hr
 exact Qc (by omega) (by omega) (by omega) (λe=>by obtain⟨b,hb⟩:=B7 e.1;exact hd b hb) (λe=>by obtain⟨b,hb⟩:=Ub e.1;exact hd b hb) (λe=>hd _ e) hr
theorem aaM (h2:2≤r.st) (h4:r.st≤4) (hk:oS l 4<0) (hn:¬fG l [46,112] 0 64≥0) (he:¬l=[46,101]) (hr:gw r.T.ni r.T.no l=false):(ff r l).2=2:=by
 by_cases hp:Lib.hasPrefix l gT=true∧r.st=2
 ·rw[Uj (by omega) (by omega) (by omega) hp.1 hp.2 λq hq e=> ?_]
  obtain⟨x,hx⟩:=mt.1 hp.1
  rw[hx,pO]at e
  exact M3 4 hk q hq (by rw[hx,e])
 ·rw[Jy (by omega) (by omega) (by omega) hp (λe=>hn e.1) he hr]
theorem aae (h:r.st=5):(ff r l).2=2:=by rw[Yq (by omega) (by omega) h]
end
section
variable {s l:List UInt8} {A:List (List UInt8)} {b:UInt8}
theorem mr:∀(p r:List UInt8) (A:List (List UInt8)) (c:List UInt8),cN p=A++[c]→∃h t,cN r=h::t∧cN (p++r)=A++(c++h)::t
 |[],r,A,c,h=>by
  have hA:A=[]∧c=[]:=by
   rw[cN]at h
   cases A with
   |nil=>simp at h;exact⟨rfl,h⟩
   |cons a A=>simp at h
  obtain⟨rfl,rfl⟩:=hA
  cases hr:cN r with
  |nil=>exact absurd hr (l7 r)
  |cons x t=>exact⟨x,t,rfl,by simp[hr]⟩
 |a::p,r,A,c,h=>by
  by_cases ha:a=10
  ·subst ha
   rw[cN,if_pos rfl]at h
   cases A with
   |nil=>
    simp at h
    exact absurd h.2 (l7 p)
   |cons x A=>
    simp at h
    obtain⟨h0,h1⟩:=h
    obtain⟨y,t,e1,e2⟩:=mr p r A c h1
    refine⟨y,t,e1,?_⟩
    rw[abR,cN,if_pos rfl,e2,←h0]
    rfl
  ·rw[cN,if_neg ha]at h
   cases hp:cN p with
   |nil=>exact absurd hp (l7 p)
   |cons x u=>
    rw[hp]at h
    simp only at h
    cases A with
    |nil=>
     simp at h
     obtain⟨h0,h1⟩:=h
     obtain⟨y,t,e1,e2⟩:=mr p r [] x (by rw[hp,h1];rfl)
     refine⟨y,t,e1,?_⟩
     rw[abR,cN,if_neg ha,e2]
     simp[←h0]
    |cons z A=>
     simp at h
     obtain⟨h0,h1⟩:=h
     obtain⟨y,t,e1,e2⟩:=mr p r (x::A) c (by rw[hp,h1];rfl)
     refine⟨y,t,e1,?_⟩
     rw[abR,cN,if_neg ha,e2]
     simp[←h0]
theorem Co (b:UInt8):cN [b]=if b=10 then [[],[]]else [[b]]:=by
 by_cases hb:b=10
 ·rw[if_pos hb];subst hb;rfl
 ·rw[if_neg hb,cN,if_neg hb];rfl
theorem uM {i:Nat} (hi:i<s.length) (h:cN (s.take i)=A++[l]) (hb:fZ s i=10):cN (s.take (i+1))=(A++[l])++[[]]:=by
 obtain⟨x,t,e1,e2⟩:=mr (s.take i) [s[i]] A l h
 have hb2:s[i]=10:=by
  unfold fZ at hb
  rw[me,we hi]at hb
  exact UInt8.toNat_inj.1 hb
 rw[Co,if_pos hb2]at e1
 have hx:=(abT e1).1
 have ht:=(abT e1).2
 rw[abt,we hi]
 show cN (s.take i++[s[i]])=_
 rw[e2,←hx,←ht]
 simp
theorem Mp {i:Nat} (hi:i<s.length) (h:cN (s.take i)=A++[l]) (hb:¬fZ s i=10):cN (s.take (i+1))=A++[l++(s.drop i).take (i+1-i)]:=by
 obtain⟨x,t,e1,e2⟩:=mr (s.take i) [s[i]] A l h
 have hb2:¬s[i]=10:=λe=>hb (by
  unfold fZ
  rw[me,we hi,e]
  rfl)
 rw[Co,if_neg hb2]at e1
 have hx:=(abT e1).1
 have ht:=(abT e1).2
 rw[abt,we hi]
 show cN (s.take i++[s[i]])=_
 rw[e2,←hx,←ht,show i+1-i=1 by omega,List.drop_eq_getElem_cons hi]
 rfl
theorem Lw {i:Nat} (h:cN (s.take i)=A++[l]):∃x t,cN s=A++x::t:=by
 obtain⟨x,t,_,e2⟩:=mr (s.take i) (s.drop i) A l h
 rw[List.take_append_drop]at e2
 exact⟨_,_,e2⟩
theorem LB {i:Nat} (hi:i<s.length) (h:cN (s.take i)=A++[l]) (hb:fZ s i=10):(cN s).getD A.length []=l∧A.length+1<(cN s).length:=by
 obtain⟨x,t,e⟩:=Lw (uM hi h hb)
 rw[e]
 constructor
 ·rw[abm,me,abz (am _),Nat.sub_self]
  rfl
 ·simp
theorem KU (h:cN (s.take s.length)=A++[l]):(cN s).length=A.length+1∧(cN s).getD A.length []=l:=by
 rw[aa7]at h
 rw[h]
 constructor
 ·simp
 ·rw[me,abz (am _),Nat.sub_self]
  rfl
end
def wK (st:Int):Int:=if st=5 then 6 else st
theorem Se {r:Rd} {l:List UInt8} (h0:0≤r.st) (h5:r.st≤5):0≤(ff r l).1.st∧(ff r l).1.st≤5:=by
 unfold ff
 split
 ·exact⟨by show 0≤r.st+1;omega,by show r.st+1≤5;omega⟩
 split
 ·exact⟨by show 0≤r.st+1;omega,by show r.st+1≤5;omega⟩
 split
 ·exact⟨h0,h5⟩
 split
 ·split<;>exact⟨by show (0:Int)≤3;decide,by show (3:Int)≤5;decide⟩
 split
 ·exact⟨by show (0:Int)≤4;decide,by show (4:Int)≤5;decide⟩
 split
 ·exact⟨by show (0:Int)≤5;decide,by show (5:Int)≤5;decide⟩
 split<;>exact⟨by show (0:Int)≤4;decide,by show (4:Int)≤5;decide⟩
theorem Ga (ls:List (List UInt8)):∀k,k≤ls.length→0≤(iz ls k).st∧(iz ls k).st≤5
 |0,_=>⟨by show (0:Int)≤0;decide,by show (0:Int)≤5;decide⟩
 |k+1,h=>by
  obtain⟨h0,h5⟩:=Ga ls k (by omega)
  rw[mD (by omega)]
  cases hs:oO (ls.getD k [])with
  |true=>rw[(jh hs).1];exact⟨h0,h5⟩
  |false=>rw[(fH hs).1];exact Se h0 h5
theorem z8 {s l:List UInt8} {A:List (List UInt8)} (h:(cN s).getD A.length []=l∧A.length+1<(cN s).length):iz (cN s) (A++[l]).length=kX (iz (cN s) A.length) l:=by
 rw[An,abp,mD (by omega),h.1]
theorem DG {s l:List UInt8} {A:List (List UInt8)} (herr:∀q,q<A.length→lx (iz (cN s) q) ((cN s).getD q [])=0) (h:(cN s).getD A.length []=l∧A.length+1<(cN s).length) (he:lx (iz (cN s) A.length) l=0):
  ∀q,q<(A++[l]).length→lx (iz (cN s) q) ((cN s).getD q [])=0:=λq hq=>by
 rw[An,abp]at hq
 rcases aaK.1 hq with k|rfl
 ·exact herr q k
 ·rw[h.1];exact he
def um (r:Rd) (l:List UInt8) (r2:Rd) (e:Int):Prop:=e=(ff r l).2∧(e=0→r2=(ff r l).1)
theorem ada {r:Rd} {l:List UInt8} {r2:Rd} {e:Int} (h:(ff r l).2=e) (he:e≠0):um r l r2 e:=⟨h.symm,λk=>absurd k he⟩
theorem adi {r:Rd} {l:List UInt8} {r2:Rd} {e:Int} (h:ff r l=(r2,e)):um r l r2 e:=by
 unfold um
 rw[h]
 exact⟨rfl,λ_=>rfl⟩
section
variable {r:Rd} {l:List UInt8}
theorem Xb (h:wK r.st=0):r.st=0:=by unfold wK at h;split at h<;>omega
theorem aaQ (h:wK r.st=1):r.st=1:=by unfold wK at h;split at h<;>omega
theorem aav (h:wK r.st=2):r.st=2:=by unfold wK at h;split at h<;>omega
theorem Wg (h:wK r.st<4):r.st<4:=by unfold wK at h;split at h<;>omega
theorem Xt (h5:r.st≤5) (h:¬wK r.st<6):r.st=5:=by unfold wK at h;split at h<;>omega
theorem Ya (h0:0≤r.st) (h:wK r.st<6) (n0:¬wK r.st=0) (n1:¬wK r.st=1):2≤r.st∧r.st≤4:=by
 unfold wK at*
 split at h<;>split at n0<;>omega
theorem ZA (h:wK r.st=0) {e:Int} (he:e=JS (decide (fG l [46,105] 0 8≥0))):um r l ⟨{r.T with ni:=fG l [46,105] 0 8},1,r.told⟩ e:=by
 rw[he]
 exact adi (by rw[Uy (Xb h),Xb h];rfl)
theorem XA (h:wK r.st=1) {e:Int} (he:e=JS (decide (fG l [46,111] 1 4≥0))):um r l ⟨{r.T with no:=fG l [46,111] 1 4},2,r.told⟩ e:=by
 rw[he]
 have h1:=aaQ h
 exact adi (by rw[VB (by omega) h1,h1];rfl)
theorem Y6 {p:Prop} [Decidable p] (h:p):(0:Int)=JS (decide p):=by rw[decide_eq_true h];rfl
theorem YQ {p:Prop} [Decidable p] (h:¬p):(2:Int)=JS (decide p):=by rw[decide_eq_false h];rfl
theorem aak {r2:Rd} (h5:r.st≤5) (h:¬wK r.st<6):um r l r2 2:=ada (aae (Xt h5 h)) (by decide)
theorem aas (h:wK r.st=2) (hk:oS l 4≥0):um r l ⟨{r.T with kind:=oS l 4},3,r.told⟩ 0:=by
 obtain⟨q,h1,h2,h3⟩:=Da 4 hk
 rw[h3]
 exact adi (aaV (aav h) h1 h2)
theorem Yx {r2:Rd} (hs:2≤r.st∧r.st≤4) (h:¬wK r.st=2) (hk:oS l 4≥0):um r l r2 2:=by
 obtain⟨q,h1,h2,h3⟩:=Da 4 hk
 exact ada (ZB (by unfold wK at h;split at h<;>omega) hs.2 h1 h2) (by decide)
theorem Z6 (hs:2≤r.st∧r.st≤4) (h:wK r.st<4) (hn:fG l [46,112] 0 64≥0):um r l ⟨r.T,4,fG l [46,112] 0 64⟩ 0:=
 adi (aaf hs.1 (by have:=Wg h;omega) hn)
theorem Yv {r2:Rd} (hs:2≤r.st∧r.st≤4) (h:¬wK r.st<4) (hn:fG l [46,112] 0 64≥0):um r l r2 2:=
 ada (YV (by unfold wK at h;split at h<;>omega) hn) (by decide)
theorem Xo (hs:2≤r.st∧r.st≤4) (h:l=[46,101]) (hb:r.told<0∨r.told=(r.T.ls.length:Int)):um r l ⟨r.T,5,r.told⟩ 0:=
 adi (by rw[Xn hs.1 hs.2 h,Iv (by rcases hb with hb|hb<;>simp[hb])])
theorem YL {r2:Rd} (hs:2≤r.st∧r.st≤4) (h:l=[46,101]) (h1:¬r.told<0) (h2:¬r.told=(r.T.ls.length:Int)):um r l r2 2:=
 ada (by rw[Xn hs.1 hs.2 h,decide_eq_false h1,decide_eq_false h2];rfl) (by decide)
theorem aac (hs:2≤r.st∧r.st≤4) (hr:gw r.T.ni r.T.no l=true) (hl:¬r.T.ls.length≥64):um r l ⟨{r.T with ls:=r.T.ls++[pH l]},4,r.told⟩ 0:=
 adi (by rw[Yn hs.1 hs.2 hr,if_neg (by omega)])
theorem Xg {r2:Rd} (hs:2≤r.st∧r.st≤4) (hr:gw r.T.ni r.T.no l=true) (h64:r.T.ls.length≤64) (hl:r.T.ls.length≥64):um r l r2 3:=
 ada (by rw[Yn hs.1 hs.2 hr,if_pos (by omega)]) (by decide)
theorem aay {r2:Rd} (hs:2≤r.st∧r.st≤4) (hk:¬oS l 4≥0) (hn:¬fG l [46,112] 0 64≥0) (he:¬l=[46,101]) (hr:gw r.T.ni r.T.no l=false):um r l r2 2:=
 ada (aaM hs.1 hs.2 (by omega) hn he hr) (by decide)
end
section
variable {P:Program} {f:Nat→Value} {w:World} {d:Option Nat} {ty:TypeId} {ps:String} {af:Array Edge} {g:Option (Nat×Bool)} {x:Operand} {t:TypeId}
theorem HW {a:List UInt8} {kj:IntKind} {j:Nat} {xj:Operand} (hx:dk f x=dY a) (hj:dk f xj= .int kj (j:Int)) (ht:P.underlying t=some .string) (h2:j≤a.length):
  (execOp (dk f) ⟨d, .slice t x none (some xj) none,ty,ps,af,g⟩).run P w= .ok (.value (dY (a.take j))) w:=by
 unfold dY at hx
 have h:=run_slice_string_h (P:=P) w t ⟨a.toArray⟩ ht kj (j:Int) (by omega) (by simp[ByteArray.size];exact h2)
 rw[so,ByteArray.extract_mk]at h
 simp[execOp,hx,hj,run_sliceAt_string w t _ _ _ _ ht,h,dY]
end
theorem QP {s:List UInt8} {v:Value} (h:v=if jy s=true then .tuple #[.agg #[.int .u8 ((pb s).m:Int), .int .u8 ((pb s).v:Int)], .bool true]else .tuple #[.agg #[.int .u8 0, .int .u8 0], .bool false]):
  ∃(m u:Nat) (b:Bool),v= .tuple #[.agg #[.int .u8 (m:Int), .int .u8 (u:Int)], .bool b]∧m<256∧u<256∧b=jy s∧(b=true→m=(pb s).m∧u=(pb s).v):=by
 by_cases hc:jy s=true
 ·rw[if_pos hc]at h
  have h8:s.length≤8:=by
   unfold jy at hc
   rw[th]at hc
   exact of_decide_eq_true hc.1
  have h1:=zb s s.length
  have h2:=DL s s.length
  have h3:=aa8 (show 0<2 by decide) h8
  exact⟨_,_,true,h,abe h1 h3,abe h2 h3,hc.symm,λ_=>⟨rfl,rfl⟩⟩
 ·rw[if_neg hc]at h
  exact⟨0,0,false,h,by decide,by decide,(aa0.2 hc).symm,λe=>by cases e⟩
section
variable {line:List UInt8} {ni no j cm cu N:Nat} {cb b:Bool} {T:TypeId} {w:World} {ov:Value}
theorem Vo (hl:line.length=ni+1+no) (hj:ni+1+j<line.length) (h:PS (fZ line (ni+1+j)) 3=3):gw (ni:Int) (no:Int) line=false:=aa0.2 λk=>by
 have h1:=(uP.1 k).2.2.2 j (by rw[abw];omega)
 rw[zE,aag (uc _ _) h]at h1
 cases h1
theorem O6 (h1:cm<256) (h2:cu<256) (h3:cb=jy (line.take ni)) (h4:cb=true→cm=(pb (line.take ni)).m∧cu=(pb (line.take ni)).v) (ho:cH dT 1 T w N ov (iE ((line.drop (ni+1)).take j))) (hl:line.length=ni+1+no) (hj:ni+1+j=line.length)
  (hq:∀q,q<j→kh (fZ (line.drop (ni+1)) q)=true) (hb:b=(cb&&decide (fZ line ni=32))):
  ∃(m u:Nat) (ov':Value) (os:List Int) (b':Bool),Value.tuple #[.agg #[.int .u8 (cm:Int), .int .u8 (cu:Int),ov], .bool b]= .tuple #[.agg #[.int .u8 (m:Int), .int .u8 (u:Int),ov'], .bool b']∧m<256∧u<256∧cH dT 1 T w N ov' os∧b'=gw (ni:Int) (no:Int) line∧(b'=true→(⟨⟨m,u⟩,os⟩:Ln)=pH line):=by
 have hd:(line.drop (ni+1)).length=j:=by rw[abw];omega
 rw[←hd,aa7]at ho
 have e:b=gw (ni:Int) (no:Int) line:=by
  rw[abA,uP,hb,th,decide_eq_true_eq,h3]
  exact⟨λk=>⟨hl,k.1,k.2,λq hq'=>hq q (by omega)⟩,λk=>⟨k.2.1,k.2.2.1⟩⟩
 refine⟨cm,cu,ov,_,b,rfl,h1,h2,ho,e,λk=> ?_⟩
 rw[MM (e▸k)]
 rw[hb,th]at k
 obtain⟨rfl,rfl⟩:=h4 k.1
 rfl
end
end
end Go.Proofs.YtedeonkjellcpaaGreatDoor
