/- Words and walks of the row. No condition. -/
import Derived.Test.YtedeonkjellcpaaGreatDoorWThin
namespace Go.Proofs.YtedeonkjellcpaaGreatDoor
open Go Go.RowKit
set_option autoImplicit true
set_option relaxedAutoImplicit true
set_option linter.unusedVariables false
set_option linter.unusedSimpArgs false
section
theorem IQ:eb Tryz.prog 298 0=some 0:=by kernel_rfl
theorem rJ:kn Tryz.prog 298=some 5:=by kernel_rfl
theorem yG:cY Tryz.prog 235=true:=by kernel_rfl
theorem Ke:cY Tryz.prog 265=true:=by kernel_rfl
theorem sv:eN Tryz.prog 212=true:=by kernel_rfl
theorem IG:eb Tryz.prog 298 1=some 1:=by kernel_rfl
theorem J7:cY Tryz.prog 263=true:=by kernel_rfl
theorem RW:d4 Tryz.prog 212=some (.slice none 0 0):=by kernel_rfl
theorem J8:cY Tryz.prog 264=true:=by kernel_rfl
theorem xA (s:Nat) (i:Int) (one:Bool) (w:World):
    Fn Tryz.prog 263 #[el s, .int .i64 i, .bool one] w λv w'=>v=el (if 0≤i∧i<8 then cS s i.toNat one else 0):=by
 refine cK (n:=31) Tryz.func263 rfl rfl rfl λhB=> ?_
 refine Zr<|Zy (du (c:= #[_,_,_,_]) rfl rfl λF W3 ag G b=> ?_)
 replace hB:=Ze hB G
 refine Zy (cM ep rfl λt W6 I J a=> ?_)
 have K:=ZO I hB
 obtain⟨hB,b⟩:=J.k2 hB b
 replace a:At W6 t #[wv 0 0,wv 0 1,wv 0 2,wv 0 3] 40:=a
 refine ct<|Zr<|Zv (cz rfl cC rfl b)<|Zi rfl<|Zb rfl<|ZC (vs:=[.agg #[_,_,_,_], .int .i64 _, .bool _]) DU (Aa _ _ _ _) rfl λah ai L M=> ?_
 obtain⟨hB,b,a⟩:=L.k3 hB b a
 obtain rfl:=M
 generalize hH:(if 0≤i∧i<8 then qX s i.toNat one else 0)=H
 refine Zy (cM ep rfl λu N l O d=> ?_)
 have P:=ZO l hB
 have Q:=Zn l b.lt
 have R:=Zn l a.lt
 obtain⟨hB,b,a⟩:=O.k3 hB b a
 replace d:At N u #[wv 0 0,wv 0 1,wv 0 2,wv 0 3] 40:=d
 refine Zy (cA rfl rfl cC rfl d rfl rfl λaj o S=> ?_)
 replace hB:=Zg hB o P
 replace b:=At.grownNe b Q o
 replace a:=At.grownNe a R o
 replace d:=S
 refine ct<|Zr<|Zv (cz rfl cC rfl d)<|Zy (cM ep rfl λx T h U e=> ?_)
 have y:=ZO h hB
 have z:=Zn h b.lt
 have q:=Zn h a.lt
 have A:=Zn h d.lt
 obtain⟨hB,b,a,d⟩:=U.k4 hB b a d
 replace e:At T x #[wv 0 0,wv 0 1,wv 0 2,wv 0 3] 40:=e
 refine Zy (cA rfl rfl cC rfl e rfl rfl λak j V=> ?_)
 replace hB:=Zg hB j y
 replace b:=At.grownNe b z j
 replace a:=At.grownNe a q j
 replace d:=At.grownNe d A j
 replace e:=V
 refine ct<|Zq<|Zr<|Zv (cz rfl cC rfl d)<|ZC (vs:=[.agg #[_,_,_,_]]) uP (n4 _ _) rfl λr al X f=> ?_
 have Y:=(Below.size hB)
 obtain⟨hB,b,a,d,e⟩:=X.k5 hB b a d e
 replace f:=cH.mono f Y
 refine Zv (db (v:=r) rfl f.sl cV)<|ZZ rfl<|cy ?_
 refine cW (σ:=(Nat)) [10,10,19,29] (λk=>[(19, .int .i64 (k:Int))]) (λk W=>(Below w.heap.size w W)∧(At W F _ 40)∧(At W t _ 40)∧(At W u _ 40)∧(cH dX 1 3 W w.heap.size r _)∧(At W x #[wv (kP (ej H) H i.toNat k) 0,wv (kP (ej H) H i.toNat k) 1,wv (kP (ej H) H i.toNat k) 2,wv (kP (ej H) H i.toNat k) 3] 40)∧(k≤(ej H).length)∧(True)) (λk=>(ej H).length-k) (0) ⟨rfl,trivial⟩ ⟨hB,b,a,d,f,e,(me _),trivial⟩ ?_
 rintro k ao ap ⟨hB,b,a,d,f,e,hk,_⟩ aq Z
 have hll:=mv H
 refine Zr<|Zv (dq rfl rfl)<|ct<|Zq<|ZQ rfl (λB=> ?_) λB=> ?_
 refine cx<|Zq<|cy ?_
 have hi8:0≤i∧i<8:=SS hH B
 obtain⟨p,ar,au,C⟩:=mq (s:=H) (i:=k) (by omega)
 have h7:=Eb (show i.toNat<8 by omega)
 refine Zr<|Zv (dp (v:=r) rfl f.sl rfl cV Om (by omega))<|Zv (cD (v:= .int .i64 _) rfl cR (dr.cell f.sl eD 0 Om (by omega) 0 rfl))<|ZZ rfl ?_
 have aa:(ej H).getD (k:Int).toNat 0=(p:Int):=C
 rw[aa]
 refine eR dA fx (λab ac=> ?_)
 obtain⟨hB,b,a,d,f,e⟩:=ac.k6 hB b a d f e
 have hS:=dA.refl ab
 refine Tk 0 rfl (λ_ hq=>cz rfl cC rfl (hq.at e)) hS<|Ti 1 rfl rfl hS<|Ti 2 rfl rfl hS<|Tk 3 rfl (λ_ _=>jK (m:=1) rfl rfl Om (by simp only[IntKind.bits];omega) pX) hS<|Tk 4 rfl (λ_ _=>P4 (n:=_) rfl rfl rfl pX pX) hS<|To 5 rfl (TC (vs:=[.agg #[_,_,_,_], .int .i64 _]) yY (oq _ _ _) rfl λav aw D ad=>⟨.inl (hS.trans D),?_⟩)
 obtain⟨hB,b,a,d,f,e⟩:=D.k6 hB b a d f e
 obtain rfl:=ad
 refine To 6 rfl (cA rfl rfl cC rfl e rfl rfl λax g ae=>⟨.inr jW,?_⟩)
 replace hB:=Zg hB g y
 replace b:=At.grownNe b z g
 replace a:=At.grownNe a q g
 replace d:=At.grownNe d A g
 replace f:=cH.grownAt f e g Dd
 replace e:=ae
 refine Td<|ZT rfl rfl rfl ?_
 exact Z _ _ (k+1) Za ⟨rfl,trivial⟩ ⟨hB,b,a,d,f,(by rw[xh Om,C,my,←abJ (2^i.toNat)];exact e),Om,trivial⟩ Zo
 refine cT<|Zr<|Zv (cz rfl cC rfl e)<|Zy (cA rfl rfl cC rfl a rfl rfl λay E af=> ?_)
 replace hB:=Zg hB E K
 replace e:=At.grownNe e (Ne.symm q) E
 replace a:=af
 refine ct<|Zt<|jp rfl cC a rfl ⟨hB,?_⟩
 obtain rfl:k=(ej H).length:=by omega
 rw[Pu hH]
theorem ng (n:Nat) (x:Value) (l:List Cb) (w:World) (h8:n≤8) (hl:dr iI 2 w x l) (hr:∀c,c∈l→c.m<2^n∧c.v &&& c.m=c.v) (hlb:l.length≤100000):
    Fn Tryz.prog 265 #[.agg #[.int .i64 (n:Int),wv (fk n) 0,wv (fk n) 1,wv (fk n) 2,wv (fk n) 3],x] w λv w'=>v=el (ma l n l.length):=by
 refine cK (n:=28) Tryz.func265 rfl rfl rfl λhB=> ?_
 refine Zr<|Zy (du (c:= #[_,_,_,_,_]) rfl rfl λu W3 Y y d=> ?_)
 replace hB:=Ze hB y
 refine Zy (cM ep rfl λo W6 z A a=> ?_)
 have B:=ZO z hB
 obtain⟨hB,d⟩:=A.k2 hB d
 replace a:At W6 o #[wv 0 0,wv 0 1,wv 0 2,wv 0 3] 40:=a
 refine ct<|Zr<|Zy (cM ep rfl λp C q D b=> ?_)
 have E:=ZO q hB
 have r:=Zn q a.lt
 obtain⟨hB,d,a⟩:=D.k3 hB d a
 replace b:At C p #[wv 0 0,wv 0 1,wv 0 2,wv 0 3] 40:=b
 refine ct<|Zq<|Zr<|Zw x rfl<|Zv (db (v:=x) rfl (Below.slT hB hl) eH)<|ZZ rfl<|cy ?_
 refine cW (σ:=(Nat)) [7,9,12,26] (λk=>[(12, .int .i64 (k:Int))]) (λk W=>(Below w.heap.size w W)∧(At W u _ 298)∧(At W o _ 40)∧(At W p #[wv (ma l n k) 0,wv (ma l n k) 1,wv (ma l n k) 2,wv (ma l n k) 3] 40)∧(k≤l.length)∧(True)) (λk=>l.length-k) (0) ⟨rfl,trivial⟩ ⟨hB,d,a,b,(me _),trivial⟩ ?_
 rintro k Z aa ⟨hB,d,a,b,hk,_⟩ ab F
 refine Zr<|Zv (dq rfl rfl)<|ct<|Zq<|ZQ rfl (λG=> ?_) λG=> ?_
 refine cx<|Zq<|cy ?_
 obtain⟨hr1,hr2⟩:=hr (l.getD k ⟨0,0⟩) (dF (by omega))
 have hle256:=gm h8
 have hr3:(l.getD k ⟨0,0⟩).v≤(l.getD k ⟨0,0⟩).m:=by rw[←hr2];exact acX
 have hrr:dS (l.getD k ⟨0,0⟩).m (l.getD k ⟨0,0⟩).v (n:Int)=true:=dB.2 ⟨by omega,by omega,hr1,hr2⟩
 refine Zr<|Zv (dp (v:=x) rfl (Below.slT hB hl) rfl eH Om (by omega))<|Zv (io rfl dh (dr.cell (Below.slT hB hl) gx ⟨0,0⟩ Om (by omega) 0 rfl) (dr.cell (Below.slT hB hl) gx ⟨0,0⟩ Om (by omega) 1 rfl))<|Zy (cM gV rfl λac ad H I e=> ?_)
 have J:=ZO H hB
 obtain⟨hB,d,a,b⟩:=I.k4 hB d a b
 refine Zy (cA rfl rfl dh rfl e rfl rfl λae g K=> ?_)
 replace hB:=Zg hB g J
 replace d:=At.grownAt d e g Dd
 replace a:=At.grownAt a e g Dd
 replace b:=At.grownAt b e g Dd
 replace e:=K
 refine ct<|Zr<|Zv (cz rfl dh rfl e)<|Zf rfl IQ<|Zl rfl cR d rfl<|ZC (vs:=[.agg #[_,_], .int .i64 _]) zH (kx _ _ (n:Int) _ (by show (l.getD k ⟨0,0⟩).m<256;omega) (by show (l.getD k ⟨0,0⟩).v<256;omega)) rfl λaf ag L s=> ?_
 obtain⟨hB,d,a,b⟩:=L.k4 hB d a b
 rw[if_pos (show dS (l.getD ((k:Nat):Int).toNat ⟨0,0⟩).m (l.getD ((k:Nat):Int).toNat ⟨0,0⟩).v (n:Int)=true from hrr)]at s
 obtain rfl:=s
 refine Zw (.tuple #[.agg #[_,_,_,_], .int .i64 _]) rfl<|Zv (c7 rfl)<|Zv (da rfl)<|Zy (cM ep rfl λM N i O f=> ?_)
 have P:=ZO i hB
 have Q:=Zn i a.lt
 have R:=Zn i b.lt
 obtain⟨hB,d,a,b⟩:=O.k4 hB d a b
 replace f:At N M #[wv 0 0,wv 0 1,wv 0 2,wv 0 3] 40:=f
 refine Zy (cA rfl rfl cC rfl f rfl rfl λah h S=> ?_)
 replace hB:=Zg hB h P
 replace d:=At.grownAt d f h Dd
 replace a:=At.grownNe a Q h
 replace b:=At.grownNe b R h
 replace f:=S
 refine ZZ rfl<|cI<|Zv (cz rfl cC rfl b)<|Zv (cz rfl cC rfl f)<|ZC (vs:=[.agg #[_,_,_,_], .agg #[_,_,_,_]]) qG (pC _ _ _) rfl λai aj T U=> ?_
 obtain⟨hB,d,a,b⟩:=T.k4 hB d a b
 obtain rfl:=U
 refine Zy (cA rfl rfl cC rfl b rfl rfl λak j V=> ?_)
 replace hB:=Zg hB j E
 replace d:=At.grownAt d b j Dd
 replace a:=At.grownNe a r j
 replace b:=V
 refine ct<|ZT rfl rfl rfl ?_
 exact F _ _ (k+1) Za ⟨rfl,trivial⟩ ⟨hB,d,a,(by exact b),Om,trivial⟩ Zo
 refine cT<|Zr<|Zv (cz rfl cC rfl b)<|Zy (cA rfl rfl cC rfl a rfl rfl λal t X=> ?_)
 replace hB:=Zg hB t B
 replace b:=At.grownNe b (Ne.symm r) t
 replace a:=X
 refine ct<|Zt<|jp rfl cC a rfl ⟨hB,?_⟩
 obtain rfl:k=l.length:=by omega
 rfl
theorem CT0 (n f i on may N bm bons bmays bi brest bout rest:Nat) (v0:Value) (out:List Cb) (w:World) (hN0:N≤w.heap.size) (hih:∀(on may i:Nat) (w:World),n≤8→oI n on may i→n+1-i≤f→f≤9→Fn Tryz.prog 235 #[.agg #[.int .i64 (n:Int),wv (fk n) 0,wv (fk n) 1,wv (fk n) 2,wv (fk n) 3],el on,el may, .int .i64 (i:Int)] w λv w'=>cH iI 2 34 w' w.heap.size v (eL n f on may i)) (h8:n≤8) (hg:oI n on may i) (hi:i<n) (hf:n+1-(i+1)≤f) (hf9:f≤8) (hm:At w bm #[.int .i64 (n:Int),wv (fk n) 0,wv (fk n) 1,wv (fk n) 2,wv (fk n) 3] 298) (hons:At w bons (oo (cS on i false) (cS on i true)) 315) (hmays:At w bmays (oo (cS may i false) (cS may i true)) 315) (hbi:At w bi #[.int .i64 (i:Int)] 3) (hrest:At w brest #[wv rest 0,wv rest 1,wv rest 2,wv rest 3] 40) (hout:At w bout #[v0] 212) (hown:cH iI 2 34 w N v0 out) (hlen:out.length≤20000) (lor:N≤brest) (loo:N≤bout):
    lk Tryz.prog 264 #[.int .i64 0, .pointer (some ⟨bm,0,none⟩), .pointer (some ⟨bons,0,none⟩), .pointer (some ⟨bmays,0,none⟩), .pointer (some ⟨bi,0,none⟩), .pointer (some ⟨brest,0,none⟩), .pointer (some ⟨bout,0,none⟩)] w λv w'=>Below N w w'∧At w' bm #[.int .i64 (n:Int),wv (fk n) 0,wv (fk n) 1,wv (fk n) 2,wv (fk n) 3] 298∧At w' bons (oo (cS on i false) (cS on i true)) 315∧At w' bmays (oo (cS may i false) (cS may i true)) 315∧At w' bi #[.int .i64 (i:Int)] 3∧At w' brest #[wv (rest ||| andNot (cS on i false) (ma (eL n f (andNot (cS on i false) (cS may i true)) (cS may i false) (i+1)) n (eL n f (andNot (cS on i false) (cS may i true)) (cS may i false) (i+1)).length)) 0,wv (rest ||| andNot (cS on i false) (ma (eL n f (andNot (cS on i false) (cS may i true)) (cS may i false) (i+1)) n (eL n f (andNot (cS on i false) (cS may i true)) (cS may i false) (i+1)).length)) 1,wv (rest ||| andNot (cS on i false) (ma (eL n f (andNot (cS on i false) (cS may i true)) (cS may i false) (i+1)) n (eL n f (andNot (cS on i false) (cS may i true)) (cS may i false) (i+1)).length)) 2,wv (rest ||| andNot (cS on i false) (ma (eL n f (andNot (cS on i false) (cS may i true)) (cS may i false) (i+1)) n (eL n f (andNot (cS on i false) (cS may i true)) (cS may i false) (i+1)).length)) 3] 40∧∃v1,At w' bout #[v1] 212∧cH iI 2 34 w' N v1 (out++(eL n f (andNot (cS on i false) (cS may i true)) (cS may i false) (i+1)).map (i7 i 0)):=by
 refine dL (n:=60) (N:=N) Tryz.func264 rfl rfl rfl λhB=> ?_
 have hi8:i<8:=by omega
 refine Zd dA λW3 M=> ?_
 obtain⟨hm,hons,hmays,hbi,hrest,hout,hown⟩:=M.k7 hm hons hmays hbi hrest hout hown
 replace hB:=cX hB M hN0
 have hS:=dA.refl W3
 refine Tk 0 rfl (λ_ hq=>cz rfl rJ rfl (hq.at hm)) hS<|Ti 1 rfl rfl hS<|Tk 2 rfl (λ_ _=>ff rfl rfl ii Om Om) hS<|Tk 3 rfl (λ_ hq=>eI rfl cC (At.cell (hq.at hons) rfl) (At.cell (hq.at hons) rfl) (At.cell (hq.at hons) rfl) (At.cell (hq.at hons) rfl)) hS<|Ti 4 rfl rfl hS<|Tk 5 rfl (λ_ _=>jY rfl rfl Om Om) hS<|Tk 6 rfl (λ_ _=>ff rfl rfl ii Om Om) hS<|Tk 7 rfl (λ_ hq=>eI rfl cC (At.cell (hq.at hmays) rfl) (At.cell (hq.at hmays) rfl) (At.cell (hq.at hmays) rfl) (At.cell (hq.at hmays) rfl)) hS<|Ti 9 rfl rfl hS<|Tk 10 rfl (λ_ _=>ff rfl rfl ii Om Om) hS<|Tk 11 rfl (λ_ hq=>eI rfl cC (At.cell (hq.at hmays) rfl) (At.cell (hq.at hmays) rfl) (At.cell (hq.at hmays) rfl) (At.cell (hq.at hmays) rfl)) hS<|Tk 12 rfl (λ_ hq=>cD (v:= .int .i64 _) rfl cR (At.cell (hq.at hbi) rfl)) hS<|Tk 13 rfl (λ_ _=>d5 rfl rfl Om Om) hS<|To 8 rfl (TC (vs:=[.agg #[_,_,_,_], .agg #[_,_,_,_]]) tz (mr _ _ _) rfl λal W5 y P=>⟨.inl (hS.trans y),?_⟩)
 obtain⟨hm,hons,hmays,hbi,hrest,hout,hown⟩:=y.k7 hm hons hmays hbi hrest hout hown
 replace hB:=cX hB y hN0
 replace hS:=hS.trans y
 obtain rfl:=P
 refine To 14 rfl (TC (vs:=[.agg #[_,_,_,_,_], .agg #[_,_,_,_], .agg #[_,_,_,_], .int .i64 _]) yG (hih _ _ (i+1) _ h8 (hg.side h8 hi false) hf (go hf9 Dd)) rfl λl W9 z a=>⟨.inl (hS.trans z),?_⟩)
 have Q:=adi hown
 have R:=(go hN0 (Below.size hB))
 obtain⟨hm,hons,hmays,hbi,hrest,hout,hown⟩:=z.k7 hm hons hmays hbi hrest hout hown
 replace hB:=cX hB z hN0
 replace hS:=hS.trans z
 have S:=fp.new Q a
 replace a:=cH.mono a R
 have hcm:jN n (cS may i false) (i+1) (eL n f (andNot (cS on i false) (cS may i true)) (cS may i false) (i+1)):=(lW h8 f _ _ _ (hg.side h8 hi false) hf).1
 have hcl:=jr (n:=n) f (andNot (cS on i false) (cS may i true)) (cS may i false) (i+1)
 have h3f:3^f≤3^8:=aaV (by decide) hf9
 try simp only[Bool.not_false,Bool.not_true]at a
 generalize hL:eL n f (andNot (cS on i false) (cS may i true)) (cS may i false) (i+1)=L at*
 refine Tw 15 l rfl rfl hS<|Td<|Zd dA λT B=> ?_
 obtain⟨hm,hons,hmays,hbi,hrest,hout,hown⟩:=B.k7 hm hons hmays hbi hrest hout hown
 replace hB:=cX hB B hN0
 replace a:=B.ow a
 have hS:=dA.refl T
 refine Tk 0 rfl (λ_ hq=>cz rfl cC rfl (hq.at hrest)) hS<|Ti 1 rfl rfl hS<|Tk 2 rfl (λ_ _=>ff rfl rfl ii Om Om) hS<|Tk 3 rfl (λ_ hq=>eI rfl cC (At.cell (hq.at hons) rfl) (At.cell (hq.at hons) rfl) (At.cell (hq.at hons) rfl) (At.cell (hq.at hons) rfl)) hS<|Tk 4 rfl (λ_ hq=>cz rfl rJ rfl (hq.at hm)) hS<|Tw 5 l rfl rfl hS<|To 6 rfl (TC (vs:=[.agg #[_,_,_,_,_],l]) Ke (ng n _ L _ h8 a.sl (λc hc=>⟨(hcm c hc).1,(hcm c hc).2.1⟩) Om) rfl λao ap s U=>⟨.inl (hS.trans s),?_⟩)
 obtain⟨hm,hons,hmays,hbi,hrest,hout,hown⟩:=s.k7 hm hons hmays hbi hrest hout hown
 replace hB:=cX hB s hN0
 replace a:=s.ow a
 replace hS:=hS.trans s
 obtain rfl:=U
 refine To 7 rfl (TC (vs:=[.agg #[_,_,_,_], .agg #[_,_,_,_]]) tz (mr _ _ _) rfl λaq ar t V=>⟨.inl (hS.trans t),?_⟩)
 obtain⟨hm,hons,hmays,hbi,hrest,hout,hown⟩:=t.k7 hm hons hmays hbi hrest hout hown
 replace hB:=cX hB t hN0
 replace a:=t.ow a
 replace hS:=hS.trans t
 obtain rfl:=V
 refine To 8 rfl (TC (vs:=[.agg #[_,_,_,_], .agg #[_,_,_,_]]) qG (pC _ _ _) rfl λau av A X=>⟨.inl (hS.trans A),?_⟩)
 obtain⟨hm,hons,hmays,hbi,hrest,hout,hown⟩:=A.k7 hm hons hmays hbi hrest hout hown
 replace hB:=cX hB A hN0
 replace a:=A.ow a
 obtain rfl:=X
 refine To 9 rfl (cA rfl rfl cC rfl hrest rfl rfl λaw o Y=>⟨.inr jW,?_⟩)
 replace hm:=At.grownAt hm hrest o Dd
 replace hons:=At.grownAt hons hrest o Dd
 replace hmays:=At.grownAt hmays hrest o Dd
 replace hbi:=At.grownAt hbi hrest o Dd
 replace hout:=At.grownAt hout hrest o Dd
 replace hown:=cH.grownAt hown hrest o Dd
 replace hB:=dg hB o hN0 (λj hj=>by cases hj;exact lor)
 replace a:=cH.grownAt a hrest o Dd
 replace hrest:=Y
 refine Td<|Zr<|Zw l rfl<|Zv (db (v:=l) rfl a.sl eH)<|ZZ rfl<|cy ?_
 refine cW (σ:=(Nat)×(Value)) [10,10,37,59] (λ(k,v2)=>[(37, .int .i64 (k:Int))]) (λsg W=>match sg with|(k,v2)=>(At W bm _ 298)∧(At W bons _ 315)∧(At W bmays _ 315)∧(At W bi _ 3)∧(At W brest _ 40)∧(Below N w W)∧(cH iI 2 34 W N l _)∧(At W bout #[v2] 212)∧(cH iI 2 34 W N v2 (out++(L.take k).map (i7 i 0)))∧(fp v2 l)∧(k≤L.length)∧(True)) (λ(k,v2)=>L.length-k) ((0,v0)) ⟨rfl,trivial⟩ ⟨hm,hons,hmays,hbi,hrest,hB,a,hout,(by rw[List.take_zero,List.map_nil,acw];exact hown),S,(me _),trivial⟩ ?_
 rintro⟨k,v2⟩ ax ay ⟨hm,hons,hmays,hbi,hrest,hB,a,hout,hown,hap,hk,_⟩ az Z
 refine Zr<|Zv (dq rfl rfl)<|ct<|Zq<|ZQ rfl (λaa=> ?_) λaa=> ?_
 refine cx<|Zq<|cy ?_
 have hck:=hcm (L.getD k ⟨0,0⟩) (dF (by omega))
 obtain⟨hck1,hck2,_,_⟩:=hck
 have hle256:=gm h8
 have hck3:(L.getD k ⟨0,0⟩).v≤(L.getD k ⟨0,0⟩).m:=by rw[←hck2];exact acX
 refine Zr<|Zv (dp (v:=l) rfl a.sl rfl eH Om (by omega))<|Zv (io rfl dh (dr.cell a.sl gx ⟨0,0⟩ Om (by omega) 0 rfl) (dr.cell a.sl gx ⟨0,0⟩ Om (by omega) 1 rfl))<|Zy (cM gV rfl λC aA D E d=> ?_)
 have F:N≤C:=D▸(go hN0 (Below.size hB))
 have G:=acm (b:=C) a (aaR D.symm)
 have H:=acm (b:=C) hown (aaR D.symm)
 obtain⟨hm,hons,hmays,hbi,hrest⟩:=E.k5 hm hons hmays hbi hrest
 replace hB:=cX hB E hN0
 obtain⟨a,hout,hown⟩:=E.k3 a hout hown
 refine Zy (cA rfl rfl dh rfl d rfl rfl λaB e ab=> ?_)
 replace hm:=At.grownAt hm d e Dd
 replace hons:=At.grownAt hons d e Dd
 replace hmays:=At.grownAt hmays d e Dd
 replace hbi:=At.grownAt hbi d e Dd
 replace hrest:=At.grownAt hrest d e Dd
 replace hB:=dg hB e hN0 (λj hj=>by cases hj;exact F)
 replace a:=ab3 a G e
 replace hout:=At.grownAt hout d e Dd
 replace hown:=ab3 hown H e
 replace d:=ab
 refine ct<|Zd dA λac I=> ?_
 obtain⟨hm,hons,hmays,hbi,hrest⟩:=I.k5 hm hons hmays hbi hrest
 replace hB:=cX hB I hN0
 obtain⟨a,hout,hown,d⟩:=I.k4 a hout hown d
 have hS:=dA.refl ac
 refine Tf 0 rfl rfl ey hS<|Tk 1 rfl (λ_ hq=>cD (v:= .int .u8 _) rfl dN (At.cell (hq.at d) rfl)) hS<|Tk 2 rfl (λ_ hq=>cD (v:= .int .i64 _) rfl cR (At.cell (hq.at hbi) rfl)) hS<|Tk 3 rfl (λ_ _=>jK (m:=1) rfl rfl Om (by simp only[IntKind.bits];omega) ux) hS<|Tk 4 rfl (λ_ _=>Bk (n:=_) rfl rfl rfl (by show (L.getD k ⟨0,0⟩).m<256;omega) ux) hS<|Tf 5 rfl rfl ey hS<|To 6 rfl (de (v:= .int .u8 _) rfl rfl dN rfl d fF λaC g ad=>⟨.inr jW,?_⟩)
 replace hm:=At.grownAt hm d g Dd
 replace hons:=At.grownAt hons d g Dd
 replace hmays:=At.grownAt hmays d g Dd
 replace hbi:=At.grownAt hbi d g Dd
 replace hrest:=At.grownAt hrest d g Dd
 replace hB:=dg hB g hN0 (λj hj=>by cases hj;exact F)
 replace a:=ab3 a G g
 replace hout:=At.grownAt hout d g Dd
 replace hown:=ab3 hown H g
 replace d:=ad
 replace d:At _ _ #[_,_] _:=d
 refine Td<|Zd dA λae J=> ?_
 obtain⟨hm,hons,hmays,hbi,hrest⟩:=J.k5 hm hons hmays hbi hrest
 replace hB:=cX hB J hN0
 obtain⟨a,hout,hown,d⟩:=J.k4 a hout hown d
 have hS:=dA.refl ae
 refine Tf 0 rfl rfl fO hS<|Tk 1 rfl (λ_ hq=>cD (v:= .int .u8 _) rfl dN (At.cell (hq.at d) rfl)) hS<|Ti 2 rfl rfl hS<|Tk 3 rfl (λ_ _=>iP (m:=0) rfl Tryz.underlying3 Tryz.underlying5 Dd) hS<|Tk 4 rfl (λ_ hq=>cD (v:= .int .i64 _) rfl cR (At.cell (hq.at hbi) rfl)) hS<|Tk 5 rfl (λ_ _=>jK (m:=0) rfl rfl Om (by simp only[IntKind.bits];omega) (by rw[acV];decide)) hS<|Tk 6 rfl (λ_ _=>Bk (n:=_) rfl rfl rfl (by show (L.getD k ⟨0,0⟩).v<256;omega) (by rw[acV];decide)) hS<|Tf 7 rfl rfl fO hS<|To 8 rfl (de (v:= .int .u8 _) rfl rfl dN rfl d fF λaD h af=>⟨.inr jW,?_⟩)
 replace hm:=At.grownAt hm d h Dd
 replace hons:=At.grownAt hons d h Dd
 replace hmays:=At.grownAt hmays d h Dd
 replace hbi:=At.grownAt hbi d h Dd
 replace hrest:=At.grownAt hrest d h Dd
 replace hB:=dg hB h hN0 (λj hj=>by cases hj;exact F)
 replace a:=ab3 a G h
 replace hout:=At.grownAt hout d h Dd
 replace hown:=ab3 hown H h
 replace d:=af
 replace d:At _ _ #[_,_] _:=d
 refine Td<|cI<|ZL v2 rfl sv hout rfl<|Zv (cz rfl dh rfl d)<|Zy (ez (u:= .agg #[_,_]) rfl eH jL rfl Dd Dd λag aE aF K ah=> ?_)
 obtain⟨hm,hons,hmays,hbi,hrest⟩:=K.k5 hm hons hmays hbi hrest
 replace hB:=cX hB K hN0
 obtain⟨a,hout,hown⟩:=K.k3 a hout hown
 refine Zy (jh (v:=v2) (v2:= .slice (some ⟨ag,0,none⟩) 1 1) rfl rfl eH jL Dd hown (eJ ah rfl) rfl (m3 hB) AJ AJ λO aG p r ai=> ?_)
 have aj:=fp.app hap ai a
 replace r:=cH.snoc (enc:=iI) (x:=⟨_,_⟩) rfl rfl rfl rfl r
 replace hm:=At.grownOw hm hown p Dd
 replace hons:=At.grownOw hons hown p Dd
 replace hmays:=At.grownOw hmays hown p Dd
 replace hbi:=At.grownOw hbi hown p Dd
 replace hrest:=At.grownOw hrest hown p Dd
 replace hB:=dg hB p hN0 (λj hj=>(cH.lt hown j hj))
 replace a:=cH.grownAp a hap p
 replace hout:=At.grownOw hout hown p Dd
 refine Zy (de (v:=O) rfl rfl sv (dr.one r.sl) hout fF λaH q ak=> ?_)
 replace hm:=At.grownAt hm hout q Dd
 replace hons:=At.grownAt hons hout q Dd
 replace hmays:=At.grownAt hmays hout q Dd
 replace hbi:=At.grownAt hbi hout q Dd
 replace hrest:=At.grownAt hrest hout q Dd
 replace hB:=dg hB q hN0 (λj hj=>by cases hj;exact loo)
 replace a:=cH.grownAt a hout q Dd
 replace r:=cH.grownAt r hout q Dd
 replace hout:=ak
 replace hout:At _ _ #[_] _:=hout
 refine ct<|ZT rfl rfl rfl ?_
 exact Z _ _ ((k+1,O)) Za ⟨rfl,trivial⟩ ⟨hm,hons,hmays,hbi,hrest,hB,a,hout,(by rw[GR Om,←ab7];exact r),aj,Om,trivial⟩ (by show L.length-(k+1)<L.length-k;omega)
 refine cT ?_
 repeat (first|refine eS ?_|refine eA ?_)
 refine eB ?_
 repeat (first|refine dZ ?_|refine dI ?_)
 refine ob ?_
 have hkL:k=L.length:=by omega
 rw[hkL,aaY]at hown
 exact⟨hB,hm,hons,hmays,hbi,hrest,_,hout,hown⟩
theorem CT1 (n f i on may N bm bons bmays bi brest bout rest:Nat) (v0:Value) (out:List Cb) (w:World) (hN0:N≤w.heap.size) (hih:∀(on may i:Nat) (w:World),n≤8→oI n on may i→n+1-i≤f→f≤9→Fn Tryz.prog 235 #[.agg #[.int .i64 (n:Int),wv (fk n) 0,wv (fk n) 1,wv (fk n) 2,wv (fk n) 3],el on,el may, .int .i64 (i:Int)] w λv w'=>cH iI 2 34 w' w.heap.size v (eL n f on may i)) (h8:n≤8) (hg:oI n on may i) (hi:i<n) (hf:n+1-(i+1)≤f) (hf9:f≤8) (hm:At w bm #[.int .i64 (n:Int),wv (fk n) 0,wv (fk n) 1,wv (fk n) 2,wv (fk n) 3] 298) (hons:At w bons (oo (cS on i false) (cS on i true)) 315) (hmays:At w bmays (oo (cS may i false) (cS may i true)) 315) (hbi:At w bi #[.int .i64 (i:Int)] 3) (hrest:At w brest #[wv rest 0,wv rest 1,wv rest 2,wv rest 3] 40) (hout:At w bout #[v0] 212) (hown:cH iI 2 34 w N v0 out) (hlen:out.length≤20000) (lor:N≤brest) (loo:N≤bout):
    lk Tryz.prog 264 #[.int .i64 1, .pointer (some ⟨bm,0,none⟩), .pointer (some ⟨bons,0,none⟩), .pointer (some ⟨bmays,0,none⟩), .pointer (some ⟨bi,0,none⟩), .pointer (some ⟨brest,0,none⟩), .pointer (some ⟨bout,0,none⟩)] w λv w'=>Below N w w'∧At w' bm #[.int .i64 (n:Int),wv (fk n) 0,wv (fk n) 1,wv (fk n) 2,wv (fk n) 3] 298∧At w' bons (oo (cS on i false) (cS on i true)) 315∧At w' bmays (oo (cS may i false) (cS may i true)) 315∧At w' bi #[.int .i64 (i:Int)] 3∧At w' brest #[wv (rest ||| andNot (cS on i true) (ma (eL n f (andNot (cS on i true) (cS may i false)) (cS may i true) (i+1)) n (eL n f (andNot (cS on i true) (cS may i false)) (cS may i true) (i+1)).length)) 0,wv (rest ||| andNot (cS on i true) (ma (eL n f (andNot (cS on i true) (cS may i false)) (cS may i true) (i+1)) n (eL n f (andNot (cS on i true) (cS may i false)) (cS may i true) (i+1)).length)) 1,wv (rest ||| andNot (cS on i true) (ma (eL n f (andNot (cS on i true) (cS may i false)) (cS may i true) (i+1)) n (eL n f (andNot (cS on i true) (cS may i false)) (cS may i true) (i+1)).length)) 2,wv (rest ||| andNot (cS on i true) (ma (eL n f (andNot (cS on i true) (cS may i false)) (cS may i true) (i+1)) n (eL n f (andNot (cS on i true) (cS may i false)) (cS may i true) (i+1)).length)) 3] 40∧∃v1,At w' bout #[v1] 212∧cH iI 2 34 w' N v1 (out++(eL n f (andNot (cS on i true) (cS may i false)) (cS may i true) (i+1)).map (i7 i 1)):=by
 refine dL (n:=60) (N:=N) Tryz.func264 rfl rfl rfl λhB=> ?_
 have hi8:i<8:=by omega
 refine Zd dA λW3 M=> ?_
 obtain⟨hm,hons,hmays,hbi,hrest,hout,hown⟩:=M.k7 hm hons hmays hbi hrest hout hown
 replace hB:=cX hB M hN0
 have hS:=dA.refl W3
 refine Tk 0 rfl (λ_ hq=>cz rfl rJ rfl (hq.at hm)) hS<|Ti 1 rfl rfl hS<|Tk 2 rfl (λ_ _=>ff rfl rfl ii Om Om) hS<|Tk 3 rfl (λ_ hq=>eI rfl cC (At.cell (hq.at hons) rfl) (At.cell (hq.at hons) rfl) (At.cell (hq.at hons) rfl) (At.cell (hq.at hons) rfl)) hS<|Ti 4 rfl rfl hS<|Tk 5 rfl (λ_ _=>jY rfl rfl Om Om) hS<|Tk 6 rfl (λ_ _=>ff rfl rfl ii Om Om) hS<|Tk 7 rfl (λ_ hq=>eI rfl cC (At.cell (hq.at hmays) rfl) (At.cell (hq.at hmays) rfl) (At.cell (hq.at hmays) rfl) (At.cell (hq.at hmays) rfl)) hS<|Ti 9 rfl rfl hS<|Tk 10 rfl (λ_ _=>ff rfl rfl ii Om Om) hS<|Tk 11 rfl (λ_ hq=>eI rfl cC (At.cell (hq.at hmays) rfl) (At.cell (hq.at hmays) rfl) (At.cell (hq.at hmays) rfl) (At.cell (hq.at hmays) rfl)) hS<|Tk 12 rfl (λ_ hq=>cD (v:= .int .i64 _) rfl cR (At.cell (hq.at hbi) rfl)) hS<|Tk 13 rfl (λ_ _=>d5 rfl rfl Om Om) hS<|To 8 rfl (TC (vs:=[.agg #[_,_,_,_], .agg #[_,_,_,_]]) tz (mr _ _ _) rfl λal W5 y P=>⟨.inl (hS.trans y),?_⟩)
 obtain⟨hm,hons,hmays,hbi,hrest,hout,hown⟩:=y.k7 hm hons hmays hbi hrest hout hown
 replace hB:=cX hB y hN0
 replace hS:=hS.trans y
 obtain rfl:=P
 refine To 14 rfl (TC (vs:=[.agg #[_,_,_,_,_], .agg #[_,_,_,_], .agg #[_,_,_,_], .int .i64 _]) yG (hih _ _ (i+1) _ h8 (hg.side h8 hi true) hf (go hf9 Dd)) rfl λl W9 z a=>⟨.inl (hS.trans z),?_⟩)
 have Q:=adi hown
 have R:=(go hN0 (Below.size hB))
 obtain⟨hm,hons,hmays,hbi,hrest,hout,hown⟩:=z.k7 hm hons hmays hbi hrest hout hown
 replace hB:=cX hB z hN0
 replace hS:=hS.trans z
 have S:=fp.new Q a
 replace a:=cH.mono a R
 have hcm:jN n (cS may i true) (i+1) (eL n f (andNot (cS on i true) (cS may i false)) (cS may i true) (i+1)):=(lW h8 f _ _ _ (hg.side h8 hi true) hf).1
 have hcl:=jr (n:=n) f (andNot (cS on i true) (cS may i false)) (cS may i true) (i+1)
 have h3f:3^f≤3^8:=aaV (by decide) hf9
 try simp only[Bool.not_false,Bool.not_true]at a
 generalize hL:eL n f (andNot (cS on i true) (cS may i false)) (cS may i true) (i+1)=L at*
 refine Tw 15 l rfl rfl hS<|Td<|Zd dA λT B=> ?_
 obtain⟨hm,hons,hmays,hbi,hrest,hout,hown⟩:=B.k7 hm hons hmays hbi hrest hout hown
 replace hB:=cX hB B hN0
 replace a:=B.ow a
 have hS:=dA.refl T
 refine Tk 0 rfl (λ_ hq=>cz rfl cC rfl (hq.at hrest)) hS<|Ti 1 rfl rfl hS<|Tk 2 rfl (λ_ _=>ff rfl rfl ii Om Om) hS<|Tk 3 rfl (λ_ hq=>eI rfl cC (At.cell (hq.at hons) rfl) (At.cell (hq.at hons) rfl) (At.cell (hq.at hons) rfl) (At.cell (hq.at hons) rfl)) hS<|Tk 4 rfl (λ_ hq=>cz rfl rJ rfl (hq.at hm)) hS<|Tw 5 l rfl rfl hS<|To 6 rfl (TC (vs:=[.agg #[_,_,_,_,_],l]) Ke (ng n _ L _ h8 a.sl (λc hc=>⟨(hcm c hc).1,(hcm c hc).2.1⟩) Om) rfl λao ap s U=>⟨.inl (hS.trans s),?_⟩)
 obtain⟨hm,hons,hmays,hbi,hrest,hout,hown⟩:=s.k7 hm hons hmays hbi hrest hout hown
 replace hB:=cX hB s hN0
 replace a:=s.ow a
 replace hS:=hS.trans s
 obtain rfl:=U
 refine To 7 rfl (TC (vs:=[.agg #[_,_,_,_], .agg #[_,_,_,_]]) tz (mr _ _ _) rfl λaq ar t V=>⟨.inl (hS.trans t),?_⟩)
 obtain⟨hm,hons,hmays,hbi,hrest,hout,hown⟩:=t.k7 hm hons hmays hbi hrest hout hown
 replace hB:=cX hB t hN0
 replace a:=t.ow a
 replace hS:=hS.trans t
 obtain rfl:=V
 refine To 8 rfl (TC (vs:=[.agg #[_,_,_,_], .agg #[_,_,_,_]]) qG (pC _ _ _) rfl λau av A X=>⟨.inl (hS.trans A),?_⟩)
 obtain⟨hm,hons,hmays,hbi,hrest,hout,hown⟩:=A.k7 hm hons hmays hbi hrest hout hown
 replace hB:=cX hB A hN0
 replace a:=A.ow a
 obtain rfl:=X
 refine To 9 rfl (cA rfl rfl cC rfl hrest rfl rfl λaw o Y=>⟨.inr jW,?_⟩)
 replace hm:=At.grownAt hm hrest o Dd
 replace hons:=At.grownAt hons hrest o Dd
 replace hmays:=At.grownAt hmays hrest o Dd
 replace hbi:=At.grownAt hbi hrest o Dd
 replace hout:=At.grownAt hout hrest o Dd
 replace hown:=cH.grownAt hown hrest o Dd
 replace hB:=dg hB o hN0 (λj hj=>by cases hj;exact lor)
 replace a:=cH.grownAt a hrest o Dd
 replace hrest:=Y
 refine Td<|Zr<|Zw l rfl<|Zv (db (v:=l) rfl a.sl eH)<|ZZ rfl<|cy ?_
 refine cW (σ:=(Nat)×(Value)) [10,10,37,59] (λ(k,v2)=>[(37, .int .i64 (k:Int))]) (λsg W=>match sg with|(k,v2)=>(At W bm _ 298)∧(At W bons _ 315)∧(At W bmays _ 315)∧(At W bi _ 3)∧(At W brest _ 40)∧(Below N w W)∧(cH iI 2 34 W N l _)∧(At W bout #[v2] 212)∧(cH iI 2 34 W N v2 (out++(L.take k).map (i7 i 1)))∧(fp v2 l)∧(k≤L.length)∧(True)) (λ(k,v2)=>L.length-k) ((0,v0)) ⟨rfl,trivial⟩ ⟨hm,hons,hmays,hbi,hrest,hB,a,hout,(by rw[List.take_zero,List.map_nil,acw];exact hown),S,(me _),trivial⟩ ?_
 rintro⟨k,v2⟩ ax ay ⟨hm,hons,hmays,hbi,hrest,hB,a,hout,hown,hap,hk,_⟩ az Z
 refine Zr<|Zv (dq rfl rfl)<|ct<|Zq<|ZQ rfl (λaa=> ?_) λaa=> ?_
 refine cx<|Zq<|cy ?_
 have hck:=hcm (L.getD k ⟨0,0⟩) (dF (by omega))
 obtain⟨hck1,hck2,_,_⟩:=hck
 have hle256:=gm h8
 have hck3:(L.getD k ⟨0,0⟩).v≤(L.getD k ⟨0,0⟩).m:=by rw[←hck2];exact acX
 refine Zr<|Zv (dp (v:=l) rfl a.sl rfl eH Om (by omega))<|Zv (io rfl dh (dr.cell a.sl gx ⟨0,0⟩ Om (by omega) 0 rfl) (dr.cell a.sl gx ⟨0,0⟩ Om (by omega) 1 rfl))<|Zy (cM gV rfl λC aA D E d=> ?_)
 have F:N≤C:=D▸(go hN0 (Below.size hB))
 have G:=acm (b:=C) a (aaR D.symm)
 have H:=acm (b:=C) hown (aaR D.symm)
 obtain⟨hm,hons,hmays,hbi,hrest⟩:=E.k5 hm hons hmays hbi hrest
 replace hB:=cX hB E hN0
 obtain⟨a,hout,hown⟩:=E.k3 a hout hown
 refine Zy (cA rfl rfl dh rfl d rfl rfl λaB e ab=> ?_)
 replace hm:=At.grownAt hm d e Dd
 replace hons:=At.grownAt hons d e Dd
 replace hmays:=At.grownAt hmays d e Dd
 replace hbi:=At.grownAt hbi d e Dd
 replace hrest:=At.grownAt hrest d e Dd
 replace hB:=dg hB e hN0 (λj hj=>by cases hj;exact F)
 replace a:=ab3 a G e
 replace hout:=At.grownAt hout d e Dd
 replace hown:=ab3 hown H e
 replace d:=ab
 refine ct<|Zd dA λac I=> ?_
 obtain⟨hm,hons,hmays,hbi,hrest⟩:=I.k5 hm hons hmays hbi hrest
 replace hB:=cX hB I hN0
 obtain⟨a,hout,hown,d⟩:=I.k4 a hout hown d
 have hS:=dA.refl ac
 refine Tf 0 rfl rfl ey hS<|Tk 1 rfl (λ_ hq=>cD (v:= .int .u8 _) rfl dN (At.cell (hq.at d) rfl)) hS<|Tk 2 rfl (λ_ hq=>cD (v:= .int .i64 _) rfl cR (At.cell (hq.at hbi) rfl)) hS<|Tk 3 rfl (λ_ _=>jK (m:=1) rfl rfl Om (by simp only[IntKind.bits];omega) ux) hS<|Tk 4 rfl (λ_ _=>Bk (n:=_) rfl rfl rfl (by show (L.getD k ⟨0,0⟩).m<256;omega) ux) hS<|Tf 5 rfl rfl ey hS<|To 6 rfl (de (v:= .int .u8 _) rfl rfl dN rfl d fF λaC g ad=>⟨.inr jW,?_⟩)
 replace hm:=At.grownAt hm d g Dd
 replace hons:=At.grownAt hons d g Dd
 replace hmays:=At.grownAt hmays d g Dd
 replace hbi:=At.grownAt hbi d g Dd
 replace hrest:=At.grownAt hrest d g Dd
 replace hB:=dg hB g hN0 (λj hj=>by cases hj;exact F)
 replace a:=ab3 a G g
 replace hout:=At.grownAt hout d g Dd
 replace hown:=ab3 hown H g
 replace d:=ad
 replace d:At _ _ #[_,_] _:=d
 refine Td<|Zd dA λae J=> ?_
 obtain⟨hm,hons,hmays,hbi,hrest⟩:=J.k5 hm hons hmays hbi hrest
 replace hB:=cX hB J hN0
 obtain⟨a,hout,hown,d⟩:=J.k4 a hout hown d
 have hS:=dA.refl ae
 refine Tf 0 rfl rfl fO hS<|Tk 1 rfl (λ_ hq=>cD (v:= .int .u8 _) rfl dN (At.cell (hq.at d) rfl)) hS<|Ti 2 rfl rfl hS<|Tk 3 rfl (λ_ _=>iP (m:=1) rfl Tryz.underlying3 Tryz.underlying5 Dd) hS<|Tk 4 rfl (λ_ hq=>cD (v:= .int .i64 _) rfl cR (At.cell (hq.at hbi) rfl)) hS<|Tk 5 rfl (λ_ _=>jK (m:=1) rfl rfl Om (by simp only[IntKind.bits];omega) ux) hS<|Tk 6 rfl (λ_ _=>Bk (n:=_) rfl rfl rfl (by show (L.getD k ⟨0,0⟩).v<256;omega) ux) hS<|Tf 7 rfl rfl fO hS<|To 8 rfl (de (v:= .int .u8 _) rfl rfl dN rfl d fF λaD h af=>⟨.inr jW,?_⟩)
 replace hm:=At.grownAt hm d h Dd
 replace hons:=At.grownAt hons d h Dd
 replace hmays:=At.grownAt hmays d h Dd
 replace hbi:=At.grownAt hbi d h Dd
 replace hrest:=At.grownAt hrest d h Dd
 replace hB:=dg hB h hN0 (λj hj=>by cases hj;exact F)
 replace a:=ab3 a G h
 replace hout:=At.grownAt hout d h Dd
 replace hown:=ab3 hown H h
 replace d:=af
 replace d:At _ _ #[_,_] _:=d
 refine Td<|cI<|ZL v2 rfl sv hout rfl<|Zv (cz rfl dh rfl d)<|Zy (ez (u:= .agg #[_,_]) rfl eH jL rfl Dd Dd λag aE aF K ah=> ?_)
 obtain⟨hm,hons,hmays,hbi,hrest⟩:=K.k5 hm hons hmays hbi hrest
 replace hB:=cX hB K hN0
 obtain⟨a,hout,hown⟩:=K.k3 a hout hown
 refine Zy (jh (v:=v2) (v2:= .slice (some ⟨ag,0,none⟩) 1 1) rfl rfl eH jL Dd hown (eJ ah rfl) rfl (m3 hB) AJ AJ λO aG p r ai=> ?_)
 have aj:=fp.app hap ai a
 replace r:=cH.snoc (enc:=iI) (x:=⟨_,_⟩) rfl rfl rfl rfl r
 replace hm:=At.grownOw hm hown p Dd
 replace hons:=At.grownOw hons hown p Dd
 replace hmays:=At.grownOw hmays hown p Dd
 replace hbi:=At.grownOw hbi hown p Dd
 replace hrest:=At.grownOw hrest hown p Dd
 replace hB:=dg hB p hN0 (λj hj=>(cH.lt hown j hj))
 replace a:=cH.grownAp a hap p
 replace hout:=At.grownOw hout hown p Dd
 refine Zy (de (v:=O) rfl rfl sv (dr.one r.sl) hout fF λaH q ak=> ?_)
 replace hm:=At.grownAt hm hout q Dd
 replace hons:=At.grownAt hons hout q Dd
 replace hmays:=At.grownAt hmays hout q Dd
 replace hbi:=At.grownAt hbi hout q Dd
 replace hrest:=At.grownAt hrest hout q Dd
 replace hB:=dg hB q hN0 (λj hj=>by cases hj;exact loo)
 replace a:=cH.grownAt a hout q Dd
 replace r:=cH.grownAt r hout q Dd
 replace hout:=ak
 replace hout:At _ _ #[_] _:=hout
 refine ct<|ZT rfl rfl rfl ?_
 exact Z _ _ ((k+1,O)) Za ⟨rfl,trivial⟩ ⟨hm,hons,hmays,hbi,hrest,hB,a,hout,(by rw[GR Om,←ab7];exact r),aj,Om,trivial⟩ (by show L.length-(k+1)<L.length-k;omega)
 refine cT ?_
 repeat (first|refine eS ?_|refine eA ?_)
 refine eB ?_
 repeat (first|refine dZ ?_|refine dI ?_)
 refine ob ?_
 have hkL:k=L.length:=by omega
 rw[hkL,aaY]at hown
 exact⟨hB,hm,hons,hmays,hbi,hrest,_,hout,hown⟩
theorem Pm (n f i on may:Nat) (w:World) (hih:∀(on may i:Nat) (w:World),n≤8→oI n on may i→n+1-i≤f→f≤9→Fn Tryz.prog 235 #[.agg #[.int .i64 (n:Int),wv (fk n) 0,wv (fk n) 1,wv (fk n) 2,wv (fk n) 3],el on,el may, .int .i64 (i:Int)] w λv w'=>cH iI 2 34 w' w.heap.size v (eL n f on may i)) (h8:n≤8) (hg:oI n on may i) (hf:n+1-i≤f+1) (hf9:f+1≤9):
    Fn Tryz.prog 235 #[.agg #[.int .i64 (n:Int),wv (fk n) 0,wv (fk n) 1,wv (fk n) 2,wv (fk n) 3],el on,el may, .int .i64 (i:Int)] w λv w'=>cH iI 2 34 w' w.heap.size v (eL n (f+1) on may i):=by
 refine cK (n:=61) Tryz.func235 rfl rfl rfl λhB=> ?_
 refine Zr<|Zy (du (c:= #[_,_,_,_,_]) rfl rfl λr W3 aJ U e=> ?_)
 replace hB:=Ze hB U
 refine Zy (du (c:= #[_,_,_,_]) rfl rfl λV W6 aK X l=> ?_)
 obtain⟨hB,e⟩:=X.k2 hB e
 refine Zy (du (c:= #[_,_,_,_]) rfl rfl λY W9 Z aa m=> ?_)
 have aL:=Zn Z l.lt
 obtain⟨hB,e,l⟩:=aa.k3 hB e l
 refine Zy (du (c:= #[_]) rfl rfl λt aM aN ab j=> ?_)
 obtain⟨hB,e,l,m⟩:=ab.k4 hB e l m
 refine Zw (.slice none 0 0) rfl<|ct<|Zq<|cy<|Zr<|Zv (cz rfl cC rfl l)<|Zv (v:=el 0) (gq)<|Zv (uW rfl rfl)<|Zb rfl<|ct<|ZQ rfl (λE=> ?_) λE=> ?_
 refine Zr<|Zw (.slice none 0 0) rfl<|ct<|Zt<|cZ (v:= .slice none 0 0) rfl ⟨hB,?_⟩
 rw[eL,if_pos (yJ E)]
 exact cH.nil
 refine Zr<|Zv (cz rfl cC rfl m)<|Zf rfl IG<|Zv (eI rfl cC (At.cell e rfl) (At.cell e rfl) (At.cell e rfl) (At.cell e rfl))<|Zv (uW rfl rfl)<|Zb rfl<|ct<|ZQ rfl (λH=> ?_) λH=> ?_
 refine Zr<|Zv (jR)<|Zy (ez (u:= .agg #[_,_]) rfl eH jL rfl Dd Dd λO aO ac ad ae=> ?_)
 have af:=ZO ac hB
 replace hB:=Ze hB ad
 refine Zw (.slice (some ⟨O,0,none⟩) 1 1) rfl<|ct<|Zt<|cZ (v:= .slice (some ⟨O,0,none⟩) 1 1) rfl ⟨hB,?_⟩
 rw[eL,if_neg (λh=>E (uV h)),if_pos (yJ H)]
 exact jf (enc:=iI) (a:=⟨0,0⟩) ae rfl rfl af
 refine cx ?_
 have h0:¬Bc on 0=true:=λh=>E (uV h)
 have h1:¬Bc may (fk n)=true:=λh=>H (uV h)
 have hi:i<n:=QX h8 hg h0 h1
 have hf1:n+1-(i+1)≤f:=by omega
 have hi8:i<8:=by omega
 refine Zr<|Zy (cM yR rfl λo aP ag ah g=> ?_)
 have ai:=ZO ag hB
 obtain⟨hB,e,l,m,j⟩:=ah.k5 hB e l m j
 refine Zy (cM yR rfl λx aQ P aj d=> ?_)
 have ak:=ZO P hB
 have Q:=Zn P g.lt
 obtain⟨hB,e,l,m,j,g⟩:=aj.k6 hB e l m j g
 refine ct<|Zq ?_
 replace g:=wQ (s:=on) (i:=i) g
 replace d:=wQ (s:=may) (i:=i) d
 refine Zr<|ZZ rfl<|cy ?_
 refine cW (σ:=(Nat)) [11,11,26,43] (λk=>[(26, .int .i64 (k:Int))]) (λk W=>(Below w.heap.size w W)∧(At W r _ 298)∧(At W V _ 40)∧(At W Y _ 40)∧(At W t _ 3)∧(At W o (pj on i k) 315)∧(At W x (pj may i k) 315)∧(k≤2)∧(True)) (λk=>2-k) (0) ⟨rfl,trivial⟩ ⟨hB,e,l,m,j,g,d,(me _),trivial⟩ ?_
 rintro k aR aS ⟨hB,e,l,m,j,g,d,hk,_⟩ aT al
 refine Zr<|Zv (dq rfl rfl)<|ct<|Zq<|ZQ rfl (λao=> ?_) λao=> ?_
 refine cx<|Zq<|cy<|Zr<|Zi rfl<|ZZ rfl ?_
 refine eR (λa b=>a.grownBy b (some o)) fx (λap aq=> ?_)
 obtain⟨hB,e,l,m,j,g,d⟩:=aq.k7 hB e l m j g d
 have F:=g
 have hS:=World.grownBy.refl ap (some o)
 refine Ti 0 rfl rfl hS<|Ti 1 rfl rfl hS<|Tk 2 rfl (λ_ hq=>cz rfl cC rfl (At.grownAt l F hq Dd)) hS<|Tk 3 rfl (λ_ hq=>cD (v:= .int .i64 _) rfl cR (At.cell (At.grownAt j F hq Dd) rfl)) hS<|Ti 4 rfl rfl hS<|Tk 5 rfl (λ_ _=>dO rfl rfl) hS<|Tk 7 rfl (λ_ hq=>cz rfl cC rfl (At.grownAt m F hq Dd)) hS<|Tk 8 rfl (λ_ hq=>cD (v:= .int .i64 _) rfl cR (At.cell (At.grownAt j F hq Dd) rfl)) hS<|Ti 9 rfl rfl hS<|Tk 10 rfl (λ_ _=>dO rfl rfl) hS<|To 6 rfl (TC (vs:=[.agg #[_,_,_,_], .int .i64 _, .bool _]) J7 (xA _ _ _ _) rfl λaU aV I ar=>⟨.inl (cB hS (dA.grown I (some o))),?_⟩)
 obtain⟨hB,e,l,m,j,g,d⟩:=I.k7 hB e l m j g d
 replace hS:=cB hS (dA.grown I (some o))
 obtain rfl:=ar
 rw[if_pos (show 0≤(i:Int)∧(i:Int)<8 by omega)]
 simp only[my]
 refine Tk 12 rfl (λ_ _=>ff rfl rfl ii Om Om) hS<|To 11 rfl (TC (vs:=[.agg #[_,_,_,_], .int .i64 _, .bool _]) J7 (xA _ _ _ _) rfl λaW aX J au=>⟨.inl (cB hS (dA.grown J (some o))),?_⟩)
 obtain⟨hB,e,l,m,j,g,d⟩:=J.k7 hB e l m j g d
 replace hS:=cB hS (dA.grown J (some o))
 obtain rfl:=au
 rw[if_pos (show 0≤(i:Int)∧(i:Int)<8 by omega)]
 simp only[my]
 refine To 13 rfl (iT rfl rfl cC rfl g (by rw[sC];omega) rfl λaY B av=>⟨.inl (cB hS B),?_⟩)
 replace hS:=cB hS B
 replace hB:=Zg hB B ai
 replace e:=At.grownAt e g B Dd
 replace l:=At.grownAt l g B Dd
 replace m:=At.grownAt m g B Dd
 replace j:=At.grownAt j g B Dd
 replace d:=At.grownNe d (Ne.symm Q) B
 replace g:=av
 try simp only[my]at g
 rw[ue (by omega)]at g
 refine Tk 14 rfl (λ_ _=>ff rfl rfl ii Om Om) hS<|To 15 rfl (iT rfl rfl cC rfl d (by rw[sC];omega) rfl λaZ D aw=>⟨.inr jW,?_⟩)
 replace hB:=Zg hB D ak
 replace e:=At.grownAt e d D Dd
 replace l:=At.grownAt l d D Dd
 replace m:=At.grownAt m d D Dd
 replace j:=At.grownAt j d D Dd
 replace g:=At.grownNe g Q D
 replace d:=aw
 try simp only[my]at d
 rw[ue (by omega)]at d
 refine Td<|ZT rfl rfl rfl ?_
 exact al _ _ (k+1) Za ⟨rfl,trivial⟩ ⟨hB,e,l,m,j,(by exact g),(by exact d),Om,trivial⟩ Zo
 refine cT ?_
 obtain rfl:k=2:=by omega
 replace g:At _ _ (oo (cS on i false) (cS on i true)) _:=g
 replace d:At _ _ (oo (cS may i false) (cS may i true)) _:=d
 refine Zr<|Zy (cM RW rfl λC a0 ax ay y=> ?_)
 have R:=ZO ax hB
 obtain⟨hB,e,j,g,d⟩:=ay.k5 hB e j g d
 refine ct<|Zr<|Zy (cM ep rfl λz az aA aB A=> ?_)
 have S:=ZO aA hB
 obtain⟨hB,e,j,g,d,y⟩:=aB.k6 hB e j g d y
 replace A:At az z #[wv 0 0,wv 0 1,wv 0 2,wv 0 3] 40:=A
 refine ct<|Zr<|Zv (eU (vs:= #[.pointer (some ⟨r,0,none⟩), .pointer (some ⟨o,0,none⟩), .pointer (some ⟨x,0,none⟩), .pointer (some ⟨t,0,none⟩), .pointer (some ⟨z,0,none⟩), .pointer (some ⟨C,0,none⟩)]) Bi)<|Zw (.func (.func 264) #[] #[.pointer (some ⟨r,0,none⟩), .pointer (some ⟨o,0,none⟩), .pointer (some ⟨x,0,none⟩), .pointer (some ⟨t,0,none⟩), .pointer (some ⟨z,0,none⟩), .pointer (some ⟨C,0,none⟩)]) rfl<|ct ?_
 have hca:=(lW h8 f _ _ _ (hg.side h8 hi false) hf1)
 have hcb:=(lW h8 f _ _ _ (hg.side h8 hi true) hf1)
 have hgr:=hg.rest h8 hi hca.1 hcb.1 hca.2 hcb.2
 have hla:=jr (n:=n) f (andNot (cS on i false) (cS may i true)) (cS may i false) (i+1)
 have hlb:=jr (n:=n) f (andNot (cS on i true) (cS may i false)) (cS may i true) (i+1)
 have h3f:3^f≤3^8:=aaV (by decide) (by omega)
 refine Zr<|Zw (.func (.func 264) #[] #[.pointer (some ⟨r,0,none⟩), .pointer (some ⟨o,0,none⟩), .pointer (some ⟨x,0,none⟩), .pointer (some ⟨t,0,none⟩), .pointer (some ⟨z,0,none⟩), .pointer (some ⟨C,0,none⟩)]) rfl ?_
 refine mZ (dd:=some 46) rfl rfl rfl (iu (q:=264) (first:= #[]) (cap:= #[.pointer (some ⟨r,0,none⟩), .pointer (some ⟨o,0,none⟩), .pointer (some ⟨x,0,none⟩), .pointer (some ⟨t,0,none⟩), .pointer (some ⟨z,0,none⟩), .pointer (some ⟨C,0,none⟩)]) (vs:= #[.int .i64 0, .pointer (some ⟨r,0,none⟩), .pointer (some ⟨o,0,none⟩), .pointer (some ⟨x,0,none⟩), .pointer (some ⟨t,0,none⟩), .pointer (some ⟨z,0,none⟩), .pointer (some ⟨C,0,none⟩)]) rfl J8 Hh) (CT0 n f i on may w.heap.size _ _ _ _ _ _ 0 _ [] _ (Below.size hB) hih h8 hg hi hf1 Om e g d j A y cH.nil fF S R) (λa1 a2 aC=> ?_)
 obtain⟨hBt,e,g,d,j,A,vt0,y,hot0⟩:=aC
 replace hB:=Below.trans hB hBt
 refine ct<|Zr<|Zw (.func (.func 264) #[] #[.pointer (some ⟨r,0,none⟩), .pointer (some ⟨o,0,none⟩), .pointer (some ⟨x,0,none⟩), .pointer (some ⟨t,0,none⟩), .pointer (some ⟨z,0,none⟩), .pointer (some ⟨C,0,none⟩)]) rfl ?_
 refine mZ (dd:=some 48) rfl rfl rfl (iu (q:=264) (first:= #[]) (cap:= #[.pointer (some ⟨r,0,none⟩), .pointer (some ⟨o,0,none⟩), .pointer (some ⟨x,0,none⟩), .pointer (some ⟨t,0,none⟩), .pointer (some ⟨z,0,none⟩), .pointer (some ⟨C,0,none⟩)]) (vs:= #[.int .i64 1, .pointer (some ⟨r,0,none⟩), .pointer (some ⟨o,0,none⟩), .pointer (some ⟨x,0,none⟩), .pointer (some ⟨t,0,none⟩), .pointer (some ⟨z,0,none⟩), .pointer (some ⟨C,0,none⟩)]) rfl J8 Hh) (CT1 n f i on may w.heap.size _ _ _ _ _ _ _ _ _ _ (Below.size hB) hih h8 hg hi hf1 Om e g d j A y hot0 ix S R) (λa3 a4 aD=> ?_)
 obtain⟨hBt,e,g,d,j,A,vt1,y,hot1⟩:=aD
 replace hB:=Below.trans hB hBt
 refine ct<|Zd (λa b=>a.grownBy b vt1.ownBlock) λaE aF=> ?_
 obtain⟨hB,e,j,d,y,A,hot1⟩:=aF.k7 hB e j d y A hot1
 have p:=hot1
 have hS:=World.grownBy.refl aE vt1.ownBlock
 refine Tk 0 rfl (λ_ hq=>cD (v:=vt1) rfl sv (At.cell (At.grownOw y p hq Dd) rfl)) hS<|Tk 1 rfl (λ_ hq=>cz rfl rJ rfl (At.grownOw e p hq Dd)) hS<|Tk 2 rfl (λ_ hq=>cz rfl cC rfl (At.grownOw A p hq Dd)) hS<|Tk 3 rfl (λ_ _=>ff rfl rfl ii Om Om) hS<|Tk 4 rfl (λ_ hq=>eI rfl cC (At.cell (At.grownOw d p hq Dd) rfl) (At.cell (At.grownOw d p hq Dd) rfl) (At.cell (At.grownOw d p hq Dd) rfl) (At.cell (At.grownOw d p hq Dd) rfl)) hS<|Tk 5 rfl (λ_ _=>ff rfl rfl ii Om Om) hS<|Tk 6 rfl (λ_ hq=>eI rfl cC (At.cell (At.grownOw d p hq Dd) rfl) (At.cell (At.grownOw d p hq Dd) rfl) (At.cell (At.grownOw d p hq Dd) rfl) (At.cell (At.grownOw d p hq Dd) rfl)) hS<|Tk 8 rfl (λ_ hq=>cD (v:= .int .i64 _) rfl cR (At.cell (At.grownOw j p hq Dd) rfl)) hS<|Tk 9 rfl (λ_ _=>d5 rfl rfl Om Om) hS<|To 7 rfl (TC (vs:=[.agg #[_,_,_,_], .agg #[_,_,_,_]]) ud (pH _ _ _) rfl λa5 a6 K aG=>⟨.inl (cB hS (dA.grown K vt1.ownBlock)),?_⟩)
 obtain⟨hB,hot1⟩:=K.k2 hB hot1
 replace hS:=cB hS (dA.grown K vt1.ownBlock)
 obtain rfl:=aG
 refine To 10 rfl (TC (vs:=[.agg #[_,_,_,_,_], .agg #[_,_,_,_], .agg #[_,_,_,_], .int .i64 _]) yG (hih _ _ (i+1) _ h8 hgr hf1 (go (Nat.le_succ f) hf9)) rfl λaH a7 L G=>⟨.inl (cB hS (dA.grown L vt1.ownBlock)),?_⟩)
 have a8:=adi hot1
 have aI:=(Below.size hB)
 obtain⟨hB,hot1⟩:=L.k2 hB hot1
 replace hS:=cB hS (dA.grown L vt1.ownBlock)
 replace G:=cH.mono G aI
 try simp only[Bool.not_false,Bool.not_true]at G
 have hlc:=jr (n:=n) f (u6 n (cS on i false) (cS on i true) (eL n f (andNot (cS on i false) (cS may i true)) (cS may i false) (i+1)) (eL n f (andNot (cS on i true) (cS may i false)) (cS may i true) (i+1))) (cS may i false &&& cS may i true) (i+1)
 refine To 11 rfl (jh (v:=vt1) (v2:=aH) rfl rfl eH jL Dd hot1 G.sl (qi) (m3 hB) (by simp only[aco,An,acj,Nat.zero_or];have hlc2:=hlc;unfold u6 at hlc2;omega) (by simp only[aco,An,acj,Nat.zero_or];have hlc2:=hlc;unfold u6 at hlc2;omega) λT a9 M N ba=>⟨.inl (cB hS M),?_⟩)
 replace hS:=cB hS M
 replace N:=cH.app (enc:=iI) rfl rfl rfl rfl N
 replace hB:=ZG hB M hot1
 refine Tw 12 T rfl rfl hS<|Td<|Zt<|cZ (v:=T) rfl ⟨hB,?_⟩
 rw[eL,if_neg h0,if_neg h1]
 exact N
end
section
theorem SK:d4 Tryz.prog 298=some (.agg #[.int .i64 0, .int .u64 0, .int .u64 0, .int .u64 0, .int .u64 0]):=by kernel_rfl
theorem Lr:(Tryz.prog.info? 40).map (·.size)=some 4:=by kernel_rfl
theorem yf (h0:dm f x0=c0_0) (k0:c0_0.cells= #[c0_0]) (h1:dm f x1= .agg #[c1_0,c1_1,c1_2,c1_3]):
    (execOp (dm f) ⟨d, .build 298 #[(0,x0),(1,x1)],ty,ps,af,g⟩).run Tryz.prog w= .ok (.value (.agg #[c0_0,c1_0,c1_1,c1_2,c1_3])) w:=by
  obtain⟨i0,hi0,hz0⟩:=we.1 (show (Tryz.prog.info? 298).bind (·.zero)=_ from SK)
  obtain⟨j3,hj3,hs3⟩:=an.1 fL
  obtain⟨j40,hj40,hs40⟩:=an.1 Lr
  simp[execOp,h0,k0,h1,Instr.build,zeroValue,typeInfo,sizeOf,hi0,hz0,run_underlying Tryz.underlying298,Instr.fill,d7,hj3,hs3,hj40,hs40]
theorem TR:cY Tryz.prog 195=true:=by kernel_rfl
theorem Q5:cY Tryz.prog 196=true:=by kernel_rfl
theorem K3 (n:Nat):∀(f:Nat),∀(on may i:Nat) (w:World),n≤8→oI n on may i→n+1-i≤f→f≤9→Fn Tryz.prog 235 #[.agg #[.int .i64 (n:Int),wv (fk n) 0,wv (fk n) 1,wv (fk n) 2,wv (fk n) 3],el on,el may, .int .i64 (i:Int)] w λv w'=>cH iI 2 34 w' w.heap.size v (eL n f on may i)
  |0,on,may,i,w,_,hg,hf,_=>by have:=hg.le;omega
  |f+1,on,may,i,w,h8,hg,hf,hf9=>Pm n f i on may w (K3 n f) h8 hg hf hf9
theorem Dy (on may:Nat) (n:Int) (w:World):
    Fn Tryz.prog 195 #[el on,el may, .int .i64 n] w λv w'=>if BO on may n=true then ∃x,v= .tuple #[x, .int .i64 0]∧cH iI 2 34 w' w.heap.size x (kf on may n)else v= .tuple #[.slice none 0 0, .int .i64 1]:=by
 refine cK (n:=35) Tryz.func195 rfl rfl rfl λhB=> ?_
 refine Zr<|Zy (du (c:= #[_,_,_,_]) rfl rfl λH W3 I m a=> ?_)
 replace hB:=Ze hB m
 refine Zy (du (c:= #[_,_,_,_]) rfl rfl λJ W6 K o b=> ?_)
 obtain⟨hB,a⟩:=o.k2 hB a
 refine Zw (.slice none 0 0) rfl<|ZZ rfl<|Zr<|Zi rfl<|ZC wO (nQ _ _) rfl λL M p q=> ?_
 obtain⟨hB,a,b⟩:=p.k3 hB a b
 obtain⟨sa,er,rfl,hhP1_1⟩:=sM q
 refine Zw (.tuple #[.agg #[_,_,_,_], .int .i64 _]) rfl<|Zv (c7 rfl)<|Zv (da rfl)<|Zy (cM ep rfl λr s f t d=> ?_)
 have u:=ZO f hB
 have y:=Zn f a.lt
 have z:=Zn f b.lt
 obtain⟨hB,a,b⟩:=t.k3 hB a b
 replace d:At s r #[wv 0 0,wv 0 1,wv 0 2,wv 0 3] 40:=d
 refine Zy (cA rfl rfl cC rfl d rfl rfl λN g A=> ?_)
 replace hB:=Zg hB g u
 replace a:=At.grownNe a y g
 replace b:=At.grownNe b z g
 replace d:=A
 refine ZZ rfl<|Zq<|Zr<|Zi rfl<|Zv (eV rfl rfl)<|ZX rfl (λe=> ?_) λe=> ?_
 refine Zs<|Zs<|Zs<|Zs<|Zb rfl<|Zb rfl<|Zs<|Zs<|Zs<|Zs<|Zb rfl<|ct<|cN rfl<|Zr ?_
 refine Zw (.slice none 0 0) rfl<|ZZ rfl<|Zt<|dH (v:= .slice none 0 0) rfl (v1:= .int .i64 1) rfl ⟨hB,?_⟩
 rw[if_neg (RE hhP1_1 e)]
 refine Zv (cz rfl cC rfl a)<|Zv (cz rfl cC rfl b)<|ZC (vs:=[.agg #[_,_,_,_], .agg #[_,_,_,_]]) po (gS _ _ _) rfl λO P B C=> ?_
 obtain⟨hB,a,b,d⟩:=B.k4 hB a b d
 obtain rfl:=C
 refine Zv (eK rfl)<|Zb rfl<|ZX rfl (λi=> ?_) λi=> ?_
 refine Zs<|Zs<|Zs<|Zs<|Zb rfl<|ct<|cN rfl<|Zr<|Zw (.slice none 0 0) rfl<|ZZ rfl<|Zt<|dH (v:= .slice none 0 0) rfl (v1:= .int .i64 1) rfl ⟨hB,?_⟩
 rw[if_neg (SZ i)]
 refine Zv (cz rfl cC rfl b)<|Zv (cz rfl cC rfl d)<|ZC (vs:=[.agg #[_,_,_,_], .agg #[_,_,_,_]]) po (gS _ _ _) rfl λQ R D E=> ?_
 obtain⟨hB,a,b,d⟩:=D.k4 hB a b d
 obtain rfl:=E
 refine Zv (eK rfl)<|Zb rfl<|ct<|ZQ rfl (λj=> ?_) λj=> ?_
 refine Zr<|Zw (.slice none 0 0) rfl<|ZZ rfl<|Zt<|dH (v:= .slice none 0 0) rfl (v1:= .int .i64 1) rfl ⟨hB,?_⟩
 rw[if_neg (SL hhP1_1 e j)]
 refine cx ?_
 have hok:BO on may n=true:=V6 hhP1_1 e i j
 obtain⟨h0,h8,rfl,rfl⟩:=hhP1_1.resolve_right (λh=>h.1 (lf (kL.1 hok).1))
 obtain⟨n,rfl⟩:=ab2 h0
 obtain⟨hok8,hok9⟩:=Db hok
 refine Zr<|Zi rfl<|Zv (cz rfl cC rfl d)<|Zv (yf (h0:=rfl) (k0:=rfl) (h1:=rfl) (c0_0:= .int .i64 _))<|Zv (cz rfl cC rfl a)<|Zv (cz rfl cC rfl b)<|ZC (vs:=[.agg #[_,_,_,_,_], .agg #[_,_,_,_], .agg #[_,_,_,_], .int .i64 0]) yG (K3 n (n+1) on may 0 _ hok8 hok9 Om Om) rfl λl S F k=> ?_
 have G:=(Below.size hB)
 replace hB:=Ze hB F
 replace k:=cH.mono k G
 refine Zw l rfl<|ZZ rfl<|Zt<|dH (v:=l) rfl (v1:= .int .i64 0) rfl ⟨hB,?_⟩
 rw[if_pos hok]
 exact⟨_,rfl,k⟩
theorem Eh (on may:Nat) (n:Int) (w:World):
    Fn Tryz.prog 149 #[el on,el may, .int .i64 n] w λv w'=>if BO on may n=true then ∃x,v= .tuple #[x, .int .i64 0]∧cH iI 2 34 w' w.heap.size x (I7 may n (kf on may n))else v= .tuple #[.slice none 0 0, .int .i64 1]:=by
 refine cK (n:=52) Tryz.func149 rfl rfl rfl λhB=> ?_
 refine Zr<|Zy (du (c:= #[_,_,_,_]) rfl rfl λE W3 ah F f=> ?_)
 replace hB:=Ze hB F
 refine Zy (du (c:= #[_,_,_,_]) rfl rfl λG W6 ai H g=> ?_)
 obtain⟨hB,f⟩:=H.k2 hB f
 refine Zw (.slice none 0 0) rfl<|ZZ rfl<|Zr<|Zv (cz rfl cC rfl f)<|Zv (cz rfl cC rfl g)<|Zi rfl<|ZC (vs:=[.agg #[_,_,_,_], .agg #[_,_,_,_], .int .i64 _]) TR (Dy _ _ _ _) rfl λaj ak I J=> ?_
 have K:=(Below.size hB)
 obtain⟨hB,f,g⟩:=I.k3 hB f g
 obtain⟨x_hP1_3,er_hP1_3,l_hP1_3,rfl,ho_hP1_3,hc_hP1_3⟩:=K6 J
 replace ho_hP1_3:=cH.mono ho_hP1_3 K
 refine Zw (.tuple #[x_hP1_3, .int .i64 _]) rfl<|Zv (c7 rfl)<|Zv (da rfl)<|Zw x_hP1_3 rfl<|ZZ rfl<|Zq<|Zr<|Zi rfl<|Zv (eV rfl rfl)<|ct<|ZQ rfl (λr=> ?_) λr=> ?_
 refine Zr<|Zi rfl<|Zw (.slice none 0 0) rfl<|ZZ rfl<|Zt<|dH (v:= .slice none 0 0) rfl (v1:= .int .i64 _) rfl ⟨hB,?_⟩
 obtain⟨hno,hee⟩:=Vy hc_hP1_3 r
 rw[if_neg hno,hee]
 refine cx ?_
 obtain⟨hok,hleq⟩:=NW hc_hP1_3 r
 subst hleq
 have hll:=FN (on:=on) (may:=may) (lf (kL.1 hok).1).2
 refine Zr<|Zy (hU (enc:=jo) (encV:=Value.bool) λp al L M e=> ?_)
 have N:=ZO L hB
 obtain⟨hB,f,g,ho_hP1_3⟩:=M.k4 hB f g ho_hP1_3
 replace e:dy jo Value.bool _ _ (fC []):=e
 refine Zw (.map (some p)) rfl<|ct<|Zr<|Zw (.slice none 0 0) rfl<|ct<|Zq<|Zr<|Zw x_hP1_3 rfl<|Zv (db (v:=x_hP1_3) rfl ho_hP1_3.sl eH)<|ZZ rfl<|cy ?_
 refine cW (σ:=(Nat)×(Value)) [11,11,13,15,29,50] (λ(k,v0)=>[(29, .int .i64 (k:Int)),(11,v0)]) (λsg W=>match sg with|(k,v0)=>(Below w.heap.size w W)∧(At W E _ 40)∧(At W G _ 40)∧(cH iI 2 34 W w.heap.size x_hP1_3 _)∧(dy jo Value.bool W p (fC (kE may n (kf on may n) k)))∧(fp v0 x_hP1_3)∧(cH iI 2 34 W w.heap.size v0 (kE may n (kf on may n) k))∧(k≤(kf on may n).length)∧(True)) (λ(k,v0)=>(kf on may n).length-k) ((0, .slice none 0 0)) ⟨rfl,rfl,trivial⟩ ⟨hB,f,g,ho_hP1_3,e,ad0,cH.nil,(me _),trivial⟩ ?_
 rintro⟨k,v0⟩ ao ap ⟨hB,f,g,ho_hP1_3,e,hap,ho,hk,_⟩ aq z
 refine Zr<|Zv (dq rfl rfl)<|ct<|Zq<|ZQ rfl (λO=> ?_) λO=> ?_
 refine cx<|Zq<|cy<|Zr<|Zv (dp (v:=x_hP1_3) rfl ho_hP1_3.sl rfl eH Om (by omega))<|Zv (io rfl dh (dr.cell ho_hP1_3.sl gx ⟨0,0⟩ Om (by omega) 0 rfl) (dr.cell ho_hP1_3.sl gx ⟨0,0⟩ Om (by omega) 1 rfl))<|Zy (cM gV rfl λA ar s P i=> ?_)
 have Q:=ZO s hB
 have R:=acm (b:=A) ho_hP1_3 (aaR s.symm)
 have S:=acm (b:=A) ho (aaR s.symm)
 obtain⟨hB,f,g,ho_hP1_3,e,ho⟩:=P.k6 hB f g ho_hP1_3 e ho
 refine Zy (cA rfl rfl dh rfl i rfl rfl λau j T=> ?_)
 replace hB:=Zg hB j Q
 replace f:=At.grownAt f i j Dd
 replace g:=At.grownAt g i j Dd
 replace ho_hP1_3:=ab3 ho_hP1_3 R j
 replace e:=dy.grownAt e i j
 replace ho:=ab3 ho S j
 replace i:=T
 refine ct ?_
 obtain⟨hi1,hi2,hi3,hi4⟩:=yn hok (dF (d:=⟨0,0⟩) (show k<(kf on may n).length by omega))
 have hgl:=sD may n (kf on may n) k
 refine Zr<|Zv (cz rfl dh rfl i)<|Zv (cz rfl cC rfl g)<|Zi rfl<|ZC (vs:=[.agg #[_,_], .agg #[_,_,_,_], .int .i64 _]) Q5 (Df ((kf on may n).getD k ⟨0,0⟩) may n _ ⟨hi2,hi3⟩) rfl λav aw U B=> ?_
 obtain⟨hB,f,g,ho_hP1_3,e,ho,i⟩:=U.k7 hB f g ho_hP1_3 e ho i
 rw[if_pos hi1]at B
 obtain rfl:=B
 refine Zw (.tuple #[.agg #[_,_], .int .i64 _]) rfl<|Zv (c7 rfl)<|Zv (da rfl)<|Zy (cM gV rfl λC ax t V h=> ?_)
 have X:=ZO t hB
 have Y:=acm (b:=C) ho_hP1_3 (aaR t.symm)
 have Z:=acm (b:=C) ho (aaR t.symm)
 obtain⟨hB,f,g,ho_hP1_3,e,ho⟩:=V.k6 hB f g ho_hP1_3 e ho
 refine Zy (cA rfl rfl dh rfl h rfl rfl λay l aa=> ?_)
 replace hB:=Zg hB l X
 replace f:=At.grownAt f h l Dd
 replace g:=At.grownAt g h l Dd
 replace ho_hP1_3:=ab3 ho_hP1_3 Y l
 replace e:=dy.grownAt e h l
 replace ho:=ab3 ho Z l
 replace h:=aa
 refine ZZ rfl<|Zr<|Zw (.map (some p)) rfl<|Zv (cz rfl dh rfl h)<|Zv (fX (enc:=jo) (encV:=Value.bool) (v0:=false) (k:=(lD may n ((kf on may n).getD k ⟨0,0⟩))) rfl rfl kz oh (λa=>⟨a,rfl⟩) nW rg rfl e)<|Zv (eK rfl)<|ct<|ZQ rfl (λq=> ?_) λq=> ?_
 refine Zr<|Zw (.map (some p)) rfl<|Zv (cz rfl dh rfl h) ?_
 refine gU (dd:=none) rfl rfl rfl (fN (enc:=jo) (encV:=Value.bool) (k:=(lD may n ((kf on may n).getD k ⟨0,0⟩))) (v:=true) rfl rfl rfl kz oh (λa=>⟨a,rfl⟩) nW e (λaz m ab=> ?_))
 replace hB:=Zg hB m N
 replace f:=At.grownMap f e m
 replace g:=At.grownMap g e m
 replace ho_hP1_3:=cH.grownMap ho_hP1_3 e m
 replace ho:=cH.grownMap ho e m
 replace h:=At.grownMap h e m
 replace e:=ab
 rw[kb]at e
 refine ct<|cI<|Zw v0 rfl<|Zv (cz rfl dh rfl h)<|Zy (ez (u:= .agg #[_,_]) rfl eH jL rfl Dd Dd λac aA aB ad ae=> ?_)
 obtain⟨hB,f,g,ho_hP1_3,e,ho⟩:=ad.k6 hB f g ho_hP1_3 e ho
 refine Zy (jh (v:=v0) (v2:= .slice (some ⟨ac,0,none⟩) 1 1) rfl rfl eH jL Dd ho (eJ ae rfl) rfl (m3 hB) (by omega) (by omega) λD aC o y af=> ?_)
 have ag:=fp.app hap af ho_hP1_3
 replace y:=cH.snoc (enc:=iI) (x:=(lD may n ((kf on may n).getD k ⟨0,0⟩))) rfl rfl rfl rfl y
 replace hB:=ZG hB o ho
 replace f:=At.grownOw f ho o Dd
 replace g:=At.grownOw g ho o Dd
 replace ho_hP1_3:=cH.grownAp ho_hP1_3 hap o
 replace e:=dy.grownOw e ho o
 refine Zw D rfl<|ct<|ZT rfl rfl rfl ?_
 exact z _ _ ((k+1,D)) Za ⟨rfl,rfl,trivial⟩ ⟨hB,f,g,ho_hP1_3,(by exact e),ag,(by (rw[kE,Fu (N5 (kk:=lD may n ((kf on may n).getD k ⟨0,0⟩)) q)];exact y)),Om,trivial⟩ (by show (kf on may n).length-(k+1)<(kf on may n).length-k;omega)
 refine cx<|ZT rfl rfl rfl ?_
 exact z _ _ ((k+1,v0)) Za ⟨rfl,rfl,trivial⟩ ⟨hB,f,g,ho_hP1_3,(by (rw[kE,AB (Qt (kk:=lD may n ((kf on may n).getD k ⟨0,0⟩)) q)];exact e)),hap,(by (rw[kE,AB (Qt (kk:=lD may n ((kf on may n).getD k ⟨0,0⟩)) q)];exact ho)),Om,trivial⟩ (by show (kf on may n).length-(k+1)<(kf on may n).length-k;omega)
 refine cT<|Zr<|Zw v0 rfl<|Zw v0 rfl<|ZZ rfl<|Zt<|dH (v:=v0) rfl (v1:= .int .i64 0) rfl ⟨hB,?_⟩
 obtain rfl:k=(kf on may n).length:=by omega
 rw[if_pos hok]
 exact⟨_,rfl,ho⟩
end
section
theorem TO:cY Tryz.prog 149=true:=by kernel_rfl
theorem JA:cY Tryz.prog 150=true:=by kernel_rfl
theorem vO:na Tryz.prog 211=some (158,4):=by kernel_rfl
theorem Qr (hx:dm f x= .agg #[.int .u8 a0, .int .u8 a1, .int .u8 a2]) (hy:dm f y= .agg #[.int .u8 b0, .int .u8 b1, .int .u8 b2]):
    (execOp (dm f) ⟨d, .binOp .eql 158 x y t2,ty,ps,af,g⟩).run Tryz.prog w= .ok (.value (.bool (decide ((a0=b0∧a1=b1∧a2=b2))))) w:=by
  have hg:Tryz.prog.eqGuardType Tryz.prog.depth 158=false:=by kernel_rfl
  have hp158:Tryz.prog.stoodInHeld 158=false:=by kernel_rfl
  have hu158:Tryz.prog.underlying 158=some (.struct (Tryz.prog.fieldsOf 158)):=by kernel_rfl
  have hp34:Tryz.prog.stoodInHeld 34=false:=by kernel_rfl
  have hu34:Tryz.prog.underlying 34=some (.struct (Tryz.prog.fieldsOf 34)):=by kernel_rfl
  obtain⟨j34,hj34,hs34⟩:=an.1 (show (Tryz.prog.info? 34).map (·.size)=some 2 by kernel_rfl)
  simp only[execOp,hx,hy,Sem.run_bind,run_eqGuard_agg _ _ _ _ _ _ _ hg,Result.andThen_ok,run_eql_struct,run_equalIn_agg _ 9999 158 _ _ hu158 hp158]
  simp only[Program.fieldsOf,Tryz.underlying158]
  simp[Op.eqFields,part,isAgg,run_equalIn_int _ 9998 5 _ _ _ _ Tryz.underlying5,run_underlying Tryz.underlying5,run_equalIn_agg _ 9998 34 _ _ hu34 hp34,Program.fieldsOf,Tryz.underlying34,run_equalIn_int _ 9997 5 _ _ _ _ Tryz.underlying5,sizeOf,typeInfo,hj34,hs34,run_underlying Tryz.underlying34]
  by_cases q0:a0=b0<;>by_cases q1:a1=b1<;>by_cases q2:a2=b2<;>simp[q0,q1,q2]
theorem s5:qV Tryz.prog 158 (λv=>∃a:Rw,v=tN a):=by
  refine pD Tryz.underlying158 ?_ ?_ ?_ ?_
  · rintro w _ _ ⟨a,rfl⟩ ⟨c,rfl⟩
    have hg:Tryz.prog.eqGuardType Tryz.prog.depth 158=false:=by kernel_rfl
    exact⟨_,sO hg (Qr rfl rfl),by rw[decide_eq_true_eq];constructor<;>intro h<;>simpa [tN] using h⟩
  · rintro _ _ ⟨a,rfl⟩ ⟨c,rfl⟩
    exact .inl rfl
  · rintro w em _ ⟨a,rfl⟩
    have h2:∀k,(Instr.checkKey em (k+1+1+1) 158 (tN a)).run Tryz.prog w= .ok () w:=λk=>by
      simp[tN,Instr.checkKey,part,isAgg,run_underlying Tryz.underlying158,run_underlying Tryz.underlying34,run_underlying Tryz.underlying5]
    exact h2 9997
  · rintro _ ⟨a,rfl⟩
    simp[tN,Instr.sameBits]
theorem CX (S:Sp) (onV mayV:Value) (w:World) (hon:dr eX 4 w onV S.on) (hmay:dr eX 4 w mayV S.may):
    Fn Tryz.prog 103 #[.agg #[.int .i64 S.n,onV,mayV]] w λv w'=>if dt S=true then ∃x,v= .tuple #[x, .int .i64 0]∧cH gz 3 158 w' w.heap.size x (m8 S)else v= .tuple #[.slice none 0 0, .int .i64 1]:=by
 refine cK (n:=66) Tryz.func103 rfl rfl rfl λhB=> ?_
 refine Zr<|Zy (du (c:= #[_,_,_]) rfl rfl λZ W3 aM ad f=> ?_)
 replace hB:=Ze hB ad
 refine Zw (.slice none 0 0) rfl<|ZZ rfl<|Zq<|Zr<|Zv (cz rfl d9 rfl f)<|ZC (vs:=[.agg #[_,_,_]]) oN (iQ S _ _ _ (Below.slT hB hon) (Below.slT hB hmay)) rfl λaN aO ae af=> ?_
 obtain⟨hB,f⟩:=ae.k2 hB f
 obtain rfl:=af
 refine Zv (eK rfl)<|ct<|ZQ rfl (λL=> ?_) λL=> ?_
 refine Zr<|Zw (.slice none 0 0) rfl<|ZZ rfl<|Zt<|dH (v:= .slice none 0 0) rfl (v1:= .int .i64 1) rfl ⟨hB,?_⟩
 rw[if_neg (by rw[show dt S=false from kh L];decide)]
 refine cx ?_
 have hr:dt S=true:=lA L
 obtain⟨h0,h8,h1,h4,h5,hin⟩:=dw.1 hr
 refine Zr<|Zy (hU (enc:=tN) (encV:=Value.bool) λt aP ag ah d=> ?_)
 have aa:=ZO ag hB
 obtain⟨hB,f⟩:=ah.k2 hB f
 replace d:dy tN Value.bool _ _ (fC []):=d
 refine Zw (.map (some t)) rfl<|ct<|Zr<|Zw (.slice none 0 0) rfl<|ct<|Zq<|Zr<|Zf rfl fw<|ZL onV rfl eh f rfl<|Zv (db (v:=onV) rfl (Below.slT hB hon) dQ)<|ZZ rfl<|cy ?_
 refine cW (σ:=(Nat)×(Value)) [5,9,11,13,21,64] (λ(o,v0)=>[(21, .int .i64 (o:Int)),(5,v0)]) (λsg W=>match sg with|(o,v0)=>(Below w.heap.size w W)∧(At W Z _ 59)∧(dy tN Value.bool W t (fC (Iz S o)))∧(cH gz 3 158 W w.heap.size v0 (Iz S o))∧(o≤S.on.length)∧(True)) (λ(o,v0)=>S.on.length-o) ((0, .slice none 0 0)) ⟨rfl,rfl,trivial⟩ ⟨hB,f,d,cH.nil,(me _),trivial⟩ ?_
 rintro⟨o,v0⟩ aQ aR ⟨hB,f,d,ho,hoo,_⟩ aS ai
 refine Zr<|Zv (dq rfl rfl)<|ct<|Zq<|ZQ rfl (λaj=> ?_) λaj=> ?_
 refine cx<|Zq<|cy ?_
 have D:o<S.on.length:=by omega
 have h7:=Eb (show o<8 by omega)
 have hgl:=PB hr D
 have hpl:=Em hr o (by omega)
 refine Zr<|Zi rfl<|Zv (dp (v:=onV) rfl (Below.slT hB hon) rfl dQ Om (by omega))<|Zv (eI rfl cC (dr.cell (Below.slT hB hon) dk 0 Om (by omega) 0 rfl) (dr.cell (Below.slT hB hon) dk 0 Om (by omega) 1 rfl) (dr.cell (Below.slT hB hon) dk 0 Om (by omega) 2 rfl) (dr.cell (Below.slT hB hon) dk 0 Om (by omega) 3 rfl))<|Zy (cM ep rfl λab ak al ao g=> ?_)
 have ap:=ZO al hB
 obtain⟨hB,f,d,ho⟩:=ao.k4 hB f d ho
 replace g:At ak ab #[wv 0 0,wv 0 1,wv 0 2,wv 0 3] 40:=g
 refine Zi rfl<|Zy (cA rfl rfl cC rfl g rfl rfl λaT J aq=> ?_)
 replace hB:=Zg hB J ap
 replace f:=At.grownAt f g J Dd
 replace d:=dy.grownAt d g J
 replace ho:=cH.grownAt ho g J Dd
 replace g:=aq
 refine ct<|Zd dA λar au=> ?_
 obtain⟨hB,f,d,ho,g⟩:=au.k5 hB f d ho g
 have hS:=dA.refl ar
 refine Tk 0 rfl (λ_ hq=>cz rfl cC rfl (hq.at g)) hS<|Tf 1 rfl rfl fE hS<|Tk 2 rfl (λ_ hq=>cD (v:=mayV) rfl eh (At.cell (hq.at f) rfl)) hS<|Ti 3 rfl rfl hS<|Tk 4 rfl (λ_ hq=>dp (v:=mayV) rfl (hq.slT (Below.slT hB hmay)) rfl dQ Om (by omega)) hS<|Tk 5 rfl (λ_ hq=>eI rfl cC (dr.cell (hq.slT (Below.slT hB hmay)) dk 0 Om (by omega) 0 rfl) (dr.cell (hq.slT (Below.slT hB hmay)) dk 0 Om (by omega) 1 rfl) (dr.cell (hq.slT (Below.slT hB hmay)) dk 0 Om (by omega) 2 rfl) (dr.cell (hq.slT (Below.slT hB hmay)) dk 0 Om (by omega) 3 rfl)) hS<|Tf 6 rfl rfl gn hS<|Tk 7 rfl (λ_ hq=>cD (v:= .int .i64 _) rfl cR (At.cell (hq.at f) rfl)) hS<|To 8 rfl (TC (vs:=[.agg #[_,_,_,_], .agg #[_,_,_,_], .int .i64 _]) TO (Eh (zn S o) (jZ S o) S.n _) rfl λaU aV M av=>⟨.inl (hS.trans M),?_⟩)
 have aw:=(Below.size hB)
 obtain⟨hB,f,d,ho,g⟩:=M.k5 hB f d ho g
 replace hS:=hS.trans M
 obtain⟨x_hP8_8,er_hP8_8,l_hP8_8,rfl,ho_hP8_8,hc_hP8_8⟩:=K6 av
 replace ho_hP8_8:=cH.mono ho_hP8_8 aw
 refine Tw 9 (.tuple #[x_hP8_8, .int .i64 _]) rfl rfl hS<|Tk 10 rfl (λ_ _=>c7 rfl) hS<|Tk 11 rfl (λ_ _=>da rfl) hS<|Tw 12 x_hP8_8 rfl rfl hS<|Ti 13 rfl rfl hS<|Td ?_
 obtain⟨_,hleq⟩:=NW hc_hP8_8 (by intro h;exact h (by rcases hc_hP8_8 with ⟨_,h,_⟩|⟨h,_⟩;exact h;rw[r8 hr D]at h;cases h))
 have hleq2:l_hP8_8=vY S o:=hleq
 subst hleq2
 refine Zr<|Zw x_hP8_8 rfl<|Zv (db (v:=x_hP8_8) rfl ho_hP8_8.sl eH)<|ZZ rfl<|cy ?_
 refine cW (σ:=(Nat)×(Value)) [5,5,11,13,40,63] (λ(i,v1)=>[(40, .int .i64 (i:Int)),(5,v1)]) (λsg W=>match sg with|(i,v1)=>(Below w.heap.size w W)∧(At W Z _ 59)∧(At W ab _ 40)∧(cH iI 2 34 W w.heap.size x_hP8_8 _)∧(dy tN Value.bool W t (fC (Je S o (Iz S o) i)))∧(cH gz 3 158 W w.heap.size v1 (Je S o (Iz S o) i))∧(i≤(vY S o).length)∧(True)) (λ(i,v1)=>(vY S o).length-i) ((0,v0)) ⟨rfl,rfl,trivial⟩ ⟨hB,f,g,ho_hP8_8,d,(by exact ho),(me _),trivial⟩ ?_
 rintro⟨i,v1⟩ aW aX ⟨hB,f,g,ho_hP8_8,d,hoo2,hi,_⟩ aY K
 refine Zr<|Zv (dq rfl rfl)<|ct<|Zq<|ZQ rfl (λax=> ?_) λax=> ?_
 refine cx<|Zq<|cy ?_
 have hi2:i<(vY S o).length:=by omega
 have hgg:=JI hr D hi2
 have hcl:=El S o (Iz S o) i
 refine Zr<|Zv (dp (v:=x_hP8_8) rfl ho_hP8_8.sl rfl eH Om (by omega))<|Zv (io rfl dh (dr.cell ho_hP8_8.sl gx ⟨0,0⟩ Om (by omega) 0 rfl) (dr.cell ho_hP8_8.sl gx ⟨0,0⟩ Om (by omega) 1 rfl))<|Zy (cM gV rfl λay aZ ac az p=> ?_)
 have aA:=ZO ac hB
 have aB:=acm (b:=ay) ho_hP8_8 (aaR ac.symm)
 obtain⟨hB,f,g,ho_hP8_8,d,hoo2⟩:=az.k6 hB f g ho_hP8_8 d hoo2
 refine Zy (cA rfl rfl dh rfl p rfl rfl λa0 A aC=> ?_)
 replace hB:=Zg hB A aA
 replace f:=At.grownAt f p A Dd
 replace g:=At.grownAt g p A Dd
 replace ho_hP8_8:=ab3 ho_hP8_8 aB A
 replace d:=dy.grownAt d p A
 replace hoo2:=cH.grownAt hoo2 p A Dd
 replace p:=aC
 refine ct<|Zd dA λaD aE=> ?_
 obtain⟨hB,f,g,ho_hP8_8,d,hoo2,p⟩:=aE.k7 hB f g ho_hP8_8 d hoo2 p
 have hS:=dA.refl aD
 refine Tk 0 rfl (λ_ hq=>cz rfl d9 rfl (hq.at f)) hS<|Tk 1 rfl (λ_ hq=>cz rfl dh rfl (hq.at p)) hS<|Ti 2 rfl rfl hS<|Tk 3 rfl (λ_ _=>jK (m:=1) rfl rfl Om (by simp only[IntKind.bits];omega) yW) hS<|Tk 4 rfl (λ_ _=>kG (h0:=rfl) (h1:=rfl) (k1:=rfl) (c1_0:= .int .u8 _)) hS ?_
 refine wx 5 9 jW rfl rfl rfl rfl rfl rfl rfl rfl (Yd.call (yl JA (v0:= .agg #[_,_,_]) rfl (v1:= .agg #[_,_,_]) rfl) (wb S _ _ ⟨((vY S o).getD i ⟨0,0⟩),1*2^o⟩ _ (Below.slT hB hon) (Below.slT hB hmay) ⟨hgg.1,hgg.2,(by show 1*2^o<256;omega)⟩) (λaF a1 N E=>⟨.inl (hS.trans N),?_⟩)) (cM jP rfl (λy a2 O P l=>⟨.inl (hS.trans P),?_⟩))
 obtain⟨hB,f,g,ho_hP8_8,d,hoo2⟩:=N.k6 hB f g ho_hP8_8 d hoo2
 replace hS:=hS.trans N
 rw[abJ,if_pos (zr hr D hi2)]at E
 obtain rfl:=E
 refine Tw 6 (.tuple #[.agg #[_,_,_], .int .i64 _]) rfl rfl hS<|Tk 7 rfl (λ_ _=>c7 rfl) hS<|Tk 8 rfl (λ_ _=>da rfl) hS<|To 9 rfl (cM jP rfl λy a3 Q R l=>⟨.inl (hS.trans R),?_⟩)
 have T:=ZO Q hB
 have F:=go (dA.size hS) (aaR Q.symm)
 have U:=acm (b:=y) hoo2 (aaR Q.symm)
 obtain⟨hB,f,g,ho_hP8_8,d,hoo2⟩:=R.k6 hB f g ho_hP8_8 d hoo2
 replace hS:=hS.trans R
 refine To 10 rfl (cA rfl rfl dY rfl l rfl rfl λa4 r aG=>⟨.inl (dg hS r (am _) (λj hj=>by have e:y=j:=aaK hj;rw[←e];exact F)),?_⟩)
 replace hS:dA _ _:=dg hS r (am _) (λj hj=>by have e:y=j:=aaK hj;rw[←e];exact F)
 replace hB:=Zg hB r T
 replace f:=At.grownAt f l r Dd
 replace g:=At.grownAt g l r Dd
 replace ho_hP8_8:=cH.grownAt ho_hP8_8 l r Dd
 replace d:=dy.grownAt d l r
 replace hoo2:=ab3 hoo2 U r
 replace l:=aG
 refine Ti 11 rfl rfl hS<|Td<|Zr<|Zw (.map (some t)) rfl<|Zv (cz rfl dY rfl l)<|Zv (fX (enc:=tN) (encV:=Value.bool) (v0:=false) (k:=(xZ S o i)) rfl rfl vO s5 (λa=>⟨a,rfl⟩) vg rg rfl d)<|Zv (eK rfl)<|ct<|ZQ rfl (λq=> ?_) λq=> ?_
 refine Zr<|Zw (.map (some t)) rfl<|Zv (cz rfl dY rfl l) ?_
 refine gU (dd:=none) rfl rfl rfl (fN (enc:=tN) (encV:=Value.bool) (k:=(xZ S o i)) (v:=true) rfl rfl rfl vO s5 (λa=>⟨a,rfl⟩) vg d (λa5 B aH=> ?_))
 replace hB:=Zg hB B aa
 replace f:=At.grownMap f d B
 replace g:=At.grownMap g d B
 replace ho_hP8_8:=cH.grownMap ho_hP8_8 d B
 replace hoo2:=cH.grownMap hoo2 d B
 replace l:=At.grownMap l d B
 replace d:=aH
 rw[kb]at d
 refine ct<|cI<|Zw v1 rfl<|Zv (cz rfl dY rfl l)<|Zy (ez (u:= .agg #[_,_,_]) rfl dM ij rfl Dd Dd λV a6 a7 aI X=> ?_)
 obtain⟨hB,f,g,ho_hP8_8,d,hoo2⟩:=aI.k6 hB f g ho_hP8_8 d hoo2
 refine Zy (dP (v:=v1) (v2:= .slice (some ⟨V,0,none⟩) 1 1) rfl rfl dM ij Dd hoo2 (eJ X rfl) rfl (m3 hB) (by omega) (by omega) λG a8 H z=> ?_)
 replace z:=cH.snoc (enc:=gz) (x:=(xZ S o i)) rfl rfl rfl rfl z
 replace hB:=ZG hB H hoo2
 replace f:=At.grownOw f hoo2 H Dd
 replace g:=At.grownOw g hoo2 H Dd
 replace ho_hP8_8:=cH.grownOw ho_hP8_8 hoo2 H Dd
 replace d:=dy.grownOw d hoo2 H
 refine Zw G rfl<|ct<|ZT rfl rfl rfl ?_
 exact K _ _ ((i+1,G)) Za ⟨rfl,rfl,trivial⟩ ⟨hB,f,g,ho_hP8_8,(by exact d),(by (rw[←Jo (Jn (kk:=xZ S o i) q)];exact z)),Om,trivial⟩ (by show (vY S o).length-(i+1)<(vY S o).length-i;omega)
 refine cx<|ZT rfl rfl rfl ?_
 exact K _ _ ((i+1,v1)) Za ⟨rfl,rfl,trivial⟩ ⟨hB,f,g,ho_hP8_8,(by (rw[←yL (DK (kk:=xZ S o i) q)];exact d)),(by (rw[←yL (DK (kk:=xZ S o i) q)];exact hoo2)),Om,trivial⟩ (by show (vY S o).length-(i+1)<(vY S o).length-i;omega)
 have T:=ZO O hB
 have F:=go (dA.size hS) (aaR O.symm)
 have U:=acm (b:=y) hoo2 (aaR O.symm)
 obtain⟨hB,f,g,ho_hP8_8,d,hoo2⟩:=P.k6 hB f g ho_hP8_8 d hoo2
 replace hS:=hS.trans P
 refine To 5 rfl (TC (vs:=[.agg #[_,_,_], .agg #[_,_,_]]) JA (wb S _ _ ⟨((vY S o).getD i ⟨0,0⟩),1*2^o⟩ _ (Below.slT hB hon) (Below.slT hB hmay) ⟨hgg.1,hgg.2,(by show 1*2^o<256;omega)⟩) rfl λaF a9 Y E=>⟨.inl (hS.trans Y),?_⟩)
 obtain⟨hB,f,g,ho_hP8_8,d,hoo2,l⟩:=Y.k7 hB f g ho_hP8_8 d hoo2 l
 replace hS:=hS.trans Y
 rw[abJ,if_pos (zr hr D hi2)]at E
 obtain rfl:=E
 refine Tw 6 (.tuple #[.agg #[_,_,_], .int .i64 _]) rfl rfl hS<|Tk 7 rfl (λ_ _=>c7 rfl) hS<|Tk 8 rfl (λ_ _=>da rfl) hS<|To 10 rfl (cA rfl rfl dY rfl l rfl rfl λba s aJ=>⟨.inl (dg hS s (am _) (λj hj=>by have e:y=j:=aaK hj;rw[←e];exact F)),?_⟩)
 replace hS:dA _ _:=dg hS s (am _) (λj hj=>by have e:y=j:=aaK hj;rw[←e];exact F)
 replace hB:=Zg hB s T
 replace f:=At.grownAt f l s Dd
 replace g:=At.grownAt g l s Dd
 replace ho_hP8_8:=cH.grownAt ho_hP8_8 l s Dd
 replace d:=dy.grownAt d l s
 replace hoo2:=ab3 hoo2 U s
 replace l:=aJ
 refine Ti 11 rfl rfl hS<|Td<|Zr<|Zw (.map (some t)) rfl<|Zv (cz rfl dY rfl l)<|Zv (fX (enc:=tN) (encV:=Value.bool) (v0:=false) (k:=(xZ S o i)) rfl rfl vO s5 (λa=>⟨a,rfl⟩) vg rg rfl d)<|Zv (eK rfl)<|ct<|ZQ rfl (λq=> ?_) λq=> ?_
 refine Zr<|Zw (.map (some t)) rfl<|Zv (cz rfl dY rfl l) ?_
 refine gU (dd:=none) rfl rfl rfl (fN (enc:=tN) (encV:=Value.bool) (k:=(xZ S o i)) (v:=true) rfl rfl rfl vO s5 (λa=>⟨a,rfl⟩) vg d (λbb C aK=> ?_))
 replace hB:=Zg hB C aa
 replace f:=At.grownMap f d C
 replace g:=At.grownMap g d C
 replace ho_hP8_8:=cH.grownMap ho_hP8_8 d C
 replace hoo2:=cH.grownMap hoo2 d C
 replace l:=At.grownMap l d C
 replace d:=aK
 rw[kb]at d
 refine ct<|cI<|Zw v1 rfl<|Zv (cz rfl dY rfl l)<|Zy (ez (u:= .agg #[_,_,_]) rfl dM ij rfl Dd Dd λV bc bd aL X=> ?_)
 obtain⟨hB,f,g,ho_hP8_8,d,hoo2⟩:=aL.k6 hB f g ho_hP8_8 d hoo2
 refine Zy (dP (v:=v1) (v2:= .slice (some ⟨V,0,none⟩) 1 1) rfl rfl dM ij Dd hoo2 (eJ X rfl) rfl (m3 hB) (by omega) (by omega) λG bf I z=> ?_)
 replace z:=cH.snoc (enc:=gz) (x:=(xZ S o i)) rfl rfl rfl rfl z
 replace hB:=ZG hB I hoo2
 replace f:=At.grownOw f hoo2 I Dd
 replace g:=At.grownOw g hoo2 I Dd
 replace ho_hP8_8:=cH.grownOw ho_hP8_8 hoo2 I Dd
 replace d:=dy.grownOw d hoo2 I
 refine Zw G rfl<|ct<|ZT rfl rfl rfl ?_
 exact K _ _ ((i+1,G)) Za ⟨rfl,rfl,trivial⟩ ⟨hB,f,g,ho_hP8_8,(by exact d),(by (rw[←Jo (Jn (kk:=xZ S o i) q)];exact z)),Om,trivial⟩ (by show (vY S o).length-(i+1)<(vY S o).length-i;omega)
 refine cx<|ZT rfl rfl rfl ?_
 exact K _ _ ((i+1,v1)) Za ⟨rfl,rfl,trivial⟩ ⟨hB,f,g,ho_hP8_8,(by (rw[←yL (DK (kk:=xZ S o i) q)];exact d)),(by (rw[←yL (DK (kk:=xZ S o i) q)];exact hoo2)),Om,trivial⟩ (by show (vY S o).length-(i+1)<(vY S o).length-i;omega)
 refine cT<|ZT rfl rfl rfl ?_
 exact ai _ _ ((o+1,v1)) Za ⟨rfl,rfl,trivial⟩ ⟨hB,f,(by rw[Iz];have e:i=(vY S o).length:=Om;subst e;exact d),(by rw[Iz];have e:i=(vY S o).length:=Om;subst e;exact hoo2),Om,trivial⟩ (by show S.on.length-(o+1)<S.on.length-o;omega)
 refine cT<|Zr<|Zw v0 rfl<|Zw v0 rfl<|ZZ rfl<|Zt<|dH (v:=v0) rfl (v1:= .int .i64 0) rfl ⟨hB,?_⟩
 obtain rfl:o=S.on.length:=by omega
 rw[if_pos hr]
 exact⟨_,rfl,ho⟩
end
section
theorem TJ:cY Tryz.prog 174=true:=by kernel_rfl
theorem Uk:cY Tryz.prog 175=true:=by kernel_rfl
theorem TA:cY Tryz.prog 176=true:=by kernel_rfl
theorem sm:d4 Tryz.prog 85=some (.agg #[.slice none 0 0, .int .i64 0, .int .i64 0, .int .i64 0]):=by kernel_rfl
theorem wW:eb Tryz.prog 49 0=some 0:=by kernel_rfl
theorem Tm:cY Tryz.prog 145=true:=by kernel_rfl
theorem wI:(Tryz.prog.info? 83).map (·.size)=some 1:=by kernel_rfl
theorem jQ:
    (execOp (dm f) ⟨d, .build 85 #[],ty,ps,af,g⟩).run Tryz.prog w= .ok (.value (.agg #[.slice none 0 0, .int .i64 0, .int .i64 0, .int .i64 0])) w:=by
  obtain⟨i0,hi0,hz0⟩:=we.1 (show (Tryz.prog.info? 85).bind (·.zero)=_ from sm)
  obtain⟨j3,hj3,hs3⟩:=an.1 fL
  obtain⟨j27,hj27,hs27⟩:=an.1 nO
  obtain⟨j83,hj83,hs83⟩:=an.1 wI
  simp[execOp,Instr.build,zeroValue,typeInfo,sizeOf,hi0,hz0,run_underlying Tryz.underlying85,Instr.fill,d7,hj3,hs3,hj27,hs27,hj83,hs83]
theorem ft:kn Tryz.prog 85=some 4:=by kernel_rfl
theorem Sy:cY Tryz.prog 146=true:=by kernel_rfl
theorem nJ:eb Tryz.prog 49 1=some 1:=by kernel_rfl
theorem Us:cY Tryz.prog 148=true:=by kernel_rfl
theorem zb (h0:dm f x0=c0_0) (k0:c0_0.cells= #[c0_0]) (h1:dm f x1=c1_0) (k1:c1_0.cells= #[c1_0]):
    (execOp (dm f) ⟨d, .build 85 #[(1,x0),(3,x1)],ty,ps,af,g⟩).run Tryz.prog w= .ok (.value (.agg #[.slice none 0 0,c0_0, .int .i64 0,c1_0])) w:=by
  obtain⟨i0,hi0,hz0⟩:=we.1 (show (Tryz.prog.info? 85).bind (·.zero)=_ from sm)
  obtain⟨j3,hj3,hs3⟩:=an.1 fL
  obtain⟨j27,hj27,hs27⟩:=an.1 nO
  obtain⟨j83,hj83,hs83⟩:=an.1 wI
  simp[execOp,h0,k0,h1,k1,Instr.build,zeroValue,typeInfo,sizeOf,hi0,hz0,run_underlying Tryz.underlying85,Instr.fill,d7,hj3,hs3,hj27,hs27,hj83,hs83]
theorem tt:eb Tryz.prog 85 0=some 0:=by kernel_rfl
theorem T3:cY Tryz.prog 103=true:=by kernel_rfl
theorem Sx:cY Tryz.prog 104=true:=by kernel_rfl
theorem uG (h0:dm f x0=c0_0) (k0:c0_0.cells= #[c0_0]) (h1:dm f x1=c1_0) (k1:c1_0.cells= #[c1_0]) (h2:dm f x2=c2_0) (k2:c2_0.cells= #[c2_0]) (h3:dm f x3=c3_0) (k3:c3_0.cells= #[c3_0]):
    (execOp (dm f) ⟨d, .build 85 #[(0,x0),(1,x1),(2,x2),(3,x3)],ty,ps,af,g⟩).run Tryz.prog w= .ok (.value (.agg #[c0_0,c1_0,c2_0,c3_0])) w:=by
  obtain⟨i0,hi0,hz0⟩:=we.1 (show (Tryz.prog.info? 85).bind (·.zero)=_ from sm)
  obtain⟨j3,hj3,hs3⟩:=an.1 fL
  obtain⟨j27,hj27,hs27⟩:=an.1 nO
  obtain⟨j83,hj83,hs83⟩:=an.1 wI
  simp[execOp,h0,k0,h1,k1,h2,k2,h3,k3,Instr.build,zeroValue,typeInfo,sizeOf,hi0,hz0,run_underlying Tryz.underlying85,Instr.fill,d7,hj3,hs3,hj27,hs27,hj83,hs83]
theorem s7:kn Tryz.prog 49=some 2:=by kernel_rfl
theorem RS:cY Tryz.prog 101=true:=by kernel_rfl
theorem Wq:d4 Tryz.prog 27=some (.int .i64 0):=by kernel_rfl
theorem Kc:cY Tryz.prog 102=true:=by kernel_rfl
set_option maxRecDepth 20000 in
theorem A3 (S:Sp) (onV mayV:Value) (R:Nat) (w:World) (hon:dr eX 4 w onV S.on) (hmay:dr eX 4 w mayV S.may) (hr:dt S=true) (hR:R≤20000):
    Fn Tryz.prog 145 #[.agg #[.int .i64 S.n,onV,mayV], .int .i64 (R:Int)] w λv w'=>∃x e,v= .tuple #[x, .int .i64 e]∧Vc R S e∧(e=0→cH gz 3 158 w' w.heap.size x (eZ S)):=by
 refine cK (n:=31) Tryz.func145 rfl rfl rfl λhB=> ?_
 refine Zr<|Zy (du (c:= #[_,_,_]) rfl rfl λu W3 y k a=> ?_)
 replace hB:=Ze hB k
 refine Zw (.slice none 0 0) rfl<|ZZ rfl<|Zr<|Zi rfl<|ZC TJ (Lg R _ hR) rfl λz W8 l m=> ?_
 have o:=(Below.size hB)
 obtain⟨hB,a⟩:=l.k2 hB a
 obtain⟨bz,ba,bm,rfl,hz,hD⟩:=m
 replace hD:=fM.mono hD o
 refine Zw (.tuple #[.pointer (some ⟨bz,0,none⟩), .int .i64 0]) rfl<|Zv (c7 rfl)<|Zv (da rfl)<|Zp rfl<|ZZ rfl<|Zq<|Zr<|Zi rfl<|Zv (eV rfl rfl)<|ct<|ZQ rfl (λg=> ?_) λg=> ?_
 exact absurd rfl g
 refine cx<|Zq<|Zr<|Zp rfl<|Zv (cz rfl d9 rfl a)<|ZH (vs:=[.pointer (some ⟨bz,0,none⟩), .agg #[_,_,_]]) Uk (DC w _ _ _ _ _ S onV mayV _ hB hz hD hr hon hmay) rfl λA B p=> ?_
 obtain⟨C,r,h,rfl,b,s,i⟩:=p
 replace hB:=Below.dx hB (am _) (am _) b
 replace a:=At.dx hD b a Dd Dd
 replace hz:=At.dx hD b hz Dd Dd
 replace hD:=s
 refine Zw (.tuple #[.int .i64 (r:Int), .int .i64 h]) rfl<|Zv (c7 rfl)<|Zv (da rfl)<|Zi rfl<|ZZ rfl ?_
 have hro5:=hD.room
 have hwf5:=hD.wf
 refine Zr<|Zi rfl<|Zv (eV rfl rfl)<|ct<|ZQ rfl (λd=> ?_) λd=> ?_
 refine Zr<|Zi rfl<|Zw (.slice none 0 0) rfl<|ZZ rfl<|Zt<|dH (v:= .slice none 0 0) rfl (v1:= .int .i64 _) rfl ⟨hB,?_⟩
 exact⟨_,_,rfl,⟨_,_,i,hro5,hwf5⟩,λq=>absurd q d⟩
 refine cx ?_
 have he0:h=0:=aaS d
 refine Zr<|Zv (cz rfl d9 rfl a)<|ZC (vs:=[.agg #[_,_,_]]) TA (E9 S _ _ _ (Below.slT hB hon) (Below.slT hB hmay)) rfl λD E f j=> ?_
 have t:=(Below.size hB)
 obtain⟨hB,a⟩:=f.k2 hB a
 replace hD:=fM.ext f hD
 replace hz:=f.at hz
 rw[if_pos hr]at j
 obtain⟨xl,rfl,hol⟩:=j
 replace hol:=cH.mono hol t
 refine Zv (c7 rfl)<|Zv (da rfl)<|Zw xl rfl<|ZZ rfl<|Zt<|dH (v:=xl) rfl (v1:= .int .i64 0) rfl ⟨hB,?_⟩
 exact⟨_,_,rfl,⟨_,_,he0▸i,hro5,hwf5⟩,λ_=>hol⟩
set_option maxRecDepth 20000 in
theorem zl (S:Sp) (onV mayV:Value) (R T:Nat) (w:World) (hon:dr eX 4 w onV S.on) (hmay:dr eX 4 w mayV S.may) (hr:dt S=true) (hR:R≤20000) (hT:T≤1000000) (h4:S.n≤4) (h3:S.on.length≤3):
    Fn Tryz.prog 101 #[.agg #[.int .i64 S.n,onV,mayV], .agg #[.int .i64 (R:Int), .int .i64 (T:Int)]] w λv w'=>∃x how sp e Rr,v= .tuple #[.agg #[x, .int .i64 how, .int .i64 0, .int .i64 sp], .int .i64 e]∧cH gz 3 158 w' w.heap.size x Rr∧FwO R T S how sp e Rr:=by
 refine cK (n:=91) Tryz.func101 rfl rfl rfl λhB=> ?_
 refine Zr<|Zy (du (c:= #[_,_,_]) rfl rfl λY W3 a6 Z f=> ?_)
 replace hB:=Ze hB Z
 refine Zy (du (c:= #[_,_]) rfl rfl λaa W6 a7 ab g=> ?_)
 obtain⟨hB,f⟩:=ab.k2 hB f
 refine Zy (cM sm rfl λac W9 ad ae d=> ?_)
 have D:=ZO ad hB
 obtain⟨hB,f,g⟩:=ae.k3 hB f g
 refine ZZ rfl<|Zr<|Zv (cz rfl d9 rfl f)<|Zf rfl wW<|Zl rfl cR g rfl<|ZC (vs:=[.agg #[_,_,_], .int .i64 _]) Tm (A3 S _ _ R _ (Below.slT hB hon) (Below.slT hB hmay) hr hR) rfl λa8 a9 af ag=> ?_
 have ah:=(Below.size hB)
 obtain⟨hB,f,g,d⟩:=af.k4 hB f g d
 obtain⟨x1_3,e1_3,rfl,hno1_3,hxo1_3⟩:=ag
 have hszP:=ah
 refine Zw (.tuple #[x1_3, .int .i64 e1_3]) rfl<|Zv (c7 rfl)<|Zv (da rfl)<|Zw x1_3 rfl<|Zw (.int .i64 e1_3) rfl<|ct<|Zq<|Zr<|Zw (.int .i64 e1_3) rfl<|Zv (eV rfl rfl)<|ct<|ZQ rfl (λE=> ?_) λE=> ?_
 refine Zr<|Zv (jQ)<|Zw (.int .i64 e1_3) rfl<|Zy (cA rfl rfl ft rfl d rfl rfl λba ai aj=> ?_)
 replace hB:=Zg hB ai D
 replace d:=aj
 refine Zw (.int .i64 e1_3) rfl<|ct<|Zt<|ex rfl ft d rfl (v1:= .int .i64 e1_3) rfl ⟨hB,?_⟩
 exact⟨_,_,_,_,_,rfl,cH.nil, .inr (.inl (by obtain⟨ns',id,h⟩:=hno1_3;obtain rfl:=abG h.1 E;exact⟨rfl,ns',id,h⟩))⟩
 refine cx ?_
 have he0:e1_3=0:=aaS E
 have hxo:=cH.mono (hxo1_3 he0) hszP
 have hl2:=LD hr h4 h3
 have hl4:(eZ S).length≤4000:=by omega
 have ak:=Xw hr hl4
 have al:=kR (S:=S) hl4
 have hrl0:=OO hr
 refine Zr<|Zv (cz rfl d9 rfl f)<|Zw x1_3 rfl<|ZC (vs:=[.agg #[_,_,_],x1_3]) Sy (DI S _ _ _ (eZ S) _ (Below.slT hB hon) (Below.slT hB hmay) hxo.sl Om (WO hr)) rfl λbb bc ao I=> ?_
 obtain⟨hB,f,g,d,hxo⟩:=ao.k5 hB f g d hxo
 rw[if_pos ak]at I
 obtain⟨rv4_2,bd,rfl,hk4_2,hLO4_2⟩:=I
 replace hk4_2:=cH.mono hk4_2 (me _)
 replace hLO4_2:=LO.mono hLO4_2 (me _)
 refine Zw (.tuple #[.agg #[.int .i64 _,rv4_2], .int .i64 0]) rfl<|Zv (c7 rfl)<|Zv (da rfl)<|Zy (cM gv rfl λap bf aq ar i=> ?_)
 have au:=ZO aq hB
 obtain⟨hB,f,g,d,hxo,hk4_2,hLO4_2⟩:=ar.k7 hB f g d hxo hk4_2 hLO4_2
 refine Zy (cA rfl rfl df rfl i rfl (by exact iO (cH.one hk4_2)) λbg s av=> ?_)
 replace hB:=Zg hB s au
 replace f:=At.grownAt f i s Dd
 replace g:=At.grownAt g i s Dd
 replace d:=At.grownAt d i s Dd
 replace hxo:=cH.grownAt hxo i s Dd
 replace hk4_2:=cH.grownAt hk4_2 i s Dd
 replace hLO4_2:=LO.grownAt hLO4_2 i s Dd
 replace i:=av
 refine ZZ rfl<|Zq<|Zr<|Zi rfl<|Zv (eV rfl rfl)<|ct<|ZQ rfl (λJ=> ?_) λJ=> ?_
 exact absurd rfl J
 refine cx<|Zr<|Zv (cz rfl df rfl i)<|ZC (vs:=[.agg #[_,_]]) KB (rf _ _ _ (mL S (eZ S)) _ (cH.mono hk4_2 (me _)) (LO.mono hLO4_2 (me _)) al Om) rfl λbh bi aw ax=> ?_
 have ay:=(Below.size hB)
 obtain⟨hB,f,g,d,hxo,hk4_2,hLO4_2,i⟩:=aw.k8 hB f g d hxo hk4_2 hLO4_2 i
 obtain⟨tv7_1,T7_1,rv7_1,bj,L7_1,rfl,ht7_1,hk7_1,hLO7_1,hrd7_1,az,hln7_1,hTl7_1⟩:=ax
 skip
 replace ht7_1:=cH.mono ht7_1 ay
 refine Zw (.tuple #[tv7_1, .agg #[.int .i64 _,rv7_1], .int .i64 0]) rfl<|Zv (gj rfl)<|Zv (iy rfl)<|Zv (ik rfl)<|Zy (cM gv rfl λaA bk K aB l=> ?_)
 have aC:=ZO K hB
 have aD:=Zn K i.lt
 obtain⟨hB,f,g,d,hxo,hk4_2,hLO4_2,i,ht7_1,hk7_1,hLO7_1⟩:=aB.k11 hB f g d hxo hk4_2 hLO4_2 i ht7_1 hk7_1 hLO7_1
 refine Zw tv7_1 rfl<|Zy (cA rfl rfl df rfl l rfl (by exact iO (cH.one hk7_1)) λbl o aE=> ?_)
 replace hB:=Zg hB o aC
 replace f:=At.grownAt f l o Dd
 replace g:=At.grownAt g l o Dd
 replace d:=At.grownAt d l o Dd
 replace hxo:=cH.grownAt hxo l o Dd
 replace hk4_2:=cH.grownAt hk4_2 l o Dd
 replace hLO4_2:=LO.grownAt hLO4_2 l o Dd
 replace i:=At.grownNe i aD o
 replace ht7_1:=cH.grownAt ht7_1 l o Dd
 replace hk7_1:=cH.grownAt hk7_1 l o Dd
 replace hLO7_1:=LO.grownAt hLO7_1 l o Dd
 replace l:=aE
 refine ZZ rfl<|Zr<|Zv (cz rfl df rfl l)<|Zf rfl nJ<|Zl rfl cR g rfl<|ZC (vs:=[.agg #[_,_], .int .i64 _]) Us (x5 _ _ _ L7_1 (T:Int) _ (cH.mono hk7_1 (me _)) (LO.mono hLO7_1 (me _)) az Om (L6 hr hl4 hrd7_1) Om) rfl λbm bn aF aG=> ?_
 have bo:=adi ht7_1
 have aH:=(Below.size hB)
 obtain⟨hB,f,g,d,hxo,hk4_2,hLO4_2,i,ht7_1,hk7_1,hLO7_1,l⟩:=aF.k12 hB f g d hxo hk4_2 hLO4_2 i ht7_1 hk7_1 hLO7_1 l
 obtain⟨tv8_3,X8_3,s8_3,e8_3,rfl,ht8_3,hXl8_3,aI,hsb8_3,hfw8_3,hto8_3⟩:=Mz aG (Int.natCast_nonneg _)
 replace ht8_3:=cH.mono ht8_3 aH
 refine Zw (.tuple #[tv8_3, .int .i64 s8_3, .int .i64 e8_3]) rfl<|Zv (gj rfl)<|Zv (iy rfl)<|Zv (ik rfl)<|Zw tv8_3 rfl<|Zw (.int .i64 s8_3) rfl<|Zw (.int .i64 e8_3) rfl<|ct<|Zq<|Zr<|Zw (.int .i64 e8_3) rfl<|Zv (eV rfl rfl)<|ct<|ZQ rfl (λA=> ?_) λA=> ?_
 refine Zr<|Zv (jQ)<|Zw (.int .i64 e8_3) rfl<|Zy (cA rfl rfl ft rfl d rfl rfl λbp aJ aK=> ?_)
 replace hB:=Zg hB aJ D
 replace d:=aK
 refine Zw (.int .i64 e8_3) rfl<|ct<|Zt<|ex rfl ft d rfl (v1:= .int .i64 e8_3) rfl ⟨hB,?_⟩
 exact⟨_,_,_,_,_,rfl,cH.nil, .inr (.inr ⟨(hto8_3 A).1,he0▸hno1_3,L7_1,T7_1,hrd7_1,by have:=(hto8_3 A).2;rwa [my]at this⟩)⟩
 refine cx<|Zr<|Zy (hU (enc:=eQ) (encV:=Value.bool) λB bq aL L y=> ?_)
 have aM:=ZO aL hB
 obtain⟨hB,f,g,d,hxo,hk4_2,hLO4_2,i,ht7_1,hk7_1,hLO7_1,l⟩:=L.k12 hB f g d hxo hk4_2 hLO4_2 i ht7_1 hk7_1 hLO7_1 l
 replace ht8_3:=L.ow ht8_3
 replace y:dy eQ Value.bool _ _ (fC []):=y
 refine Zw (.map (some B)) rfl<|ct<|Zq<|Zr<|Zw tv7_1 rfl<|Zw tv8_3 rfl<|Zy (dP (v:=tv7_1) (v2:=tv8_3) rfl rfl cV eP Dd ht7_1 ht8_3.sl (lE) (m3 hB) Om Om λF br p q=> ?_)
 replace q:=cH.app (enc:=dX) rfl rfl rfl rfl q
 replace hB:=ZG hB p ht7_1
 replace f:=At.grownOw f ht7_1 p Dd
 replace g:=At.grownOw g ht7_1 p Dd
 replace d:=At.grownOw d ht7_1 p Dd
 replace hxo:=cH.grownOw hxo ht7_1 p Dd
 replace hk4_2:=cH.grownOw hk4_2 ht7_1 p Dd
 replace i:=At.grownOw i ht7_1 p Dd
 replace hk7_1:=cH.grownOw hk7_1 ht7_1 p Dd
 replace l:=At.grownOw l ht7_1 p Dd
 replace y:=dy.grownOw y ht7_1 p
 refine Zv (db (v:=F) rfl q.sl cV)<|ZZ rfl<|cy ?_
 refine cW (σ:=(Nat)) [16,16,64,70] (λj=>[(64, .int .i64 (j:Int))]) (λj W=>(Below w.heap.size w W)∧(At W Y _ 59)∧(At W aa _ 49)∧(At W ac _ 85)∧(cH gz 3 158 W w.heap.size x1_3 _)∧(cH encV 1 35 W 0 rv4_2 _)∧(At W ap _ 203)∧(cH encV 1 35 W 0 rv7_1 _)∧(At W aA _ 203)∧(cH dX 1 3 W w.heap.size F _)∧(dy eQ Value.bool W B (fC (rk [] (T7_1++X8_3) j)))∧(j≤(T7_1++X8_3).length)∧(True)) (λj=>(T7_1++X8_3).length-j) (0) ⟨rfl,trivial⟩ ⟨hB,f,g,d,hxo,hk4_2,i,hk7_1,l,q,y,(me _),trivial⟩ ?_
 rintro j bs z ⟨hB,f,g,d,hxo,hk4_2,i,hk7_1,l,q,hmk,hj,_⟩ bt aN
 have hcl:(T7_1++X8_3).length≤16000:=by rw[An];omega
 refine Zr<|Zv (dq rfl rfl)<|ct<|Zq<|ZQ rfl (λaO=> ?_) λaO=> ?_
 refine cx<|Zq<|cy<|Zr<|Zv (dp (v:=F) rfl q.sl rfl cV Om Om)<|Zv (cD (v:= .int .i64 _) rfl cR (dr.cell q.sl eD 0 Om Om 0 rfl))<|ZZ rfl<|cI<|Zw (.map (some B)) rfl<|Zi rfl ?_
 refine gU (dd:=none) rfl rfl rfl (fN (enc:=eQ) (encV:=Value.bool) (k:=((T7_1++X8_3).getD j 0)) (v:=true) rfl rfl rfl mX gY (λa=>⟨a,rfl⟩) fV hmk (λbu r aP=> ?_))
 replace hB:=Zg hB r aM
 replace f:=At.grownMap f hmk r
 replace g:=At.grownMap g hmk r
 replace d:=At.grownMap d hmk r
 replace hxo:=cH.grownMap hxo hmk r
 replace hk4_2:=cH.grownMap hk4_2 hmk r
 replace i:=At.grownMap i hmk r
 replace hk7_1:=cH.grownMap hk7_1 hmk r
 replace l:=At.grownMap l hmk r
 replace q:=cH.grownMap q hmk r
 replace hmk:=aP
 rw[kb]at hmk
 refine ct<|ZT rfl rfl rfl ?_
 exact aN _ _ (j+1) Za ⟨rfl,trivial⟩ ⟨hB,f,g,d,hxo,hk4_2,i,hk7_1,l,q,(by exact hmk),Om,trivial⟩ Zo
 refine cT ?_
 have bv:=Below.slT hB hon
 have bw:=Below.slT hB hmay
 have M:=hB
 replace hB:=Below.refl z.heap.size z
 obtain rfl:j=(T7_1++X8_3).length:=by omega
 refine Zr<|Zw (.int .i64 s8_3) rfl<|Zv (zb (h0:=rfl) (k0:=rfl) (h1:=rfl) (k1:=rfl) (c0_0:= .int .i64 1) (c1_0:= .int .i64 s8_3))<|Zy (cM sm rfl λaQ bx aR aS m=> ?_)
 have N:=ZO aR hB
 replace hB:=Ze hB aS
 refine Zy (cA rfl rfl ft rfl m rfl rfl λbz aT aU=> ?_)
 replace hB:=Zg hB aT N
 replace m:=aU
 refine ct<|Zq<|Zr<|Zw x1_3 rfl<|Zv (db (v:=x1_3) rfl ((Below.ow hB hxo)).sl dM)<|ZZ rfl<|cy ?_
 refine cW (σ:=(Nat)×(Value)) [18,19,75,89] (λ(k,v0)=>[(75, .int .i64 (k:Int))]) (λsg W=>match sg with|(k,v0)=>(Below z.heap.size z W)∧(At W aQ #[v0, .int .i64 1, .int .i64 0, .int .i64 s8_3] 85)∧(cH gz 3 158 W z.heap.size v0 (A9 (eZ S) (rk [] (T7_1++X8_3) (T7_1++X8_3).length) k))∧(k≤(eZ S).length)∧(True)) (λ(k,v0)=>(eZ S).length-k) ((0, .slice none 0 0)) ⟨rfl,trivial⟩ ⟨hB,m,cH.nil,(me _),trivial⟩ ?_
 rintro⟨k,v0⟩ bA bB ⟨hB,m,ho,hk,_⟩ bC O
 refine Zr<|Zv (dq rfl rfl)<|ct<|Zq<|ZQ rfl (λaV=> ?_) λaV=> ?_
 refine cx<|Zq<|cy<|Zr<|Zi rfl<|Zv (dp (v:=x1_3) rfl ((Below.ow hB hxo)).sl rfl dM Om Om)<|Zv (jb rfl dY (dr.cell ((Below.ow hB hxo)).sl eC ⟨⟨0,0⟩,0⟩ Om Om 0 rfl) (dr.cell ((Below.ow hB hxo)).sl eC ⟨⟨0,0⟩,0⟩ Om Om 1 rfl) (dr.cell ((Below.ow hB hxo)).sl eC ⟨⟨0,0⟩,0⟩ Om Om 2 rfl))<|Zy (cM jP rfl λaW bD P aX C=> ?_)
 have aY:=ZO P hB
 have aZ:=acm (b:=aW) ho (aaR P.symm)
 obtain⟨hB,m,ho⟩:=aX.k3 hB m ho
 refine Zi rfl<|Zy (cA rfl rfl dY rfl C rfl rfl λbE G a0=> ?_)
 replace hB:=Zg hB G aY
 replace m:=At.grownAt m C G Dd
 replace ho:=ab3 ho aZ G
 replace C:=a0
 refine ct<|Zr<|Zw (.map (some B)) rfl<|Zi rfl<|Zv (fX (enc:=eQ) (encV:=Value.bool) (v0:=false) (k:=_) rfl rfl mX gY (λa=>⟨a,rfl⟩) fV rg rfl (ac1 hB hmk))<|ct<|ZQ rfl (λH=> ?_) λH=> ?_
 refine cI<|Zf rfl tt<|ZL v0 rfl nn m rfl<|Zv (cz rfl dY rfl C)<|Zy (ez (u:= .agg #[_,_,_]) rfl dM ij rfl Dd Dd λa1 bF bG a2 a3=> ?_)
 obtain⟨hB,m,ho⟩:=a2.k3 hB m ho
 refine Zy (dP (v:=v0) (v2:= .slice (some ⟨a1,0,none⟩) 1 1) rfl rfl dM ij Dd ho (eJ a3 rfl) rfl (m3 hB) (by have:=JO (eZ S) (rk [] (T7_1++X8_3) (T7_1++X8_3).length) k;omega) (by have:=JO (eZ S) (rk [] (T7_1++X8_3) (T7_1++X8_3).length) k;omega) λQ bH U t=> ?_)
 replace t:=cH.snoc (enc:=gz) (x:=((eZ S).getD k ⟨⟨0,0⟩,0⟩)) rfl rfl rfl rfl t
 replace hB:=ZG hB U ho
 replace m:=At.grownOw m ho U Dd
 refine Zf rfl tt<|Zy (de (v:=Q) rfl rfl nn (dr.one t.sl) m fF λbI V a4=> ?_)
 replace hB:=Zg hB V N
 replace t:=cH.grownAt t m V Dd
 replace m:=a4
 replace m:At _ _ #[_,_,_,_] _:=m
 refine ct<|ZT rfl rfl rfl ?_
 exact O _ _ ((k+1,Q)) Za ⟨rfl,trivial⟩ ⟨hB,(by exact m),(by (rw[←Z6 (uS H)];exact t)),Om,trivial⟩ (by show (eZ S).length-(k+1)<(eZ S).length-k;omega)
 refine cx<|ZT rfl rfl rfl ?_
 exact O _ _ ((k+1,v0)) Za ⟨rfl,trivial⟩ ⟨hB,(by exact m),(by (rw[←aaB (rE H)];exact ho)),Om,trivial⟩ (by show (eZ S).length-(k+1)<(eZ S).length-k;omega)
 refine cT ?_
 replace d:=On hB d
 have hzs:=go (am _) (Below.size M)
 replace ho:=cH.mono ho hzs
 replace hB:=Below.trans M (Below.mono hB hzs)
 obtain rfl:k=(eZ S).length:=by omega
 refine Zr<|Zv (cz rfl ft rfl m)<|Zy (cA rfl rfl ft rfl d rfl (by exact sx (cH.one ho)) λbJ X a5=> ?_)
 replace hB:=Zg hB X D
 replace ho:=cH.grownAt ho d X Dd
 replace d:=a5
 refine ZZ rfl<|Zt<|ex rfl ft d rfl (v1:= .int .i64 0) rfl ⟨hB,?_⟩
 exact⟨_,_,_,_,_,rfl,ho, .inl ⟨rfl,rfl,aI,hsb8_3,he0▸hno1_3,Sa hr hl4 hrd7_1 (hfw8_3 (aaS A)) (λc=>WP) (Ab List.nodup_nil _)⟩⟩
theorem ol (S:Sp) (onV mayV:Value) (p q:Int) (bs be:Nat) (w:World) (hon:dr eX 4 w onV S.on) (hmay:dr eX 4 w mayV S.may) (hr:dt S=true) (hsp:At w bs #[.int .i64 S.n,onV,mayV] 59) (hbe:At w be #[.int .i64 q] 27):
    Fn Tryz.prog 102 #[.int .i64 p, .pointer (some ⟨bs,0,none⟩), .pointer (some ⟨be,0,none⟩)] w λv w'=>∃x,v= .tuple #[.agg #[x, .int .i64 2, .int .i64 q, .int .i64 p], .int .i64 0]∧cH gz 3 158 w' w.heap.size x (lp S (m8 S)):=by
 refine cK (n:=26) Tryz.func102 rfl rfl rfl λhB=> ?_
 refine Zr<|Zy (cM sm rfl λm W3 e f a=> ?_)
 have g:=ZO e hB
 replace hB:=Ze hB f
 refine ZZ rfl<|Zr<|Zv (cz rfl d9 rfl (On hB hsp))<|ZC (vs:=[.agg #[_,_,_]]) T3 (CX S _ _ _ (Below.slT hB hon) (Below.slT hB hmay)) rfl λo W8 h b=> ?_
 have i:=(Below.size hB)
 obtain⟨hB,a⟩:=h.k2 hB a
 rw[if_pos hr]at b
 obtain⟨xpl,rfl,hpl⟩:=b
 replace hpl:=cH.mono hpl i
 refine Zw (.tuple #[xpl, .int .i64 0]) rfl<|Zv (c7 rfl)<|Zv (da rfl)<|Zw xpl rfl<|ZZ rfl<|Zr<|Zv (cz rfl d9 rfl (On hB hsp))<|Zw xpl rfl<|ZC (vs:=[.agg #[_,_,_],xpl]) Sx (Gh S _ _ _ (m8 S) _ (Below.slT hB hon) (Below.slT hB hmay) hpl.sl (by have:=Mh hr;omega) (Tt hr) (by have:=(dw.1 hr);omega)) rfl λr s j c=> ?_
 have t:=adi hpl
 have k:=(Below.size hB)
 obtain⟨hB,a⟩:=j.k2 hB a
 rw[if_pos (wz hr)]at c
 obtain⟨xtn,rfl,htn⟩:=c
 replace htn:=cH.mono htn k
 refine Zw (.tuple #[xtn, .int .i64 0]) rfl<|Zv (c7 rfl)<|Zv (da rfl)<|Zw xtn rfl<|ZZ rfl<|Zr<|Zw xtn rfl<|Zl rfl fe (On hB hbe) rfl<|Zi rfl<|Zv (uG (h0:=rfl) (k0:=dr.cells htn.sl) (h1:=rfl) (k1:=rfl) (h2:=rfl) (k2:=rfl) (h3:=rfl) (k3:=rfl) (c0_0:=xtn) (c1_0:= .int .i64 2) (c2_0:= .int .i64 _) (c3_0:= .int .i64 _))<|Zi rfl<|Zy (cA rfl rfl ft rfl a rfl (by exact sx (cH.one htn)) λu d l=> ?_)
 replace hB:=Zg hB d g
 replace htn:=cH.grownAt htn a d Dd
 replace a:=l
 refine ZZ rfl<|Zt<|ex rfl ft a rfl (v1:= .int .i64 0) rfl ⟨hB,?_⟩
 exact⟨_,rfl,htn⟩
theorem wX (S:Sp) (onV mayV:Value) (b0 b1:Int) (w:World) (hon:dr eX 4 w onV S.on) (hmay:dr eX 4 w mayV S.may) (hs:dt S=true→S.n≤4∧S.on.length≤3):
    Fn Tryz.prog 38 #[.agg #[.int .i64 S.n,onV,mayV], .agg #[.int .i64 b0, .int .i64 b1]] w λv w'=>if dt S=true∧oK b0 b1 then ∃x how why sp Rr,v= .tuple #[.agg #[x, .int .i64 how, .int .i64 why, .int .i64 sp], .int .i64 0]∧cH gz 3 158 w' w.heap.size x Rr∧JE b0.toNat b1.toNat S how why sp Rr else v= .tuple #[.agg #[.slice none 0 0, .int .i64 0, .int .i64 0, .int .i64 0], .int .i64 1]:=by
 refine cK (n:=56) Tryz.func38 rfl rfl rfl λhB=> ?_
 refine Zr<|Zy (du (c:= #[_,_,_]) rfl rfl λi W3 ay D b=> ?_)
 replace hB:=Ze hB D
 refine Zy (du (c:= #[_,_]) rfl rfl λaz W6 aA E d=> ?_)
 obtain⟨hB,b⟩:=E.k2 hB b
 refine Zy (cM sm rfl λaB W9 F G a=> ?_)
 have j:=ZO F hB
 obtain⟨hB,b,d⟩:=G.k3 hB b d
 refine ZZ rfl<|Zq<|Zr<|Zv (cz rfl d9 rfl b)<|ZC (vs:=[.agg #[_,_,_]]) oN (iQ S _ _ _ (Below.slT hB hon) (Below.slT hB hmay)) rfl λaC aD H I=> ?_
 obtain⟨hB,b,d,a⟩:=H.k4 hB b d a
 obtain rfl:=I
 refine Zv (eK rfl)<|ZX rfl (λr=> ?_) λr=> ?_
 refine Zs<|Zs<|Zs<|Zb rfl<|Zb rfl<|Zs<|Zs<|Zs<|Zb rfl<|Zb rfl<|Zs<|Zs<|Zs<|Zb rfl ?_
 refine Zb rfl<|Zs<|Zs<|Zs<|Zb rfl<|ct<|cN rfl ?_
 have hno:¬(dt S=true∧oK b0 b1):=λh=>by rw[kh r]at h;exact Bool.noConfusion h.1
 refine Zr<|Zv (jQ)<|Zy (cA rfl rfl ft rfl a rfl rfl λaE J K=> ?_)
 replace hB:=Zg hB J j
 replace a:=K
 refine ZZ rfl<|Zt<|ex rfl ft a rfl (v1:= .int .i64 1) rfl ⟨hB,?_⟩
 rw[if_neg hno]
 refine Zf rfl wW<|Zl rfl cR d rfl<|Zv (dq rfl rfl)<|Zb rfl<|ZX rfl (λL=> ?_) λL=> ?_
 refine Zs<|Zs<|Zs<|Zb rfl<|Zb rfl<|Zs<|Zs<|Zs<|Zb rfl<|Zb rfl<|Zs<|Zs<|Zs<|Zb rfl ?_
 refine ct<|cN rfl ?_
 have hno:¬(dt S=true∧oK b0 b1):=λh=>by have:=h.2;unfold oK at this;omega
 refine Zr<|Zv (jQ)<|Zy (cA rfl rfl ft rfl a rfl rfl λaF M N=> ?_)
 replace hB:=Zg hB M j
 replace a:=N
 refine ZZ rfl<|Zt<|ex rfl ft a rfl (v1:= .int .i64 1) rfl ⟨hB,?_⟩
 rw[if_neg hno]
 refine Zf rfl wW<|Zl rfl cR d rfl<|Zv (gQ rfl rfl)<|Zb rfl<|ZX rfl (λO=> ?_) λO=> ?_
 refine Zs<|Zs<|Zs<|Zb rfl<|Zb rfl<|Zs<|Zs<|Zs<|Zb rfl<|ct<|cN rfl ?_
 have hno:¬(dt S=true∧oK b0 b1):=λh=>by have:=h.2;unfold oK at this;omega
 refine Zr<|Zv (jQ)<|Zy (cA rfl rfl ft rfl a rfl rfl λaG P Q=> ?_)
 replace hB:=Zg hB P j
 replace a:=Q
 refine ZZ rfl<|Zt<|ex rfl ft a rfl (v1:= .int .i64 1) rfl ⟨hB,?_⟩
 rw[if_neg hno]
 refine Zf rfl nJ<|Zl rfl cR d rfl<|Zv (dq rfl rfl)<|Zb rfl<|ZX rfl (λU=> ?_) λU=> ?_
 refine Zs<|Zs<|Zs<|Zb rfl<|ct<|cN rfl ?_
 have hno:¬(dt S=true∧oK b0 b1):=λh=>by have:=h.2;unfold oK at this;omega
 refine Zr<|Zv (jQ)<|Zy (cA rfl rfl ft rfl a rfl rfl λaH V W=> ?_)
 replace hB:=Zg hB V j
 replace a:=W
 refine ZZ rfl<|Zt<|ex rfl ft a rfl (v1:= .int .i64 1) rfl ⟨hB,?_⟩
 rw[if_neg hno]
 refine Zf rfl nJ<|Zl rfl cR d rfl<|Zv (gQ rfl rfl)<|Zb rfl<|ct<|ZQ rfl (λX=> ?_) λX=> ?_
 have hno:¬(dt S=true∧oK b0 b1):=λh=>by have:=h.2;unfold oK at this;omega
 refine Zr<|Zv (jQ)<|Zy (cA rfl rfl ft rfl a rfl rfl λaI Y Z=> ?_)
 replace hB:=Zg hB Y j
 replace a:=Z
 refine ZZ rfl<|Zt<|ex rfl ft a rfl (v1:= .int .i64 1) rfl ⟨hB,?_⟩
 rw[if_neg hno]
 refine cx ?_
 have hr:dt S=true:=lA r
 have hm:oK b0 b1:=⟨⟨by omega,by omega⟩,by omega,by omega⟩
 obtain⟨R,T,rfl,rfl,hbd⟩:=Wr hm
 refine Zr<|Zv (cz rfl d9 rfl b)<|Zv (cz rfl s7 rfl d)<|ZC (vs:=[.agg #[_,_,_], .agg #[_,_]]) RS (zl S _ _ R T _ (Below.slT hB hon) (Below.slT hB hmay) hr hbd.2.1 hbd.2.2 (hs hr).1 (hs hr).2) rfl λaJ aK aa ab=> ?_
 have ac:=(Below.size hB)
 obtain⟨hB,b,d,a⟩:=aa.k4 hB b d a
 obtain⟨x3_2,how3_2,sp3_2,e3_2,Rr3_2,rfl,e,hfo3_2⟩:=ab
 replace e:=cH.mono e ac
 refine Zw (.tuple #[.agg #[x3_2, .int .i64 how3_2, .int .i64 0, .int .i64 sp3_2], .int .i64 e3_2]) rfl<|Zv (c7 rfl)<|Zv (da rfl)<|Zy (cM sm rfl λaL aM z ad g=> ?_)
 have ae:=ZO z hB
 have af:=Zn z a.lt
 obtain⟨hB,b,d,a,e⟩:=ad.k5 hB b d a e
 refine Zy (cM Wq rfl λk aN ag ah f=> ?_)
 have ai:=ZO ag hB
 obtain⟨hB,b,d,a,e,g⟩:=ah.k6 hB b d a e g
 refine Zy (cA rfl rfl ft rfl g rfl (by exact sx (cH.one e)) λaO l aj=> ?_)
 replace hB:=Zg hB l ae
 replace b:=At.grownAt b g l Dd
 replace d:=At.grownAt d g l Dd
 replace a:=At.grownNe a af l
 replace e:=cH.grownAt e g l Dd
 replace f:=At.grownAt f g l Dd
 replace g:=aj
 refine Zy (de (v:= .int .i64 e3_2) rfl rfl fe rfl f Lp λaP m ak=> ?_)
 replace hB:=Zg hB m ai
 replace b:=At.grownAt b f m Dd
 replace d:=At.grownAt d f m Dd
 replace a:=At.grownAt a f m Dd
 replace e:=cH.grownAt e f m Dd
 replace g:=At.grownAt g f m Dd
 replace f:=ak
 replace f:At _ _ #[_] _:=f
 refine ct<|Zr<|Zv (eU (vs:= #[.pointer (some ⟨i,0,none⟩), .pointer (some ⟨k,0,none⟩)]) Bi)<|Zw (.func (.func 102) #[] #[.pointer (some ⟨i,0,none⟩), .pointer (some ⟨k,0,none⟩)]) rfl<|ct<|Zq<|Zr<|ZL (.int .i64 e3_2) rfl fe f rfl<|ct<|cy<|Zr<|Zv (dO rfl rfl)<|Zb rfl<|ct ?_
 refine ZQ rfl (λs=> ?_) λs=> ?_
 refine Zr<|Zv (cz rfl ft rfl g)<|Zy (cA rfl rfl ft rfl a rfl (by exact sx (cH.one e)) λaQ A al=> ?_)
 replace hB:=Zg hB A j
 replace e:=cH.grownAt e a A Dd
 replace a:=al
 refine ZZ rfl<|Zt<|ex rfl ft a rfl (v1:= .int .i64 0) rfl ⟨hB,?_⟩
 (rw[if_pos ⟨hr,hm⟩];exact⟨_,_,_,_,_,rfl,e,abU hfo3_2 s⟩)
 refine Zr<|Zv (dO rfl rfl)<|Zb rfl<|ct<|ZQ rfl (λt=> ?_) λt=> ?_
 have u:=Below.slT hB hon
 have y:=Below.slT hB hmay
 refine Zr<|Zw (.func (.func 102) #[] #[.pointer (some ⟨i,0,none⟩), .pointer (some ⟨k,0,none⟩)]) rfl<|Zf rfl nJ<|Zl rfl cR d rfl ?_
 refine oM (dd:=some 49) rfl rfl rfl (iu (q:=102) (first:= #[]) (cap:= #[.pointer (some ⟨i,0,none⟩), .pointer (some ⟨k,0,none⟩)]) (vs:= #[.int .i64 _, .pointer (some ⟨i,0,none⟩), .pointer (some ⟨k,0,none⟩)]) rfl Kc Hh) (ol S _ _ _ _ _ _ _ u y hr b f) (λaR aS ao ap=> ?_)
 have aq:=(Below.size hB)
 obtain⟨hB,a⟩:=ao.k2 hB a
 obtain⟨x9_3,rfl,o⟩:=ap
 replace o:=cH.mono o aq
 refine Zv (c7 rfl)<|Zv (da rfl)<|Zy (cA rfl rfl ft rfl a rfl (by exact sx (cH.one o)) λaT B ar=> ?_)
 replace hB:=Zg hB B j
 replace o:=cH.grownAt o a B Dd
 replace a:=ar
 refine ZZ rfl<|Zt<|ex rfl ft a rfl (v1:= .int .i64 0) rfl ⟨hB,?_⟩
 (rw[if_pos ⟨hr,hm⟩];exact⟨_,_,_,_,_,rfl,o,abm hfo3_2 t⟩)
 refine cx ?_
 have u:=Below.slT hB hon
 have y:=Below.slT hB hmay
 refine Zr<|Zw (.func (.func 102) #[] #[.pointer (some ⟨i,0,none⟩), .pointer (some ⟨k,0,none⟩)]) rfl ?_
 refine oM (dd:=some 53) rfl rfl rfl (iu (q:=102) (first:= #[]) (cap:= #[.pointer (some ⟨i,0,none⟩), .pointer (some ⟨k,0,none⟩)]) (vs:= #[.int .i64 0, .pointer (some ⟨i,0,none⟩), .pointer (some ⟨k,0,none⟩)]) rfl Kc Hh) (ol S _ _ _ _ _ _ _ u y hr b f) (λaU aV au av=> ?_)
 have aw:=(Below.size hB)
 obtain⟨hB,a⟩:=au.k2 hB a
 obtain⟨x10_1,rfl,p⟩:=av
 replace p:=cH.mono p aw
 refine Zv (c7 rfl)<|Zv (da rfl)<|Zy (cA rfl rfl ft rfl a rfl (by exact sx (cH.one p)) λaW C ax=> ?_)
 replace hB:=Zg hB C j
 replace p:=cH.grownAt p a C Dd
 replace a:=ax
 refine ZZ rfl<|Zt<|ex rfl ft a rfl (v1:= .int .i64 0) rfl ⟨hB,?_⟩
 (rw[if_pos ⟨hr,hm⟩];exact⟨_,_,_,_,_,rfl,p,Yq hfo3_2 s t⟩)
end
section
section
variable {Tj Ti T:TypeId} {N N' bj b:Nat} {w w':World} {c cj:Array Value}
theorem adF (hX:Dx Tj N [bj] w w') (hj:At w bj cj Tj) (k:At w b c T) (hT:T≠Tj):At w' b c T:=by
 have hne:=adT k hj hT
 unfold At at*
 rw[hX.block b (gX k) (.inr ⟨by simpa using hne,λc' fr e=>by rw[k]at e;simp at e;exact hT e.2.1⟩)]
 exact k
theorem adG {α:Type} {enc:α→List Value} {sz:Nat} {v:Value} {l:List α} (hX:Dx Tj N [bj] w w') (hj:At w bj cj Tj) (ho:cH enc sz T w N' v l) (hT:T≠Tj):cH enc sz T w' N' v l:=by
 obtain⟨q1,q2|⟨g,cap,cur,q3,hg,hh,q⟩⟩:=ho
 ·exact⟨q1, .inl q2⟩
 ·exact⟨q1, .inr ⟨g,cap,cur,q3,hg,adF (c:=cur) hX hj hh hT,q⟩⟩
theorem gf.dxj {ls:List Ln} (hX:Dx Tj N [bj] w w') (hj:At w bj cj Tj) (k:gf Ti N' w vs ls) (hT:Ti≠Tj):gf Ti N' w' vs ls:=⟨k.len,k.c,λi hi=>adG hX hj (k.o i hi) hT⟩
theorem lk.mono (h:lk P g vs w Post) (hp:∀v w',Post v w'→Post' v w'):lk P g vs w Post':=
 ⟨Calls.mono h.out λ_ _ ⟨v,he,hq⟩=>⟨v,he,hp _ _ hq⟩⟩
theorem At.dxk {xs:List Nat} (hX:Dx Tj N xs w w') (k:At w b c T) (hb:b∉xs) (hT:T≠Tj):At w' b c T:=by
 unfold At at*
 rw[hX.block b (gX k) (.inr ⟨hb,λc' fr e=>by rw[k]at e;simp at e;exact hT e.2.1⟩)]
 exact k
theorem At.dx2 (hX:Dx Tj N [bj,bg] w w') (hj:At w bj cj Tj) (hg:At w bg cg Tg) (k:At w b c T) (hT:T≠Tj) (hT2:T≠Tg):At w' b c T:=by
 grind [adT,At.dxk]
theorem cH.dx2 {α:Type} {enc:α→List Value} {sz:Nat} {v:Value} {l:List α} {bg:Nat} {cg:Array Value} {Tg:TypeId} (hX:Dx Tj N [bj,bg] w w') (hj:At w bj cj Tj) (hg:At w bg cg Tg) (ho:cH enc sz T w N' v l) (hT:T≠Tj) (hT2:T≠Tg):cH enc sz T w' N' v l:=by
 obtain⟨q1,q2|⟨g,cap,cur,q3,hg',hh,q⟩⟩:=ho
 ·exact⟨q1, .inl q2⟩
 ·exact⟨q1, .inr ⟨g,cap,cur,q3,hg',At.dx2 (c:=cur) hX hj hg hh hT hT2,q⟩⟩
theorem Dx.below2 {xs:List Nat} (h:Dx T' N xs w w') (hN:N≤w.heap.size):Go.RowKit.Below N w w':=Below.dx (Go.RowKit.Below.refl N w) (am _) hN h
theorem acK (h:w.grownBy w' (some bj)) (hN:N≤bj):Dx T' N [bj] w w':=Dx.grown h fF hN
end
structure EI (b K:Nat) (w w':World):Prop where
 g:w.grownBy w' (some b)
 keep:∀c T,At w b c T→∃c',At w' b c' T∧∀o,o<K→c'[o]? =c[o]?
section
variable {b K o:Nat} {w w' w0:World} {c:Array Value} {T:TypeId} {v:Value}
theorem EI.refl:EI b K w w:=⟨World.grownBy.refl _ _,λc T h=>⟨c,h,λ_ _=>rfl⟩⟩
theorem adO (h:EI b K w0 w) (k:At w b c T) (hG:w.grownBy w' (some b)) (k':At w' b (c.setIfInBounds o v) T) (ho:K≤o):EI b K w0 w':=⟨cB h.g hG,λc0 T0 k0=>by
 obtain⟨c1,h1,h2⟩:=h.keep c0 T0 k0
 have e:c1=c∧T0=T:=by
  unfold At at h1 k
  rw[h1]at k
  simp at k
  exact k
 obtain⟨rfl,rfl⟩:=e
 exact⟨_,k',λq hq=>by rw[adh (by omega)];exact h2 q hq⟩⟩
theorem EI.cell (h:EI b K w0 w) (k:At w0 b c T) (ho:o<K) (hc:c[o]? =some v):w.cell? ⟨b,o,none⟩=some v:=by
 obtain⟨c',h1,h2⟩:=h.keep c T k
 grind [At.cell]
end
def qF5 (q0 q1 q2 q3 q4:Nat):Nat→Nat
 |0=>q0|1=>q1|2=>q2|3=>q3|_=>q4
def cF5 (c0 c1 c2 c3 c4:Array Value):Nat→Array Value
 |0=>c0|1=>c1|2=>c2|3=>c3|_=>c4
def SY (q0 q1 q2 q3 q4:Nat) (c0 c1 c2 c3 c4:Array Value):List Value:=[.func (.func q0) #[] c0, .func (.func q1) #[] c1, .func (.func q2) #[] c2, .func (.func q3) #[] c3, .func (.func q4) #[] c4]
section
variable {P:Program} {q0 q1 q2 q3 q4 k:Nat} {c0 c1 c2 c3 c4:Array Value}
theorem Jl (hk:k<5):(SY q0 q1 q2 q3 q4 c0 c1 c2 c3 c4).getD k undef= .func (.func (qF5 q0 q1 q2 q3 q4 k)) #[] (cF5 c0 c1 c2 c3 c4 k):=by
 match k,hk with
 |0,_|1,_|2,_|3,_|4,_=>rfl
theorem fB5 (h0:cY P q0=true) (h1:cY P q1=true) (h2:cY P q2=true) (h3:cY P q3=true) (h4:cY P q4=true):cY P (qF5 q0 q1 q2 q3 q4 k)=true:=by
 match k with
 |0=>exact h0
 |1=>exact h1
 |2=>exact h2
 |3=>exact h3
 |_+4=>exact h4
end
theorem Z4 (u0 u1 u2 u3 u4:Value) (z:Array Value) (h0:u0.cells= #[u0]) (h1:u1.cells= #[u1]) (h2:u2.cells= #[u2]) (h3:u3.cells= #[u3]) (h4:u4.cells= #[u4]) (hz:z.size=5):Instr.fill (λi=>some (i*1,1)) z [(0,u0),(1,u1),(2,u2),(3,u3),(4,u4)]=some #[u0,u1,u2,u3,u4]:=by
 rw[fU 1 0 u0 _ z (by rw[h0];rfl) (by omega),fU 1 1 u1 _ _ (by rw[h1];rfl) (by simp[h0];omega),fU 1 2 u2 _ _ (by rw[h2];rfl) (by simp[h0,h1];omega),fU 1 3 u3 _ _ (by rw[h3];rfl) (by simp[h0,h1,h2];omega),fU 1 4 u4 _ _ (by rw[h4];rfl) (by simp[h0,h1,h2,h3];omega),Instr.fill,h0,h1,h2,h3,h4]
 simp_all
section
variable {P:Program} {f:Nat→Value} {w w':World} {d:Option Nat} {ty:TypeId} {ps:String} {af:Array Edge} {g:Option (Nat×Bool)} {t e T:TypeId} {by_ N b:Nat} {K:Value→World→Prop}
theorem OC (hx0:dm f x0=u0) (hx1:dm f x1=u1) (hx2:dm f x2=u2) (hx3:dm f x3=u3) (hx4:dm f x4=u4) (hT:fj P t=some (e,1,by_)) (hz:(d4 P e).map (λz=>z.cells.size)=some 1) (h0:u0.cells= #[u0]) (h1:u1.cells= #[u1]) (h2:u2.cells= #[u2]) (h3:u3.cells= #[u3]) (h4:u4.cells= #[u4])
  (hK:∀b w',b=w.heap.size→dA w w'→At w' b #[u0,u1,u2,u3,u4] e→K (.slice (some ⟨b,0,none⟩) 5 5) w'):Yd P ⟨d, .buildSlice t 5 #[(0,x0),(1,x1),(2,x2),(3,x3),(4,x4)],ty,ps,af,g⟩ f w K:=by
 obtain⟨z,hz,hzs⟩:=an.1 hz
 unfold d4 at hz
 obtain⟨i,hi,hzz⟩:=we.1 hz
 unfold fj at hT
 cases hun:P.underlying t with
 |none=>simp[hun]at hT
 |some desc=>
  cases desc<;>simp[hun]at hT
  rename_i e'
  obtain⟨i',hi',rfl,q1,rfl⟩:=hT
  obtain rfl:i'=i:=by rw[hi]at hi';exact(aaK hi').symm
  refine .val (w':=w.alloc (.cells #[u0,u1,u2,u3,u4] e')) ?_ (hK w.heap.size _ rfl (dA.alloc w _) (lZ w _ _))
  have hf:=Z4 u0 u1 u2 u3 u4 ((Array.range (5*1)).map (z.cells[·%z.cells.size]!)) h0 h1 h2 h3 h4 fF
  simp only[acQ]at hf
  simp[execOp,hx0,hx1,hx2,hx3,hx4,Instr.buildSlice,run_underlying hun,sizeOf,typeInfo,hi,q1,zeroValue,hzz,newRow,hf]
theorem Fe (k:At w b #[f0,f1,f2,f3,f4] T) (hN:N≤b):cH encV 1 T w N (.slice (some ⟨b,0,none⟩) 5 5) [f0,f1,f2,f3,f4]:=
 ⟨rfl, .inr ⟨b,5,_,rfl,hN,k,am _,by decide,rfl,rfl⟩⟩
end
end
end Go.Proofs.YtedeonkjellcpaaGreatDoor
