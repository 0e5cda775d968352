/- Words and walks of the row. No condition. -/
import Derived.Test.YtedeonkjellcpaaGreatDoorRunM
namespace Go.Proofs.YtedeonkjellcpaaGreatDoor
open Go Go.RowKit
set_option autoImplicit true
set_option relaxedAutoImplicit true
set_option linter.unusedVariables false
set_option linter.unusedSimpArgs false
section
theorem dD:eN Tryz.prog 125=true:=by kernel_rfl
theorem Ei:cY Tryz.prog 15=true:=by kernel_rfl
theorem mA:eb Tryz.prog 127 0=some 0:=by kernel_rfl
theorem ze:eb Tryz.prog 127 5=some 19:=by kernel_rfl
theorem e7:eb Tryz.prog 127 6=some 20:=by kernel_rfl
theorem jU:eb Tryz.prog 127 1=some 4:=by kernel_rfl
theorem Es:cY Tryz.prog 25=true:=by kernel_rfl
theorem j1:eb Tryz.prog 127 2=some 8:=by kernel_rfl
theorem Xb:cY Tryz.prog 38=true:=by kernel_rfl
theorem mf:eb Tryz.prog 127 3=some 11:=by kernel_rfl
theorem Nq:cY Tryz.prog 39=true:=by kernel_rfl
theorem Wz:cY Tryz.prog 14=true:=by kernel_rfl
theorem nS:eb Tryz.prog 127 4=some 15:=by kernel_rfl
theorem wB:eb Tryz.prog 52 0=some 0:=by kernel_rfl
theorem F6 (N bj bp:Nat) (bt:Nat) (s:List UInt8) (w:World) (hN0:N≤w.heap.size) (hgl:∀W,Below N w W→Gl W) (hbp:At w bp #[.pointer (some ⟨bj,0,none⟩)] 125) (loj:N≤bj) (hbj:At w bj #[.int .i64 0, .int .i64 0, .int .i64 0, .slice none 0 0, .int .i64 0, .int .i64 0, .int .i64 0, .slice none 0 0, .int .i64 0, .slice none 0 0, .slice none 0 0, .slice none 0 0, .int .i64 0, .int .i64 0, .int .i64 0, .string ⟨#[]⟩, .int .i64 0, .int .i64 0, .int .i64 0, .int .i64 0, .int .i64 0] 127) (hbt:At w bt #[ea s] 9) (hsl:s.length≤100000):
    lk Tryz.prog 69 #[.pointer (some ⟨bt,0,none⟩), .pointer (some ⟨bp,0,none⟩)] w λv w'=>Dx 127 N [bj] w w'∧(∃lv vs,At w' bj #[.int .i64 (cF s).1.kind, .int .i64 (cF s).1.ni, .int .i64 (cF s).1.no,lv, .int .i64 0, .int .i64 0, .int .i64 0, .slice none 0 0, .int .i64 0, .slice none 0 0, .slice none 0 0, .slice none 0 0, .int .i64 0, .int .i64 0, .int .i64 0, .string ⟨#[]⟩, .int .i64 0, .int .i64 0, .int .i64 0, .int .i64 ((cF s).2.1:Int), .int .i64 (cF s).2.2] 127∧cH il 3 37 w' N lv vs∧gf 3 N w' vs (cF s).1.ls):=by
 refine dL (n:=17) (N:=N) Tryz.func69 rfl rfl rfl λhB=> ?_
 have hX:Dx 127 N [bj] w w:=Dx.refl
 refine eR (λa b=>a.grownBy b (some bj)) fx (λW1 j=> ?_)
 obtain⟨hbp,hbj,hbt,hX⟩:=j.k4 hbp hbj hbt hX
 replace hB:=cX hB j hN0
 have g:=hbj
 have hS:=World.grownBy.refl W1 (some bj)
 refine Tk 0 rfl (λ_ hq=>cD (v:= .pointer (some ⟨bj,0,none⟩)) rfl dD (At.cell (At.grownAt hbp g hq Dd) rfl)) hS<|Tk 1 rfl (λ_ hq=>cD (v:= .pointer (some ⟨bj,0,none⟩)) rfl dD (At.cell (At.grownAt hbp g hq Dd) rfl)) hS<|Tk 2 rfl (λ_ hq=>cD (v:= .pointer (some ⟨bj,0,none⟩)) rfl dD (At.cell (At.grownAt hbp g hq Dd) rfl)) hS<|Tk 3 rfl (λ_ hq=>cD (v:=ea s) rfl lX (At.cell (At.grownAt hbt g hq Dd) rfl)) hS<|To 4 rfl (TC Ei (oT s _ (hgl _ hB) hsl) rfl λr W4 i l=>⟨.inl (cB hS (dA.grown i (some bj))),?_⟩)
 have k:=(go hN0 (Below.size hB))
 obtain⟨hbj,hX⟩:=i.k2 hbj hX
 replace hS:=cB hS (dA.grown i (some bj))
 obtain⟨m,t,rfl,c,d⟩:=l
 replace c:=cH.mono c k
 replace d:=gf.mono d k
 refine Tw 5 (.tuple #[.agg #[.int .i64 _, .int .i64 _, .int .i64 _,m], .int .i64 _, .int .i64 _]) rfl rfl hS<|Tk 6 rfl (λ_ _=>gj rfl) hS<|Tk 7 rfl (λ_ _=>iy rfl) hS<|Tk 8 rfl (λ_ _=>ik rfl) hS<|Tc 9 rfl rfl hS<|Tf 10 rfl rfl mA hS<|To 11 rfl (iT rfl rfl dV rfl hbj xT (by exact pl (dr.one (cH.sl c))) λW8 e o=>⟨.inl (cB hS e),?_⟩)
 replace hS:=cB hS e
 replace hX:=Dx.trans hX (acK e loj)
 replace c:=cH.grownAt c hbj e Dd
 replace d:=gf.grownAt d hbj e Dd
 replace hbj:=o
 replace hbj:At _ _ #[_,_,_,_,_,_,_,_,_,_,_,_,_,_,_,_,_,_,_,_,_] _:=hbj
 refine Tc 12 rfl rfl hS<|Tf 13 rfl rfl ze hS<|To 14 rfl (de (v:= .int .i64 _) rfl rfl cR rfl hbj fF λu f p=>⟨.inl (cB hS f),?_⟩)
 replace hS:=cB hS f
 replace hX:=Dx.trans hX (acK f loj)
 replace c:=cH.grownAt c hbj f Dd
 replace d:=gf.grownAt d hbj f Dd
 replace hbj:=p
 replace hbj:At _ _ #[_,_,_,_,_,_,_,_,_,_,_,_,_,_,_,_,_,_,_,_,_] _:=hbj
 refine Tc 15 rfl rfl hS<|Tf 16 rfl rfl e7 hS<|To 17 rfl (de (v:= .int .i64 _) rfl rfl fe rfl hbj fF λx h q=>⟨.inl (cB hS h),?_⟩)
 replace hX:=Dx.trans hX (acK h loj)
 replace c:=cH.grownAt c hbj h Dd
 replace d:=gf.grownAt d hbj h Dd
 replace hbj:=q
 replace hbj:At _ _ #[_,_,_,_,_,_,_,_,_,_,_,_,_,_,_,_,_,_,_,_,_] _:=hbj
 refine Td ?_
 repeat (first|refine eS ?_|refine eA ?_)
 refine eB ?_
 repeat (first|refine dZ ?_|refine dI ?_)
 refine ob ?_
 exact⟨hX,_,_,hbj,c,d⟩
theorem BF (N bj bp:Nat) (bt:Nat) (s:List UInt8) (w:World) (hN0:N≤w.heap.size) (hgl:∀W,Below N w W→Gl W) (hbp:At w bp #[.pointer (some ⟨bj,0,none⟩)] 125) (loj:N≤bj) (hbj:At w bj #[.int .i64 0, .int .i64 0, .int .i64 0, .slice none 0 0, .int .i64 0, .int .i64 0, .int .i64 0, .slice none 0 0, .int .i64 0, .slice none 0 0, .slice none 0 0, .slice none 0 0, .int .i64 0, .int .i64 0, .int .i64 0, .string ⟨#[]⟩, .int .i64 0, .int .i64 0, .int .i64 0, .int .i64 0, .int .i64 0] 127) (hbt:At w bt #[ea s] 9) (hsl:s.length≤100000):
    lk Tryz.prog 74 #[.pointer (some ⟨bt,0,none⟩), .pointer (some ⟨bp,0,none⟩)] w λv w'=>Dx 127 N [bj] w w'∧(∃lv vs,At w' bj #[.int .i64 (cF s).1.kind, .int .i64 (cF s).1.ni, .int .i64 (cF s).1.no,lv, .int .i64 0, .int .i64 0, .int .i64 0, .slice none 0 0, .int .i64 0, .slice none 0 0, .slice none 0 0, .slice none 0 0, .int .i64 0, .int .i64 0, .int .i64 0, .string ⟨#[]⟩, .int .i64 0, .int .i64 0, .int .i64 0, .int .i64 0, .int .i64 (cF s).2.2] 127∧cH il 3 37 w' N lv vs∧gf 3 N w' vs (cF s).1.ls):=by
 refine dL (n:=14) (N:=N) Tryz.func74 rfl rfl rfl λhB=> ?_
 have hX:Dx 127 N [bj] w w:=Dx.refl
 refine eR (λa b=>a.grownBy b (some bj)) fx (λW1 i=> ?_)
 obtain⟨hbp,hbj,hbt,hX⟩:=i.k4 hbp hbj hbt hX
 replace hB:=cX hB i hN0
 have g:=hbj
 have hS:=World.grownBy.refl W1 (some bj)
 refine Tk 0 rfl (λ_ hq=>cD (v:= .pointer (some ⟨bj,0,none⟩)) rfl dD (At.cell (At.grownAt hbp g hq Dd) rfl)) hS<|Tk 1 rfl (λ_ hq=>cD (v:= .pointer (some ⟨bj,0,none⟩)) rfl dD (At.cell (At.grownAt hbp g hq Dd) rfl)) hS<|Tk 2 rfl (λ_ hq=>cD (v:=ea s) rfl lX (At.cell (At.grownAt hbt g hq Dd) rfl)) hS<|To 3 rfl (TC Ei (oT s _ (hgl _ hB) hsl) rfl λp W4 h k=>⟨.inl (cB hS (dA.grown h (some bj))),?_⟩)
 have j:=(go hN0 (Below.size hB))
 obtain⟨hbj,hX⟩:=h.k2 hbj hX
 replace hS:=cB hS (dA.grown h (some bj))
 obtain⟨l,q,rfl,c,d⟩:=k
 replace c:=cH.mono c j
 replace d:=gf.mono d j
 refine Tw 4 (.tuple #[.agg #[.int .i64 _, .int .i64 _, .int .i64 _,l], .int .i64 _, .int .i64 _]) rfl rfl hS<|Tk 5 rfl (λ_ _=>gj rfl) hS<|Tk 6 rfl (λ_ _=>iy rfl) hS<|Tk 7 rfl (λ_ _=>ik rfl) hS<|Tc 8 rfl rfl hS<|Tf 9 rfl rfl mA hS<|To 10 rfl (iT rfl rfl dV rfl hbj xT (by exact pl (dr.one (cH.sl c))) λW8 e m=>⟨.inl (cB hS e),?_⟩)
 replace hS:=cB hS e
 replace hX:=Dx.trans hX (acK e loj)
 replace c:=cH.grownAt c hbj e Dd
 replace d:=gf.grownAt d hbj e Dd
 replace hbj:=m
 replace hbj:At _ _ #[_,_,_,_,_,_,_,_,_,_,_,_,_,_,_,_,_,_,_,_,_] _:=hbj
 refine Tc 11 rfl rfl hS<|Tf 12 rfl rfl e7 hS<|To 13 rfl (de (v:= .int .i64 _) rfl rfl fe rfl hbj fF λr f o=>⟨.inl (cB hS f),?_⟩)
 replace hX:=Dx.trans hX (acK f loj)
 replace c:=cH.grownAt c hbj f Dd
 replace d:=gf.grownAt d hbj f Dd
 replace hbj:=o
 replace hbj:At _ _ #[_,_,_,_,_,_,_,_,_,_,_,_,_,_,_,_,_,_,_,_,_] _:=hbj
 refine Td ?_
 repeat (first|refine eS ?_|refine eA ?_)
 refine eB ?_
 repeat (first|refine dZ ?_|refine dI ?_)
 refine ob ?_
 exact⟨hX,_,_,hbj,c,d⟩
theorem Bg (N bj bp:Nat) (bt:Nat) (s:List UInt8) (t0 t1 t2 t3 s0 s1 s2:Value) (w:World) (hN0:N≤w.heap.size) (hgl:∀W,Below N w W→Gl W) (hbp:At w bp #[.pointer (some ⟨bj,0,none⟩)] 125) (loj:N≤bj) (hbj:At w bj #[t0,t1,t2,t3, .int .i64 0, .int .i64 0, .int .i64 0, .slice none 0 0,s0,s1,s2, .slice none 0 0, .int .i64 0, .int .i64 0, .int .i64 0, .string ⟨#[]⟩, .int .i64 0, .int .i64 0, .int .i64 0, .int .i64 0, .int .i64 0] 127) (hbt:At w bt #[ea s] 9) (hsl:s.length≤100000):
    lk Tryz.prog 76 #[.pointer (some ⟨bt,0,none⟩), .pointer (some ⟨bp,0,none⟩)] w λv w'=>Dx 127 N [bj] w w'∧(∃lv vs,At w' bj #[t0,t1,t2,t3, .int .i64 (cF s).1.kind, .int .i64 (cF s).1.ni, .int .i64 (cF s).1.no,lv,s0,s1,s2, .slice none 0 0, .int .i64 0, .int .i64 0, .int .i64 0, .string ⟨#[]⟩, .int .i64 0, .int .i64 0, .int .i64 0, .int .i64 0, .int .i64 (cF s).2.2] 127∧cH il 3 37 w' N lv vs∧gf 3 N w' vs (cF s).1.ls):=by
 refine dL (n:=14) (N:=N) Tryz.func76 rfl rfl rfl λhB=> ?_
 have hX:Dx 127 N [bj] w w:=Dx.refl
 refine eR (λa b=>a.grownBy b (some bj)) fx (λW1 i=> ?_)
 obtain⟨hbp,hbj,hbt,hX⟩:=i.k4 hbp hbj hbt hX
 replace hB:=cX hB i hN0
 have g:=hbj
 have hS:=World.grownBy.refl W1 (some bj)
 refine Tk 0 rfl (λ_ hq=>cD (v:= .pointer (some ⟨bj,0,none⟩)) rfl dD (At.cell (At.grownAt hbp g hq Dd) rfl)) hS<|Tk 1 rfl (λ_ hq=>cD (v:= .pointer (some ⟨bj,0,none⟩)) rfl dD (At.cell (At.grownAt hbp g hq Dd) rfl)) hS<|Tk 2 rfl (λ_ hq=>cD (v:=ea s) rfl lX (At.cell (At.grownAt hbt g hq Dd) rfl)) hS<|To 3 rfl (TC Ei (oT s _ (hgl _ hB) hsl) rfl λp W4 h k=>⟨.inl (cB hS (dA.grown h (some bj))),?_⟩)
 have j:=(go hN0 (Below.size hB))
 obtain⟨hbj,hX⟩:=h.k2 hbj hX
 replace hS:=cB hS (dA.grown h (some bj))
 obtain⟨l,q,rfl,c,d⟩:=k
 replace c:=cH.mono c j
 replace d:=gf.mono d j
 refine Tw 4 (.tuple #[.agg #[.int .i64 _, .int .i64 _, .int .i64 _,l], .int .i64 _, .int .i64 _]) rfl rfl hS<|Tk 5 rfl (λ_ _=>gj rfl) hS<|Tk 6 rfl (λ_ _=>iy rfl) hS<|Tk 7 rfl (λ_ _=>ik rfl) hS<|Tc 8 rfl rfl hS<|Tf 9 rfl rfl jU hS<|To 10 rfl (iT rfl rfl dV rfl hbj xT (by exact pl (dr.one (cH.sl c))) λW8 e m=>⟨.inl (cB hS e),?_⟩)
 replace hS:=cB hS e
 replace hX:=Dx.trans hX (acK e loj)
 replace c:=cH.grownAt c hbj e Dd
 replace d:=gf.grownAt d hbj e Dd
 replace hbj:=m
 replace hbj:At _ _ #[_,_,_,_,_,_,_,_,_,_,_,_,_,_,_,_,_,_,_,_,_] _:=hbj
 refine Tc 11 rfl rfl hS<|Tf 12 rfl rfl e7 hS<|To 13 rfl (de (v:= .int .i64 _) rfl rfl fe rfl hbj fF λr f o=>⟨.inl (cB hS f),?_⟩)
 replace hX:=Dx.trans hX (acK f loj)
 replace c:=cH.grownAt c hbj f Dd
 replace d:=gf.grownAt d hbj f Dd
 replace hbj:=o
 replace hbj:At _ _ #[_,_,_,_,_,_,_,_,_,_,_,_,_,_,_,_,_,_,_,_,_] _:=hbj
 refine Td ?_
 repeat (first|refine eS ?_|refine eA ?_)
 refine eB ?_
 repeat (first|refine dZ ?_|refine dI ?_)
 refine ob ?_
 exact⟨hX,_,_,hbj,c,d⟩
theorem Fj (N bj bp:Nat) (T:Tb) (lv:Value) (vs:List CV) (ln:Int) (w:World) (hN0:N≤w.heap.size) (hgl:∀W,Below N w W→Gl W) (hbp:At w bp #[.pointer (some ⟨bj,0,none⟩)] 125) (loj:N≤bj) (hbj:At w bj #[.int .i64 T.kind, .int .i64 T.ni, .int .i64 T.no,lv, .int .i64 0, .int .i64 0, .int .i64 0, .slice none 0 0, .int .i64 0, .slice none 0 0, .slice none 0 0, .slice none 0 0, .int .i64 0, .int .i64 0, .int .i64 0, .string ⟨#[]⟩, .int .i64 0, .int .i64 0, .int .i64 0, .int .i64 ln, .int .i64 0] 127) (hlv:cH il 3 37 w N lv (vs)) (hls:gf 3 N w vs T.ls) (hmb:∀i,i<T.ls.length→(T.ls.getD i jH).c.m<256∧(T.ls.getD i jH).c.v<256):
    lk Tryz.prog 70 #[.pointer (some ⟨bp,0,none⟩)] w λv w'=>Dx 127 N [bj] w w'∧((oD T=0∧∃onV mayV,At w' bj #[.int .i64 T.kind, .int .i64 T.ni, .int .i64 T.no,lv, .int .i64 0, .int .i64 0, .int .i64 0, .slice none 0 0, .int .i64 T.ni,onV,mayV, .slice none 0 0, .int .i64 0, .int .i64 0, .int .i64 0, .string ⟨#[]⟩, .int .i64 0, .int .i64 0, .int .i64 0, .int .i64 ln, .int .i64 0] 127∧cH eX 4 40 w' N onV (pR T T.no.toNat)∧cH eX 4 40 w' N mayV (ly T T.no.toNat))∨(¬oD T=0∧At w' bj #[.int .i64 T.kind, .int .i64 T.ni, .int .i64 T.no,lv, .int .i64 0, .int .i64 0, .int .i64 0, .slice none 0 0, .int .i64 0, .slice none 0 0, .slice none 0 0, .slice none 0 0, .int .i64 0, .int .i64 0, .int .i64 0, .string ⟨#[]⟩, .int .i64 0, .int .i64 0, .int .i64 0, .int .i64 ln, .int .i64 (oD T)] 127)):=by
 refine dL (n:=15) (N:=N) Tryz.func70 rfl rfl rfl λhB=> ?_
 have hX:Dx 127 N [bj] w w:=Dx.refl
 refine eR (λa b=>a.grownBy b (some bj)) fx (λW1 p=> ?_)
 obtain⟨hbp,hbj,hlv,hls,hX⟩:=p.k5 hbp hbj hlv hls hX
 replace hB:=cX hB p hN0
 have j:=hbj
 have hS:=World.grownBy.refl W1 (some bj)
 refine Tk 0 rfl (λ_ hq=>cD (v:= .pointer (some ⟨bj,0,none⟩)) rfl dD (At.cell (At.grownAt hbp j hq Dd) rfl)) hS<|Tk 1 rfl (λ_ hq=>cD (v:= .pointer (some ⟨bj,0,none⟩)) rfl dD (At.cell (At.grownAt hbp j hq Dd) rfl)) hS<|Tk 2 rfl (λ_ hq=>cD (v:= .pointer (some ⟨bj,0,none⟩)) rfl dD (At.cell (At.grownAt hbp j hq Dd) rfl)) hS<|Tc 3 rfl rfl hS<|Tf 4 rfl rfl mA hS ?_
 refine iZ (dd:=some 7) 5 jW rfl rfl rfl rfl (Yd.val (eI rfl dV (At.cell hbj rfl) (At.cell hbj rfl) (At.cell hbj rfl) (At.cell hbj rfl)) ⟨.inl hS,?_⟩)
 refine To 6 rfl (TC (vs:=[.agg #[_,_,_,_]]) Es (sP T _ vs _ hlv.sl (gf.at hls) hmb) rfl λB W4 k f=>⟨.inl (cB hS (dA.grown k (some bj))),?_⟩)
 have s:=(go hN0 (Below.size hB))
 obtain⟨hbj,hX⟩:=k.k2 hbj hX
 replace hS:=cB hS (dA.grown k (some bj))
 have q:=s
 rcases f with f|f
 obtain⟨l,t,u,rfl,d,e⟩:=f
 replace d:=cH.mono d q
 replace e:=cH.mono e q
 refine Tw 7 (.tuple #[.agg #[.int .i64 _,t,u], .int .i64 0]) rfl rfl hS<|Tk 8 rfl (λ_ _=>c7 rfl) hS<|Tk 9 rfl (λ_ _=>da rfl) hS<|Tc 10 rfl rfl hS<|Tf 11 rfl rfl j1 hS<|To 12 rfl (iT rfl rfl d9 rfl hbj xT (by exact rB (dr.one (cH.sl d)) (dr.one (cH.sl e))) λW8 g x=>⟨.inl (cB hS g),?_⟩)
 replace hS:=cB hS g
 replace hX:=Dx.trans hX (acK g loj)
 replace d:=cH.grownAt d hbj g Dd
 replace e:=cH.grownAt e hbj g Dd
 replace hbj:=x
 replace hbj:At _ _ #[_,_,_,_,_,_,_,_,_,_,_,_,_,_,_,_,_,_,_,_,_] _:=hbj
 refine Tc 13 rfl rfl hS<|Tf 14 rfl rfl e7 hS<|To 15 rfl (de (v:= .int .i64 0) rfl rfl fe rfl hbj fF λC h y=>⟨.inl (cB hS h),?_⟩)
 replace hX:=Dx.trans hX (acK h loj)
 replace d:=cH.grownAt d hbj h Dd
 replace e:=cH.grownAt e hbj h Dd
 replace hbj:=y
 replace hbj:At _ _ #[_,_,_,_,_,_,_,_,_,_,_,_,_,_,_,_,_,_,_,_,_] _:=hbj
 refine Td ?_
 repeat (first|refine eS ?_|refine eA ?_)
 refine eB ?_
 repeat (first|refine dZ ?_|refine dI ?_)
 refine ob ?_
 exact⟨hX, .inl ⟨l,_,_,hbj,d,e⟩⟩
 obtain⟨l,rfl⟩:=f
 refine Tw 7 (.tuple #[.agg #[.int .i64 0, .slice none 0 0, .slice none 0 0], .int .i64 _]) rfl rfl hS<|Tk 8 rfl (λ_ _=>c7 rfl) hS<|Tk 9 rfl (λ_ _=>da rfl) hS<|Tc 10 rfl rfl hS<|Tf 11 rfl rfl j1 hS<|To 12 rfl (iT rfl rfl d9 rfl hbj xT (by exact rB rfl rfl) λD o z=>⟨.inl (cB hS o),?_⟩)
 replace hS:=cB hS o
 replace hX:=Dx.trans hX (acK o loj)
 replace hbj:=z
 replace hbj:At _ _ #[_,_,_,_,_,_,_,_,_,_,_,_,_,_,_,_,_,_,_,_,_] _:=hbj
 refine Tc 13 rfl rfl hS<|Tf 14 rfl rfl e7 hS<|To 15 rfl (de (v:= .int .i64 _) rfl rfl fe rfl hbj fF λE r A=>⟨.inl (cB hS r),?_⟩)
 replace hX:=Dx.trans hX (acK r loj)
 replace hbj:=A
 replace hbj:At _ _ #[_,_,_,_,_,_,_,_,_,_,_,_,_,_,_,_,_,_,_,_,_] _:=hbj
 refine Td ?_
 repeat (first|refine eS ?_|refine eA ?_)
 refine eB ?_
 repeat (first|refine dZ ?_|refine dI ?_)
 refine ob ?_
 exact⟨hX, .inr ⟨l,hbj⟩⟩
theorem BB (N bj bp:Nat) (T:Tb) (lv:Value) (vs:List CV) (w:World) (hN0:N≤w.heap.size) (hgl:∀W,Below N w W→Gl W) (hbp:At w bp #[.pointer (some ⟨bj,0,none⟩)] 125) (loj:N≤bj) (hbj:At w bj #[.int .i64 T.kind, .int .i64 T.ni, .int .i64 T.no,lv, .int .i64 0, .int .i64 0, .int .i64 0, .slice none 0 0, .int .i64 0, .slice none 0 0, .slice none 0 0, .slice none 0 0, .int .i64 0, .int .i64 0, .int .i64 0, .string ⟨#[]⟩, .int .i64 0, .int .i64 0, .int .i64 0, .int .i64 0, .int .i64 0] 127) (hlv:cH il 3 37 w N lv (vs)) (hls:gf 3 N w vs T.ls) (hmb:∀i,i<T.ls.length→(T.ls.getD i jH).c.m<256∧(T.ls.getD i jH).c.v<256):
    lk Tryz.prog 75 #[.pointer (some ⟨bp,0,none⟩)] w λv w'=>Dx 127 N [bj] w w'∧((oD T=0∧∃onV mayV,At w' bj #[.int .i64 T.kind, .int .i64 T.ni, .int .i64 T.no,lv, .int .i64 0, .int .i64 0, .int .i64 0, .slice none 0 0, .int .i64 T.ni,onV,mayV, .slice none 0 0, .int .i64 0, .int .i64 0, .int .i64 0, .string ⟨#[]⟩, .int .i64 0, .int .i64 0, .int .i64 0, .int .i64 0, .int .i64 0] 127∧cH eX 4 40 w' N onV (pR T T.no.toNat)∧cH eX 4 40 w' N mayV (ly T T.no.toNat))∨(¬oD T=0∧At w' bj #[.int .i64 T.kind, .int .i64 T.ni, .int .i64 T.no,lv, .int .i64 0, .int .i64 0, .int .i64 0, .slice none 0 0, .int .i64 0, .slice none 0 0, .slice none 0 0, .slice none 0 0, .int .i64 0, .int .i64 0, .int .i64 0, .string ⟨#[]⟩, .int .i64 0, .int .i64 0, .int .i64 0, .int .i64 0, .int .i64 (oD T)] 127)):=by
 refine dL (n:=15) (N:=N) Tryz.func75 rfl rfl rfl λhB=> ?_
 have hX:Dx 127 N [bj] w w:=Dx.refl
 refine eR (λa b=>a.grownBy b (some bj)) fx (λW1 p=> ?_)
 obtain⟨hbp,hbj,hlv,hls,hX⟩:=p.k5 hbp hbj hlv hls hX
 replace hB:=cX hB p hN0
 have j:=hbj
 have hS:=World.grownBy.refl W1 (some bj)
 refine Tk 0 rfl (λ_ hq=>cD (v:= .pointer (some ⟨bj,0,none⟩)) rfl dD (At.cell (At.grownAt hbp j hq Dd) rfl)) hS<|Tk 1 rfl (λ_ hq=>cD (v:= .pointer (some ⟨bj,0,none⟩)) rfl dD (At.cell (At.grownAt hbp j hq Dd) rfl)) hS<|Tk 2 rfl (λ_ hq=>cD (v:= .pointer (some ⟨bj,0,none⟩)) rfl dD (At.cell (At.grownAt hbp j hq Dd) rfl)) hS<|Tc 3 rfl rfl hS<|Tf 4 rfl rfl mA hS ?_
 refine iZ (dd:=some 7) 5 jW rfl rfl rfl rfl (Yd.val (eI rfl dV (At.cell hbj rfl) (At.cell hbj rfl) (At.cell hbj rfl) (At.cell hbj rfl)) ⟨.inl hS,?_⟩)
 refine To 6 rfl (TC (vs:=[.agg #[_,_,_,_]]) Es (sP T _ vs _ hlv.sl (gf.at hls) hmb) rfl λB W4 k f=>⟨.inl (cB hS (dA.grown k (some bj))),?_⟩)
 have s:=(go hN0 (Below.size hB))
 obtain⟨hbj,hX⟩:=k.k2 hbj hX
 replace hS:=cB hS (dA.grown k (some bj))
 have q:=s
 rcases f with f|f
 obtain⟨l,t,u,rfl,d,e⟩:=f
 replace d:=cH.mono d q
 replace e:=cH.mono e q
 refine Tw 7 (.tuple #[.agg #[.int .i64 _,t,u], .int .i64 0]) rfl rfl hS<|Tk 8 rfl (λ_ _=>c7 rfl) hS<|Tk 9 rfl (λ_ _=>da rfl) hS<|Tc 10 rfl rfl hS<|Tf 11 rfl rfl j1 hS<|To 12 rfl (iT rfl rfl d9 rfl hbj xT (by exact rB (dr.one (cH.sl d)) (dr.one (cH.sl e))) λW8 g x=>⟨.inl (cB hS g),?_⟩)
 replace hS:=cB hS g
 replace hX:=Dx.trans hX (acK g loj)
 replace d:=cH.grownAt d hbj g Dd
 replace e:=cH.grownAt e hbj g Dd
 replace hbj:=x
 replace hbj:At _ _ #[_,_,_,_,_,_,_,_,_,_,_,_,_,_,_,_,_,_,_,_,_] _:=hbj
 refine Tc 13 rfl rfl hS<|Tf 14 rfl rfl e7 hS<|To 15 rfl (de (v:= .int .i64 0) rfl rfl fe rfl hbj fF λC h y=>⟨.inl (cB hS h),?_⟩)
 replace hX:=Dx.trans hX (acK h loj)
 replace d:=cH.grownAt d hbj h Dd
 replace e:=cH.grownAt e hbj h Dd
 replace hbj:=y
 replace hbj:At _ _ #[_,_,_,_,_,_,_,_,_,_,_,_,_,_,_,_,_,_,_,_,_] _:=hbj
 refine Td ?_
 repeat (first|refine eS ?_|refine eA ?_)
 refine eB ?_
 repeat (first|refine dZ ?_|refine dI ?_)
 refine ob ?_
 exact⟨hX, .inl ⟨l,_,_,hbj,d,e⟩⟩
 obtain⟨l,rfl⟩:=f
 refine Tw 7 (.tuple #[.agg #[.int .i64 0, .slice none 0 0, .slice none 0 0], .int .i64 _]) rfl rfl hS<|Tk 8 rfl (λ_ _=>c7 rfl) hS<|Tk 9 rfl (λ_ _=>da rfl) hS<|Tc 10 rfl rfl hS<|Tf 11 rfl rfl j1 hS<|To 12 rfl (iT rfl rfl d9 rfl hbj xT (by exact rB rfl rfl) λD o z=>⟨.inl (cB hS o),?_⟩)
 replace hS:=cB hS o
 replace hX:=Dx.trans hX (acK o loj)
 replace hbj:=z
 replace hbj:At _ _ #[_,_,_,_,_,_,_,_,_,_,_,_,_,_,_,_,_,_,_,_,_] _:=hbj
 refine Tc 13 rfl rfl hS<|Tf 14 rfl rfl e7 hS<|To 15 rfl (de (v:= .int .i64 _) rfl rfl fe rfl hbj fF λE r A=>⟨.inl (cB hS r),?_⟩)
 replace hX:=Dx.trans hX (acK r loj)
 replace hbj:=A
 replace hbj:At _ _ #[_,_,_,_,_,_,_,_,_,_,_,_,_,_,_,_,_,_,_,_,_] _:=hbj
 refine Td ?_
 repeat (first|refine eS ?_|refine eA ?_)
 refine eB ?_
 repeat (first|refine dZ ?_|refine dI ?_)
 refine ob ?_
 exact⟨hX, .inr ⟨l,hbj⟩⟩
theorem Fb (N bj bp:Nat) (bb:Nat) (S:Sp) (onV mayV:Value) (b0 b1 ln:Int) (t0 t1 t2 t3:Value) (w:World) (hN0:N≤w.heap.size) (hgl:∀W,Below N w W→Gl W) (hbp:At w bp #[.pointer (some ⟨bj,0,none⟩)] 125) (loj:N≤bj) (hbj:At w bj #[t0,t1,t2,t3, .int .i64 0, .int .i64 0, .int .i64 0, .slice none 0 0, .int .i64 S.n,onV,mayV, .slice none 0 0, .int .i64 0, .int .i64 0, .int .i64 0, .string ⟨#[]⟩, .int .i64 0, .int .i64 0, .int .i64 0, .int .i64 ln, .int .i64 0] 127) (hon:cH eX 4 40 w N onV (S.on)) (hmay:cH eX 4 40 w N mayV (S.may)) (hbb:At w bb #[.int .i64 b0, .int .i64 b1] 49) (hs:dt S=true→S.n≤4∧S.on.length≤3):
    lk Tryz.prog 71 #[.pointer (some ⟨bp,0,none⟩), .pointer (some ⟨bb,0,none⟩)] w λv w'=>Dx 127 N [bj] w w'∧(((dt S=true∧oK b0 b1)∧∃x how why sp Rr,At w' bj #[t0,t1,t2,t3, .int .i64 0, .int .i64 0, .int .i64 0, .slice none 0 0, .int .i64 S.n,onV,mayV,x, .int .i64 how, .int .i64 why, .int .i64 sp, .string ⟨#[]⟩, .int .i64 0, .int .i64 0, .int .i64 0, .int .i64 ln, .int .i64 0] 127∧cH gz 3 158 w' N x (Rr)∧JE b0.toNat b1.toNat S how why sp Rr)∨(¬(dt S=true∧oK b0 b1)∧At w' bj #[t0,t1,t2,t3, .int .i64 0, .int .i64 0, .int .i64 0, .slice none 0 0, .int .i64 S.n,onV,mayV, .slice none 0 0, .int .i64 0, .int .i64 0, .int .i64 0, .string ⟨#[]⟩, .int .i64 0, .int .i64 0, .int .i64 0, .int .i64 ln, .int .i64 1] 127)):=by
 refine dL (n:=17) (N:=N) Tryz.func71 rfl rfl rfl λhB=> ?_
 have hX:Dx 127 N [bj] w w:=Dx.refl
 refine eR (λa b=>a.grownBy b (some bj)) fx (λW1 j=> ?_)
 obtain⟨hbp,hbj,hon,hmay,hbb,hX⟩:=j.k6 hbp hbj hon hmay hbb hX
 replace hB:=cX hB j hN0
 have d:=hbj
 have hS:=World.grownBy.refl W1 (some bj)
 refine Tk 0 rfl (λ_ hq=>cD (v:= .pointer (some ⟨bj,0,none⟩)) rfl dD (At.cell (At.grownAt hbp d hq Dd) rfl)) hS<|Tk 1 rfl (λ_ hq=>cD (v:= .pointer (some ⟨bj,0,none⟩)) rfl dD (At.cell (At.grownAt hbp d hq Dd) rfl)) hS<|Tk 2 rfl (λ_ hq=>cD (v:= .pointer (some ⟨bj,0,none⟩)) rfl dD (At.cell (At.grownAt hbp d hq Dd) rfl)) hS<|Tc 3 rfl rfl hS<|Tf 4 rfl rfl j1 hS<|Tk 6 rfl (λ_ hq=>cz rfl s7 rfl (At.grownAt hbb d hq Dd)) hS ?_
 refine iZ (dd:=some 8) 5 jW rfl rfl rfl rfl (Yd.val (jb rfl d9 (At.cell hbj rfl) (At.cell hbj rfl) (At.cell hbj rfl)) ⟨.inl hS,?_⟩)
 refine To 7 rfl (TC (vs:=[.agg #[_,_,_], .agg #[_,_]]) Xb (wX S _ _ b0 b1 _ hon.sl hmay.sl hs) rfl λr W4 e f=>⟨.inl (cB hS (dA.grown e (some bj))),?_⟩)
 have l:=(go hN0 (Below.size hB))
 obtain⟨hbp,hbj,hon,hmay,hbb,hX⟩:=e.k6 hbp hbj hon hmay hbb hX
 replace hB:=cX hB e hN0
 replace hS:=cB hS (dA.grown e (some bj))
 have hszm:=l
 by_cases hbm:dt S=true∧oK b0 b1
 rw[if_pos hbm]at f
 obtain⟨x0_7,how0_7,why0_7,sp0_7,Rr0_7,rfl,c,hmo0_7⟩:=f
 replace c:=cH.mono c hszm
 refine Tw 8 (.tuple #[.agg #[x0_7, .int .i64 _, .int .i64 _, .int .i64 _], .int .i64 0]) rfl rfl hS<|Tk 9 rfl (λ_ _=>c7 rfl) hS<|Tk 10 rfl (λ_ _=>da rfl) hS<|Tc 11 rfl rfl hS<|Tf 12 rfl rfl mf hS<|To 13 rfl (iT rfl rfl ft rfl hbj xT (by exact sx (cH.one c)) λW8 g m=>⟨.inl (cB hS g),?_⟩)
 replace hS:=cB hS g
 replace hX:=Dx.trans hX (acK g loj)
 replace c:=cH.grownAt c hbj g Dd
 replace hbj:=m
 replace hbj:At _ _ #[_,_,_,_,_,_,_,_,_,_,_,_,_,_,_,_,_,_,_,_,_] _:=hbj
 refine Tc 14 rfl rfl hS<|Tf 15 rfl rfl e7 hS<|To 16 rfl (de (v:= .int .i64 0) rfl rfl fe rfl hbj fF λs h o=>⟨.inl (cB hS h),?_⟩)
 replace hX:=Dx.trans hX (acK h loj)
 replace c:=cH.grownAt c hbj h Dd
 replace hbj:=o
 replace hbj:At _ _ #[_,_,_,_,_,_,_,_,_,_,_,_,_,_,_,_,_,_,_,_,_] _:=hbj
 refine Td ?_
 repeat (first|refine eS ?_|refine eA ?_)
 refine eB ?_
 repeat (first|refine dZ ?_|refine dI ?_)
 refine ob ?_
 exact⟨hX, .inl ⟨hbm,_,_,_,_,_,hbj,c,hmo0_7⟩⟩
 rw[if_neg hbm]at f
 obtain rfl:=f
 refine Tw 8 (.tuple #[.agg #[.slice none 0 0, .int .i64 0, .int .i64 0, .int .i64 0], .int .i64 1]) rfl rfl hS<|Tk 9 rfl (λ_ _=>c7 rfl) hS<|Tk 10 rfl (λ_ _=>da rfl) hS<|Tc 11 rfl rfl hS<|Tf 12 rfl rfl mf hS<|To 13 rfl (iT rfl rfl ft rfl hbj xT (by exact sx rfl) λt i p=>⟨.inl (cB hS i),?_⟩)
 replace hS:=cB hS i
 replace hX:=Dx.trans hX (acK i loj)
 replace hbj:=p
 replace hbj:At _ _ #[_,_,_,_,_,_,_,_,_,_,_,_,_,_,_,_,_,_,_,_,_] _:=hbj
 refine Tc 14 rfl rfl hS<|Tf 15 rfl rfl e7 hS<|To 16 rfl (de (v:= .int .i64 1) rfl rfl fe rfl hbj fF λu k q=>⟨.inl (cB hS k),?_⟩)
 replace hX:=Dx.trans hX (acK k loj)
 replace hbj:=q
 replace hbj:At _ _ #[_,_,_,_,_,_,_,_,_,_,_,_,_,_,_,_,_,_,_,_,_] _:=hbj
 refine Td ?_
 repeat (first|refine eS ?_|refine eA ?_)
 refine eB ?_
 repeat (first|refine dZ ?_|refine dI ?_)
 refine ob ?_
 exact⟨hX, .inr ⟨hbm,hbj⟩⟩
theorem GE (N bj bp:Nat) (S:Sp) (onV mayV x:Value) (Rr:List Rw) (ln:Int) (t0 t1 t2 t3 r1 r2 r3:Value) (w:World) (hN0:N≤w.heap.size) (hgl:∀W,Below N w W→Gl W) (hbp:At w bp #[.pointer (some ⟨bj,0,none⟩)] 125) (loj:N≤bj) (hbj:At w bj #[t0,t1,t2,t3, .int .i64 0, .int .i64 0, .int .i64 0, .slice none 0 0, .int .i64 S.n,onV,mayV,x,r1,r2,r3, .string ⟨#[]⟩, .int .i64 0, .int .i64 0, .int .i64 0, .int .i64 ln, .int .i64 0] 127) (hon:cH eX 4 40 w N onV (S.on)) (hmay:cH eX 4 40 w N mayV (S.may)) (hx:cH gz 3 158 w N x (Rr)) (hr:dt S=true) (hm:km S Rr=true) (hrb:iH Rr) (h64:Rr.length≤64):
    lk Tryz.prog 72 #[.pointer (some ⟨bp,0,none⟩)] w λv w'=>Dx 127 N [bj] w w'∧(∃lv vs,At w' bj #[t0,t1,t2,t3, .int .i64 1, .int .i64 S.n, .int .i64 (S.on.length:Int),lv, .int .i64 S.n,onV,mayV,x,r1,r2,r3, .string ⟨#[]⟩, .int .i64 0, .int .i64 0, .int .i64 0, .int .i64 ln, .int .i64 0] 127∧cH il 3 37 w' N lv vs∧gf 3 N w' vs (oE S Rr).ls):=by
 refine dL (n:=20) (N:=N) Tryz.func72 rfl rfl rfl λhB=> ?_
 have hX:Dx 127 N [bj] w w:=Dx.refl
 refine eR (λa b=>a.grownBy b (some bj)) fx (λW1 o=> ?_)
 obtain⟨hbp,hbj,hon,hmay,hx,hX⟩:=o.k6 hbp hbj hon hmay hx hX
 replace hB:=cX hB o hN0
 have h:=hbj
 have hS:=World.grownBy.refl W1 (some bj)
 refine Tk 0 rfl (λ_ hq=>cD (v:= .pointer (some ⟨bj,0,none⟩)) rfl dD (At.cell (At.grownAt hbp h hq Dd) rfl)) hS<|Tk 1 rfl (λ_ hq=>cD (v:= .pointer (some ⟨bj,0,none⟩)) rfl dD (At.cell (At.grownAt hbp h hq Dd) rfl)) hS<|Tk 2 rfl (λ_ hq=>cD (v:= .pointer (some ⟨bj,0,none⟩)) rfl dD (At.cell (At.grownAt hbp h hq Dd) rfl)) hS<|Tc 3 rfl rfl hS<|Tf 4 rfl rfl j1 hS<|Tk 6 rfl (λ_ hq=>cD (v:= .pointer (some ⟨bj,0,none⟩)) rfl dD (At.cell (At.grownAt hbp h hq Dd) rfl)) hS<|Tc 7 rfl rfl hS<|Tf 8 rfl rfl mf hS<|Tf 9 rfl rfl tt hS ?_
 refine wx 5 10 jW rfl rfl rfl rfl rfl rfl rfl rfl (Yd.val (jb rfl d9 (At.cell hbj rfl) (At.cell hbj rfl) (At.cell hbj rfl)) ⟨.inl hS,?_⟩) (Yd.val (cD (v:=x) rfl nn (At.cell hbj rfl)) ⟨.inl hS,?_⟩)
 refine iZ (dd:=some 12) 10 jW rfl rfl rfl rfl (Yd.val (cD (v:=x) rfl nn (At.cell hbj rfl)) ⟨.inl hS,?_⟩)
 refine To 11 rfl (TC (vs:=[.agg #[_,_,_],x]) Nq (wn S _ _ _ Rr _ hon.sl hmay.sl hx.sl Om hrb (by have:=(dw.1 hr);omega)) rfl λr W4 k e=>⟨.inl (cB hS (dA.grown k (some bj))),?_⟩)
 have p:=(go hN0 (Below.size hB))
 obtain⟨hbj,hX⟩:=k.k2 hbj hX
 replace hS:=cB hS (dA.grown k (some bj))
 rw[if_pos ⟨hr,hm⟩,if_pos h64]at e
 obtain⟨l,s,rfl,c,d⟩:=e
 replace c:=cH.mono c p
 replace d:=gf.mono d p
 refine Tw 12 (.tuple #[.agg #[.int .i64 _, .int .i64 _, .int .i64 _,l], .int .i64 0]) rfl rfl hS<|Tk 13 rfl (λ_ _=>c7 rfl) hS<|Tk 14 rfl (λ_ _=>da rfl) hS<|Tc 15 rfl rfl hS<|Tf 16 rfl rfl jU hS<|To 17 rfl (iT rfl rfl dV rfl hbj xT (by exact pl (dr.one (cH.sl c))) λW8 f t=>⟨.inl (cB hS f),?_⟩)
 replace hS:=cB hS f
 replace hX:=Dx.trans hX (acK f loj)
 replace c:=cH.grownAt c hbj f Dd
 replace d:=gf.grownAt d hbj f Dd
 replace hbj:=t
 replace hbj:At _ _ #[_,_,_,_,_,_,_,_,_,_,_,_,_,_,_,_,_,_,_,_,_] _:=hbj
 refine Tc 18 rfl rfl hS<|Tf 19 rfl rfl e7 hS<|To 20 rfl (de (v:= .int .i64 0) rfl rfl fe rfl hbj fF λA i u=>⟨.inl (cB hS i),?_⟩)
 replace hX:=Dx.trans hX (acK i loj)
 replace c:=cH.grownAt c hbj i Dd
 replace d:=gf.grownAt d hbj i Dd
 replace hbj:=u
 replace hbj:At _ _ #[_,_,_,_,_,_,_,_,_,_,_,_,_,_,_,_,_,_,_,_,_] _:=hbj
 refine Td ?_
 repeat (first|refine eS ?_|refine eA ?_)
 refine eB ?_
 repeat (first|refine dZ ?_|refine dI ?_)
 refine ob ?_
 exact⟨hX,_,_,hbj,c,d⟩
 refine iZ (dd:=some 7) 5 jW rfl rfl rfl rfl (Yd.val (jb rfl d9 (At.cell hbj rfl) (At.cell hbj rfl) (At.cell hbj rfl)) ⟨.inl hS,?_⟩)
 refine To 11 rfl (TC (vs:=[.agg #[_,_,_],x]) Nq (wn S _ _ _ Rr _ hon.sl hmay.sl hx.sl Om hrb (by have:=(dw.1 hr);omega)) rfl λr B m e=>⟨.inl (cB hS (dA.grown m (some bj))),?_⟩)
 have q:=(go hN0 (Below.size hB))
 obtain⟨hbj,hX⟩:=m.k2 hbj hX
 replace hS:=cB hS (dA.grown m (some bj))
 rw[if_pos ⟨hr,hm⟩,if_pos h64]at e
 obtain⟨l,s,rfl,c,d⟩:=e
 replace c:=cH.mono c q
 replace d:=gf.mono d q
 refine Tw 12 (.tuple #[.agg #[.int .i64 _, .int .i64 _, .int .i64 _,l], .int .i64 0]) rfl rfl hS<|Tk 13 rfl (λ_ _=>c7 rfl) hS<|Tk 14 rfl (λ_ _=>da rfl) hS<|Tc 15 rfl rfl hS<|Tf 16 rfl rfl jU hS<|To 17 rfl (iT rfl rfl dV rfl hbj xT (by exact pl (dr.one (cH.sl c))) λC g y=>⟨.inl (cB hS g),?_⟩)
 replace hS:=cB hS g
 replace hX:=Dx.trans hX (acK g loj)
 replace c:=cH.grownAt c hbj g Dd
 replace d:=gf.grownAt d hbj g Dd
 replace hbj:=y
 replace hbj:At _ _ #[_,_,_,_,_,_,_,_,_,_,_,_,_,_,_,_,_,_,_,_,_] _:=hbj
 refine Tc 18 rfl rfl hS<|Tf 19 rfl rfl e7 hS<|To 20 rfl (de (v:= .int .i64 0) rfl rfl fe rfl hbj fF λD j z=>⟨.inl (cB hS j),?_⟩)
 replace hX:=Dx.trans hX (acK j loj)
 replace c:=cH.grownAt c hbj j Dd
 replace d:=gf.grownAt d hbj j Dd
 replace hbj:=z
 replace hbj:At _ _ #[_,_,_,_,_,_,_,_,_,_,_,_,_,_,_,_,_,_,_,_,_] _:=hbj
 refine Td ?_
 repeat (first|refine eS ?_|refine eA ?_)
 refine eB ?_
 repeat (first|refine dZ ?_|refine dI ?_)
 refine ob ?_
 exact⟨hX,_,_,hbj,c,d⟩
theorem GU (N bj bp:Nat) (T:Tb) (lv:Value) (vs:List CV) (ln:Int) (t0 t1 t2 t3 s0 s1 s2 r0 r1 r2 r3:Value) (w:World) (hN0:N≤w.heap.size) (hgl:∀W,Below N w W→Gl W) (hbp:At w bp #[.pointer (some ⟨bj,0,none⟩)] 125) (loj:N≤bj) (hbj:At w bj #[t0,t1,t2,t3, .int .i64 T.kind, .int .i64 T.ni, .int .i64 T.no,lv,s0,s1,s2,r0,r1,r2,r3, .string ⟨#[]⟩, .int .i64 0, .int .i64 0, .int .i64 0, .int .i64 ln, .int .i64 0] 127) (hlv:cH il 3 37 w N lv (vs)) (hls:gf 3 N w vs T.ls) (hmb:∀i,i<T.ls.length→(T.ls.getD i jH).c.m<256∧(T.ls.getD i jH).c.v<256) (hrU:fy T=true):
    lk Tryz.prog 73 #[.pointer (some ⟨bp,0,none⟩)] w λv w'=>Dx 127 N [bj] w w'∧(At w' bj #[t0,t1,t2,t3, .int .i64 T.kind, .int .i64 T.ni, .int .i64 T.no,lv,s0,s1,s2,r0,r1,r2,r3,ea (js T), .int .i64 0, .int .i64 0, .int .i64 0, .int .i64 ln, .int .i64 0] 127):=by
 refine dL (n:=16) (N:=N) Tryz.func73 rfl rfl rfl λhB=> ?_
 have hX:Dx 127 N [bj] w w:=Dx.refl
 refine eR (λa b=>a.grownBy b (some bj)) fx (λW1 g=> ?_)
 obtain⟨hbp,hbj,hlv,hls,hX⟩:=g.k5 hbp hbj hlv hls hX
 replace hB:=cX hB g hN0
 have d:=hbj
 have hS:=World.grownBy.refl W1 (some bj)
 refine Tk 0 rfl (λ_ hq=>cD (v:= .pointer (some ⟨bj,0,none⟩)) rfl dD (At.cell (At.grownAt hbp d hq Dd) rfl)) hS<|Tk 1 rfl (λ_ hq=>cD (v:= .pointer (some ⟨bj,0,none⟩)) rfl dD (At.cell (At.grownAt hbp d hq Dd) rfl)) hS<|Tk 2 rfl (λ_ hq=>cD (v:= .pointer (some ⟨bj,0,none⟩)) rfl dD (At.cell (At.grownAt hbp d hq Dd) rfl)) hS<|Tc 3 rfl rfl hS<|Tf 4 rfl rfl jU hS ?_
 refine iZ (dd:=some 7) 5 jW rfl rfl rfl rfl (Yd.val (eI rfl dV (At.cell hbj rfl) (At.cell hbj rfl) (At.cell hbj rfl) (At.cell hbj rfl)) ⟨.inl hS,?_⟩)
 refine To 6 rfl (TC (vs:=[.agg #[_,_,_,_]]) Wz (GY T _ vs _ (hgl _ hB) hlv.sl (gf.at hls) hmb) rfl λo W4 e h=>⟨.inl (cB hS (dA.grown e (some bj))),?_⟩)
 obtain⟨hbj,hX⟩:=e.k2 hbj hX
 replace hS:=cB hS (dA.grown e (some bj))
 rw[if_pos hrU]at h
 obtain rfl:=h
 refine Tw 7 (.tuple #[.string _, .int .i64 0]) rfl rfl hS<|Tk 8 rfl (λ_ _=>c7 rfl) hS<|Tk 9 rfl (λ_ _=>da rfl) hS<|Tc 10 rfl rfl hS<|Tf 11 rfl rfl nS hS<|Tf 12 rfl rfl wB hS<|To 13 rfl (de (v:= .string _) rfl rfl lX rfl hbj xT λW8 f k=>⟨.inl (cB hS f),?_⟩)
 replace hS:=cB hS f
 replace hX:=Dx.trans hX (acK f loj)
 replace hbj:=k
 replace hbj:At _ _ #[_,_,_,_,_,_,_,_,_,_,_,_,_,_,_,_,_,_,_,_,_] _:=hbj
 refine Tc 14 rfl rfl hS<|Tf 15 rfl rfl e7 hS<|To 16 rfl (de (v:= .int .i64 0) rfl rfl fe rfl hbj fF λp j l=>⟨.inl (cB hS j),?_⟩)
 replace hX:=Dx.trans hX (acK j loj)
 replace hbj:=l
 replace hbj:At _ _ #[_,_,_,_,_,_,_,_,_,_,_,_,_,_,_,_,_,_,_,_,_] _:=hbj
 refine Td ?_
 repeat (first|refine eS ?_|refine eA ?_)
 refine eB ?_
 repeat (first|refine dZ ?_|refine dI ?_)
 refine ob ?_
 exact⟨hX,hbj⟩
end
section
def Dp (s:List UInt8) (b0 b1 ln e:Int):Prop:=
 (¬(cF s).2.2=0∧ln=(cF s).2.1∧e=(cF s).2.2)∨((cF s).2.2=0∧¬oD (cF s).1=0∧ln=0∧e=oD (cF s).1)∨((cF s).2.2=0∧oD (cF s).1=0∧¬oK b0 b1∧ln=0∧e=1)
def x6 (s:List UInt8) (b0 b1:Int) (tx:List UInt8) (how why rows ln e:Int):Prop:=
 (Dp s b0 b1 ln e∧tx=[]∧how=0∧why=0∧rows=0)∨
 ((cF s).2.2=0∧oD (cF s).1=0∧oK b0 b1∧ln=0∧e=0∧∃sp Rr,JE b0.toNat b1.toNat (eq (cF s).1) how why sp Rr∧tx=js (oE (eq (cF s).1) Rr)∧rows=(Rr.length:Int))
def yh (s:List UInt8) (a b:Int):Prop:=(cF s).2.2=0→(cF s).1.ni≤a∧(cF s).1.no≤b
section
variable {s:List UInt8} {b0 b1 ln e:Int}
theorem Dp.ne (h:Dp s b0 b1 ln e):¬e=0:=by
 rcases h with ⟨h1,_,rfl⟩|⟨_,h1,_,rfl⟩|⟨_,_,_,_,rfl⟩
 ·exact h1
 ·exact h1
 ·decide
theorem Fk (h:(cF s).2.2=0):(cF s).2.1=0:=by
 rcases rP s with ⟨h1,_⟩|⟨_,h2,_⟩
 ·exact absurd h h1
 ·exact h2
theorem pO (h:yh s 4 3) (hp:(cF s).2.2=0):dt (eq (cF s).1)=true→(eq (cF s).1).n≤4∧(eq (cF s).1).on.length≤3:=λ_=>by
 obtain⟨h1,h2⟩:=h hp
 refine⟨h1,?_⟩
 show (pR _ _).length≤3
 rw[kq]
 omega
end
end
section
theorem vU:fj Tryz.prog 184=some (1,1,8):=by kernel_rfl
theorem V5:eN Tryz.prog 1=true:=by kernel_rfl
theorem wM:d4 Tryz.prog 52=some (.agg #[.string ⟨#[]⟩, .int .i64 0, .int .i64 0, .int .i64 0]):=by kernel_rfl
theorem Q3:d4 Tryz.prog 127=some (.agg #[.int .i64 0, .int .i64 0, .int .i64 0, .slice none 0 0, .int .i64 0, .int .i64 0, .int .i64 0, .slice none 0 0, .int .i64 0, .slice none 0 0, .slice none 0 0, .slice none 0 0, .int .i64 0, .int .i64 0, .int .i64 0, .string ⟨#[]⟩, .int .i64 0, .int .i64 0, .int .i64 0, .int .i64 0, .int .i64 0]):=by kernel_rfl
theorem L4:(Tryz.prog.info? 52).map (·.size)=some 4:=by kernel_rfl
theorem Mk:(Tryz.prog.info? 59).map (·.size)=some 3:=by kernel_rfl
theorem Mm:(Tryz.prog.info? 85).map (·.size)=some 4:=by kernel_rfl
theorem vA:
    (execOp (dm f) ⟨d, .build 127 #[],ty,ps,af,g⟩).run Tryz.prog w= .ok (.value (.agg #[.int .i64 0, .int .i64 0, .int .i64 0, .slice none 0 0, .int .i64 0, .int .i64 0, .int .i64 0, .slice none 0 0, .int .i64 0, .slice none 0 0, .slice none 0 0, .slice none 0 0, .int .i64 0, .int .i64 0, .int .i64 0, .string ⟨#[]⟩, .int .i64 0, .int .i64 0, .int .i64 0, .int .i64 0, .int .i64 0])) w:=by
  obtain⟨i0,hi0,hz0⟩:=we.1 (show (Tryz.prog.info? 127).bind (·.zero)=_ from Q3)
  obtain⟨j3,hj3,hs3⟩:=an.1 fL
  obtain⟨j24,hj24,hs24⟩:=an.1 Cf
  obtain⟨j27,hj27,hs27⟩:=an.1 nO
  obtain⟨j52,hj52,hs52⟩:=an.1 L4
  obtain⟨j59,hj59,hs59⟩:=an.1 Mk
  obtain⟨j85,hj85,hs85⟩:=an.1 Mm
  simp[execOp,Instr.build,zeroValue,typeInfo,sizeOf,hi0,hz0,run_underlying Tryz.underlying127,Instr.fill,d7,hj3,hs3,hj24,hs24,hj27,hs27,hj52,hs52,hj59,hs59,hj85,hs85]
theorem Ky:d4 Tryz.prog 125=some (.pointer none):=by kernel_rfl
theorem M9:(d4 Tryz.prog 1).map (λz=>z.cells.size)=some 1:=by kernel_rfl
theorem O7:cY Tryz.prog 68=true:=by kernel_rfl
theorem Vm:cY Tryz.prog 69=true:=by kernel_rfl
theorem V0:cY Tryz.prog 70=true:=by kernel_rfl
theorem XS:cY Tryz.prog 71=true:=by kernel_rfl
theorem VC:cY Tryz.prog 72=true:=by kernel_rfl
theorem Xa:cY Tryz.prog 73=true:=by kernel_rfl
theorem LG:eb Tryz.prog 85 1=some 1:=by kernel_rfl
theorem LV:eb Tryz.prog 85 2=some 2:=by kernel_rfl
theorem tk:eb Tryz.prog 52 1=some 1:=by kernel_rfl
theorem LR:eb Tryz.prog 52 2=some 2:=by kernel_rfl
theorem sV:eb Tryz.prog 52 3=some 3:=by kernel_rfl
theorem np:kn Tryz.prog 52=some 4:=by kernel_rfl
theorem Pi:(Tryz.prog.info? 9).map (·.size)=some 1:=by kernel_rfl
theorem GW:
    (execOp (dm f) ⟨d, .build 52 #[],ty,ps,af,g⟩).run Tryz.prog w= .ok (.value (.agg #[.string ⟨#[]⟩, .int .i64 0, .int .i64 0, .int .i64 0])) w:=by
  obtain⟨i0,hi0,hz0⟩:=we.1 (show (Tryz.prog.info? 52).bind (·.zero)=_ from wM)
  obtain⟨j3,hj3,hs3⟩:=an.1 fL
  obtain⟨j9,hj9,hs9⟩:=an.1 Pi
  obtain⟨j27,hj27,hs27⟩:=an.1 nO
  simp[execOp,Instr.build,zeroValue,typeInfo,sizeOf,hi0,hz0,run_underlying Tryz.underlying52,Instr.fill,d7,hj3,hs3,hj9,hs9,hj27,hs27]
theorem mR (N bj:Nat) (xs:Value) (fs:List Value) (q:Nat→Nat) (cap:Nat→Array Value) (J:Nat→World→Prop) (E:World→Prop) (w:World) (hN0:N≤w.heap.size) (hsl:∀k W,J k W→dr encV 1 W xs fs) (hfl:fs.length≤100) (hfs:∀k,k<fs.length→fs.getD k undef= .func (.func (q k)) #[] (cap k)) (hcb:∀k,k<fs.length→cY Tryz.prog (q k)=true) (hJ:J 0 w) (hst:∀k W,k<fs.length→N≤W.heap.size→J k W→lk Tryz.prog (q k) (cap k) W λv W'=>Below N W W'∧∃cs e,At W' bj cs 127∧cs[20]? =some (.int .i64 e)∧(e=0→J (k+1) W')∧(¬e=0→E W')):
    lk Tryz.prog 68 #[.pointer (some ⟨bj,0,none⟩),xs] w λv w'=>Below N w w'∧((v= .bool true∧J fs.length w')∨(v= .bool false∧E w')):=by
 refine dL (n:=21) (N:=N) Tryz.func68 rfl rfl rfl λhB=> ?_
 have hxs:=hsl 0 w hJ
 refine Zr<|Zb rfl<|ct<|Zq<|Zr<|Zw xs rfl<|Zv (db (v:=xs) rfl hxs vU)<|ZZ rfl<|cy ?_
 refine cW (σ:=(Nat)) [4,4,6,6,9,20] (λk=>[(9, .int .i64 (k:Int))]) (λk W=>(Below N w W)∧(J k W)∧(dr encV 1 W xs fs)∧(k≤fs.length)∧(True)) (λk=>fs.length-k) (0) ⟨rfl,trivial⟩ ⟨hB,hJ,hxs,(me _),trivial⟩ ?_
 rintro k g8 W7 ⟨hB,hJ,hxs,hk,_⟩ J9 c
 refine Zr<|Zv (dq rfl rfl)<|ct<|Zq<|ZQ rfl (λd=> ?_) λd=> ?_
 refine cx<|Zq<|cy<|Zr<|Zv (dp (v:=xs) rfl hxs rfl vU Om Om)<|Zv (cD (v:=(fs.getD k undef)) rfl V5 (dr.cell hxs fZ undef Om Om 0 rfl))<|Zw (fs.getD k undef) rfl<|ct<|Zr<|Zw (fs.getD k undef) rfl ?_
 refine mZ (dd:=some 14) rfl rfl rfl (iu (q:=q k) (first:= #[]) (cap:=cap k) (vs:=cap k) (hfs k Om) (hcb k Om) fF) (hst k _ Om (go hN0 (Below.size hB)) hJ) (λg h f=> ?_)
 obtain⟨hBt,cs,e,hj,hc,h0,h1⟩:=f
 replace hB:=Below.trans hB hBt
 refine ct<|Zr<|Zp rfl<|Zc rfl<|Zf rfl e7<|Zv (cD (v:= .int .i64 e) rfl fe (At.cell hj hc))<|Zv (eV rfl rfl)<|ct<|ZQ rfl (λb=> ?_) λb=> ?_
 refine Zr<|Zb rfl<|ct<|Zt<|cZ (v:= .bool false) rfl ?_
 exact⟨hB, .inr ⟨rfl,h1 b⟩⟩
 refine cx<|ZT rfl rfl rfl ?_
 exact c _ _ (k+1) Za ⟨rfl,trivial⟩ ⟨hB,(h0 (aaS b)),(hsl _ _ (h0 (aaS b))),Om,trivial⟩ Zo
 refine cT<|Zr<|Zb rfl<|ct<|Zt<|cZ (v:= .bool true) rfl ?_
 (obtain rfl:k=fs.length:=(by omega);exact⟨hB, .inl ⟨rfl,hJ⟩⟩)
def Bh (N bp bt bb br bj:Nat) (xs:Value) (fs:List Value) (s:List UInt8) (b0 b1:Int) (W:World):Prop:=
  (∀V,Below N W V→Gl V)∧At W bp #[.pointer (some ⟨bj,0,none⟩)] 125∧At W bt #[ea s] 9∧At W bb #[.int .i64 b0, .int .i64 b1] 49∧At W br #[.string ⟨#[]⟩, .int .i64 0, .int .i64 0, .int .i64 0] 52∧cH encV 1 1 W N xs fs
theorem Bh.dx {xs:Value} (h:Bh N bp bt bb br bj xs fs s b0 b1 W) (hN:N≤W.heap.size) (hX:Dx 127 N [bj] W W') (hj:At W bj cj 127):Bh N bp bt bb br bj xs fs s b0 b1 W':=
  ⟨λV hV=>h.1 V (Below.trans (hX.below2 hN) hV),adF hX hj h.2.1 (by decide),adF hX hj h.2.2.1 (by decide),adF hX hj h.2.2.2.1 (by decide),adF hX hj h.2.2.2.2.1 (by decide),adG hX hj h.2.2.2.2.2 (by decide)⟩
def Lb (N bp bt bb br bj:Nat) (xs:Value) (fs:List Value) (s:List UInt8) (b0 b1:Int):Nat→World→Prop
  |0=>λW=>Bh N bp bt bb br bj xs fs s b0 b1 W∧At W bj #[.int .i64 0, .int .i64 0, .int .i64 0, .slice none 0 0, .int .i64 0, .int .i64 0, .int .i64 0, .slice none 0 0, .int .i64 0, .slice none 0 0, .slice none 0 0, .slice none 0 0, .int .i64 0, .int .i64 0, .int .i64 0, .string ⟨#[]⟩, .int .i64 0, .int .i64 0, .int .i64 0, .int .i64 0, .int .i64 0] 127
  |1=>λW=>Bh N bp bt bb br bj xs fs s b0 b1 W∧(cF s).2.2=0∧∃lv vs,At W bj #[.int .i64 (cF s).1.kind, .int .i64 (cF s).1.ni, .int .i64 (cF s).1.no,lv, .int .i64 0, .int .i64 0, .int .i64 0, .slice none 0 0, .int .i64 0, .slice none 0 0, .slice none 0 0, .slice none 0 0, .int .i64 0, .int .i64 0, .int .i64 0, .string ⟨#[]⟩, .int .i64 0, .int .i64 0, .int .i64 0, .int .i64 ((cF s).2.1:Int), .int .i64 0] 127∧cH il 3 37 W N lv vs∧gf 3 N W vs (cF s).1.ls
  |2=>λW=>Bh N bp bt bb br bj xs fs s b0 b1 W∧(cF s).2.2=0∧oD (cF s).1=0∧∃lv onV mayV,At W bj #[.int .i64 (cF s).1.kind, .int .i64 (cF s).1.ni, .int .i64 (cF s).1.no,lv, .int .i64 0, .int .i64 0, .int .i64 0, .slice none 0 0, .int .i64 (eq (cF s).1).n,onV,mayV, .slice none 0 0, .int .i64 0, .int .i64 0, .int .i64 0, .string ⟨#[]⟩, .int .i64 0, .int .i64 0, .int .i64 0, .int .i64 ((cF s).2.1:Int), .int .i64 0] 127∧cH eX 4 40 W N onV ((eq (cF s).1).on)∧cH eX 4 40 W N mayV ((eq (cF s).1).may)
  |3=>λW=>Bh N bp bt bb br bj xs fs s b0 b1 W∧(cF s).2.2=0∧oD (cF s).1=0∧oK b0 b1∧∃lv onV mayV x how why sp Rr,At W bj #[.int .i64 (cF s).1.kind, .int .i64 (cF s).1.ni, .int .i64 (cF s).1.no,lv, .int .i64 0, .int .i64 0, .int .i64 0, .slice none 0 0, .int .i64 (eq (cF s).1).n,onV,mayV,x, .int .i64 how, .int .i64 why, .int .i64 sp, .string ⟨#[]⟩, .int .i64 0, .int .i64 0, .int .i64 0, .int .i64 ((cF s).2.1:Int), .int .i64 0] 127∧cH eX 4 40 W N onV ((eq (cF s).1).on)∧cH eX 4 40 W N mayV ((eq (cF s).1).may)∧cH gz 3 158 W N x (Rr)∧JE b0.toNat b1.toNat (eq (cF s).1) how why sp Rr
  |4=>λW=>Bh N bp bt bb br bj xs fs s b0 b1 W∧(cF s).2.2=0∧oD (cF s).1=0∧oK b0 b1∧∃lv onV mayV x how why sp Rr lv2 vs2,At W bj #[.int .i64 (cF s).1.kind, .int .i64 (cF s).1.ni, .int .i64 (cF s).1.no,lv, .int .i64 (oE (eq (cF s).1) Rr).kind, .int .i64 (oE (eq (cF s).1) Rr).ni, .int .i64 (oE (eq (cF s).1) Rr).no,lv2, .int .i64 (eq (cF s).1).n,onV,mayV,x, .int .i64 how, .int .i64 why, .int .i64 sp, .string ⟨#[]⟩, .int .i64 0, .int .i64 0, .int .i64 0, .int .i64 ((cF s).2.1:Int), .int .i64 0] 127∧cH gz 3 158 W N x (Rr)∧JE b0.toNat b1.toNat (eq (cF s).1) how why sp Rr∧cH il 3 37 W N lv2 vs2∧gf 3 N W vs2 (oE (eq (cF s).1) Rr).ls
  |_=>λW=>Bh N bp bt bb br bj xs fs s b0 b1 W∧(cF s).2.2=0∧oD (cF s).1=0∧oK b0 b1∧∃lv onV mayV x how why sp Rr lv2,At W bj #[.int .i64 (cF s).1.kind, .int .i64 (cF s).1.ni, .int .i64 (cF s).1.no,lv, .int .i64 (oE (eq (cF s).1) Rr).kind, .int .i64 (oE (eq (cF s).1) Rr).ni, .int .i64 (oE (eq (cF s).1) Rr).no,lv2, .int .i64 (eq (cF s).1).n,onV,mayV,x, .int .i64 how, .int .i64 why, .int .i64 sp,ea (js (oE (eq (cF s).1) Rr)), .int .i64 0, .int .i64 0, .int .i64 0, .int .i64 ((cF s).2.1:Int), .int .i64 0] 127∧cH gz 3 158 W N x (Rr)∧JE b0.toNat b1.toNat (eq (cF s).1) how why sp Rr
def aac (N bp bt bb br bj:Nat) (xs:Value) (fs:List Value) (s:List UInt8) (b0 b1:Int) (W:World):Prop:=At W bp #[.pointer (some ⟨bj,0,none⟩)] 125∧At W br #[.string ⟨#[]⟩, .int .i64 0, .int .i64 0, .int .i64 0] 52∧∃cs ln e,At W bj cs 127∧cs[19]? =some (.int .i64 ln)∧cs[20]? =some (.int .i64 e)∧Dp s b0 b1 ln e
theorem Lb.xs {xs:Value}:∀k W,Lb N bp bt bb br bj xs fs s b0 b1 k W→dr encV 1 W xs fs:=by
  intro k W h
  have hC:Bh N bp bt bb br bj xs fs s b0 b1 W:=by
    match k,h with
    |0,h|1,h|2,h|3,h|4,h|_+5,h=>exact h.1
  exact hC.2.2.2.2.2.sl
def aaN:Nat→Nat:=qF5 69 70 71 72 73
def pv (b:Nat):Value:= .pointer (some ⟨b,0,none⟩)
def Nc (bp bt bb:Nat):Nat→Array Value:=cF5 #[pv bt,pv bp] #[pv bp] #[pv bp,pv bb] #[pv bp] #[pv bp]
theorem Np {xs:Value} (loj:N≤bj) (hsl:s.length≤100000) (hfew:yh s 4 3):∀k W,k<5→N≤W.heap.size→Lb N bp bt bb br bj xs fs s b0 b1 k W→
    lk Tryz.prog (aaN k) (Nc bp bt bb k) W λv W'=>Below N W W'∧∃cs e,At W' bj cs 127∧cs[20]? =some (.int .i64 e)∧(e=0→Lb N bp bt bb br bj xs fs s b0 b1 (k+1) W')∧(¬e=0→aac N bp bt bb br bj xs fs s b0 b1 W'):=by
  intro k W hk hN hI
  match k,hk,hI with
  |0,_,hI=>
    obtain⟨hC,hj⟩:=hI
    refine lk.mono (F6 N bj bp bt s W hN hC.1 hC.2.1 loj hj hC.2.2.1 hsl) λv W' ⟨hX,lv,vs,h1,h2,h3⟩=>⟨hX.below2 hN,_,_,h1,rfl,λe=>⟨hC.dx hN hX hj,e,lv,vs,by rw[e]at h1;exact h1,h2,h3⟩,λe=>⟨(hC.dx hN hX hj).2.1,(hC.dx hN hX hj).2.2.2.2.1,_,_,_,h1,rfl,rfl, .inl ⟨e,rfl,rfl⟩⟩⟩
  |1,_,hI=>
    obtain⟨hC,hp,lv,vs,hj,hlv,hls⟩:=hI
    refine lk.mono (Fj N bj bp (cF s).1 lv vs _ W hN hC.1 hC.2.1 loj hj hlv hls (vS s)) λv W' ⟨hX,h⟩=>⟨hX.below2 hN,?_⟩
    rcases h with ⟨h0,onV,mayV,h1,h2,h3⟩|⟨h0,h1⟩
    · exact⟨_,_,h1,rfl,λ_=>⟨hC.dx hN hX hj,hp,h0,lv,onV,mayV,h1,h2,h3⟩,λe=>absurd rfl e⟩
    · exact⟨_,_,h1,rfl,λe=>absurd e h0,λ_=>⟨(hC.dx hN hX hj).2.1,(hC.dx hN hX hj).2.2.2.2.1,_,_,_,h1,rfl,rfl, .inr (.inl ⟨hp,h0,by rw[Fk hp];rfl,rfl⟩)⟩⟩
  |2,_,hI=>
    obtain⟨hC,hp,h0,lv,onV,mayV,hj,hon,hmay⟩:=hI
    refine lk.mono (Fb N bj bp bb (eq (cF s).1) onV mayV b0 b1 _ _ _ _ _ W hN hC.1 hC.2.1 loj hj hon hmay hC.2.2.2.1 (pO hfew hp)) λv W' ⟨hX,h⟩=>⟨hX.below2 hN,?_⟩
    rcases h with ⟨hb,x,how,why,sp,Rr,h1,h2,h3⟩|⟨hb,h1⟩
    · exact⟨_,_,h1,rfl,λ_=>⟨hC.dx hN hX hj,hp,h0,hb.2,lv,onV,mayV,x,how,why,sp,Rr,h1,adG hX hj hon (by decide),adG hX hj hmay (by decide),h2,h3⟩,λe=>absurd rfl e⟩
    · exact⟨_,_,h1,rfl,λe=>absurd e (by decide),λ_=>⟨(hC.dx hN hX hj).2.1,(hC.dx hN hX hj).2.2.2.2.1,_,_,_,h1,rfl,rfl, .inr (.inr ⟨hp,h0,λk=>hb ⟨mi h0,k⟩,by rw[Fk hp];rfl,rfl⟩)⟩⟩
  |3,_,hI=>
    obtain⟨hC,hp,h0,hb,lv,onV,mayV,x,how,why,sp,Rr,hj,hon,hmay,hx,hmo⟩:=hI
    have hr:=mi h0
    obtain⟨hcv,h48⟩:=Hp hr (pO hfew hp hr).1 (pO hfew hp hr).2 hmo
    have hm:=(eW.1 hcv).2.1
    refine lk.mono (GE N bj bp (eq (cF s).1) onV mayV x Rr _ _ _ _ _ _ _ _ W hN hC.1 hC.2.1 loj hj hon hmay hx hr hm (Qy hr hm) (by omega)) λv W' ⟨hX,lv2,vs2,h1,h2,h3⟩=>⟨hX.below2 hN,_,_,h1,rfl,λ_=>⟨hC.dx hN hX hj,hp,h0,hb,lv,onV,mayV,x,how,why,sp,Rr,lv2,vs2,h1,adG hX hj hx (by decide),hmo,h2,h3⟩,λe=>absurd rfl e⟩
  |4,_,hI=>
    obtain⟨hC,hp,h0,hb,lv,onV,mayV,x,how,why,sp,Rr,lv2,vs2,hj,hx,hmo,hlv2,hls2⟩:=hI
    have hr:=mi h0
    obtain⟨hcv,h48⟩:=Hp hr (pO hfew hp hr).1 (pO hfew hp hr).2 hmo
    have hT:=s6 hr (eW.1 hcv).2.1 (show Rr.length≤64 by omega)
    refine lk.mono (GU N bj bp (oE (eq (cF s).1) Rr) lv2 vs2 _ _ _ _ _ _ _ _ _ _ _ _ W hN hC.1 hC.2.1 loj hj hlv2 hls2 (Gg hT) hT) λv W' ⟨hX,h1⟩=>⟨hX.below2 hN,_,_,h1,rfl,λ_=>⟨hC.dx hN hX hj,hp,h0,hb,lv,onV,mayV,x,how,why,sp,Rr,lv2,h1,adG hX hj hx (by decide),hmo⟩,λe=>absurd rfl e⟩
  |k+5,hk,_=>exact absurd hk (by omega)
set_option maxHeartbeats 4000000 in
theorem sY (s:List UInt8) (b0 b1:Int) (w:World) (hgl:Gl w) (hsl:s.length≤100000) (hfew:yh s 4 3):
    Fn Tryz.prog 23 #[ea s, .agg #[.int .i64 b0, .int .i64 b1]] w λv w'=>∃tx how why rows ln e,v= .tuple #[.agg #[ea tx, .int .i64 how, .int .i64 why, .int .i64 rows], .int .i64 ln, .int .i64 e]∧x6 s b0 b1 tx how why rows ln e:=by
 refine cK (n:=62) Tryz.func23 rfl rfl rfl λhB=> ?_
 refine Zr<|Zy (du (c:= #[_]) rfl rfl λm W3 ai K h=> ?_)
 replace hB:=Ze hB K
 refine Zy (du (c:= #[_,_]) rfl rfl λo W6 aj L j=> ?_)
 obtain⟨hB,h⟩:=L.k2 hB h
 refine Zy (cM wM rfl λy W9 M N p=> ?_)
 have G:=ZO M hB
 obtain⟨hB,h,j⟩:=N.k3 hB h j
 refine Zi rfl<|ZZ rfl<|Zr<|Zv (vA)<|Zy (du (c:= #[_,_,_,_,_,_,_,_,_,_,_,_,_,_,_,_,_,_,_,_,_]) rfl rfl λf ak O P q=> ?_)
 have z:=ZO O hB
 obtain⟨hB,h,j,p⟩:=P.k4 hB h j p
 refine Zy (cM Ky rfl λd al Q R i=> ?_)
 have S:=ZO Q hB
 obtain⟨hB,h,j,p,q⟩:=R.k5 hB h j p q
 refine Zy (de (v:= .pointer (some ⟨f,0,none⟩)) rfl rfl dD rfl i Lp λao r T=> ?_)
 replace hB:=Zg hB r S
 replace h:=At.grownAt h i r Dd
 replace j:=At.grownAt j i r Dd
 replace p:=At.grownAt p i r Dd
 replace q:=At.grownAt q i r Dd
 replace i:=T
 replace i:At _ _ #[_] _:=i
 refine ct<|Zr<|ZL (.pointer (some ⟨f,0,none⟩)) rfl dD i rfl<|Zv (eU (vs:= #[.pointer (some ⟨m,0,none⟩), .pointer (some ⟨d,0,none⟩)]) Bi)<|Zv (eU (vs:= #[.pointer (some ⟨d,0,none⟩)]) Bi)<|Zv (eU (vs:= #[.pointer (some ⟨d,0,none⟩), .pointer (some ⟨o,0,none⟩)]) Bi)<|Zv (eU (vs:= #[.pointer (some ⟨d,0,none⟩)]) Bi)<|Zv (eU (vs:= #[.pointer (some ⟨d,0,none⟩)]) Bi)<|Zy (OC (u0:= .func (.func 69) #[] #[.pointer (some ⟨m,0,none⟩), .pointer (some ⟨d,0,none⟩)]) (u1:= .func (.func 70) #[] #[.pointer (some ⟨d,0,none⟩)]) (u2:= .func (.func 71) #[] #[.pointer (some ⟨d,0,none⟩), .pointer (some ⟨o,0,none⟩)]) (u3:= .func (.func 72) #[] #[.pointer (some ⟨d,0,none⟩)]) (u4:= .func (.func 73) #[] #[.pointer (some ⟨d,0,none⟩)]) rfl rfl rfl rfl rfl vU M9 rfl rfl rfl rfl rfl λH ap U W X=> ?_)
 have Y:=ZO U hB
 obtain⟨hB,h,j,p,q,i⟩:=W.k6 hB h j p q i
 have C:=Fe X Y
 replace C:cH encV 1 _ _ _ _ (SY 69 70 71 72 73 #[pv m,pv d] #[pv d] #[pv d,pv o] #[pv d] #[pv d]):=C
 refine ZH O7 (mR w.heap.size f _ (SY 69 70 71 72 73 #[pv m,pv d] #[pv d] #[pv d,pv o] #[pv d] #[pv d]) aaN (Nc d m o) (Lb w.heap.size d m o y f (.slice (some ⟨H,0,none⟩) 5 5) (SY 69 70 71 72 73 #[pv m,pv d] #[pv d] #[pv d,pv o] #[pv d] #[pv d]) s b0 b1) (aac w.heap.size d m o y f (.slice (some ⟨H,0,none⟩) 5 5) (SY 69 70 71 72 73 #[pv m,pv d] #[pv d] #[pv d,pv o] #[pv d] #[pv d]) s b0 b1) _ (Below.size hB) Lb.xs (show 5≤100 by decide) (λk hk=>Jl hk) (λk _=>fB5 Vm V0 XS VC Xa) ⟨⟨λV hV=>Gl.below (Below.trans hB hV) hgl,i,h,j,p,C⟩,q⟩ (Np z hsl hfew)) rfl λaq ar Z=> ?_
 obtain⟨hBt,hR⟩:=Z
 replace hB:=Below.trans hB hBt
 rcases hR with hR|hR
 obtain⟨rfl,⟨_,hbp,_,_,hbr,_⟩,hp,hof,hbd,lv,onV,mayV,x,how,why,sp,Rr,au,hbj,hx,hmo⟩:=hR
 refine Zb rfl<|ct<|Zq<|Zr<|Zb rfl<|Zv (eK rfl)<|ct<|dE rfl<|cx<|Zd (λa b=>EI f 16 a b) λI aa=> ?_
 obtain⟨hB,hbp,hbr,hbj,hx⟩:=aa.k5 hB hbp hbr hbj hx
 have l:=hbj
 have hS:EI f 16 I I:=EI.refl
 refine Tk 0 rfl (λ_ hq=>cD (v:= .pointer (some ⟨f,0,none⟩)) rfl dD (At.cell (At.grownAt hbp l hq.g Dd) rfl)) hS<|Tk 1 rfl (λ_ hq=>cD (v:= .pointer (some ⟨f,0,none⟩)) rfl dD (At.cell (At.grownAt hbp l hq.g Dd) rfl)) hS<|Tk 2 rfl (λ_ hq=>cD (v:= .pointer (some ⟨f,0,none⟩)) rfl dD (At.cell (At.grownAt hbp l hq.g Dd) rfl)) hS<|Tk 3 rfl (λ_ hq=>cD (v:= .pointer (some ⟨f,0,none⟩)) rfl dD (At.cell (At.grownAt hbp l hq.g Dd) rfl)) hS<|Tc 4 rfl rfl hS<|Tf 5 rfl rfl mf hS<|Tf 6 rfl rfl LG hS<|Tk 7 rfl (λ_ hq=>cD (v:= .int .i64 _) rfl cR (EI.cell hq l Dd rfl)) hS<|Tk 8 rfl (λ_ hq=>cD (v:= .pointer (some ⟨f,0,none⟩)) rfl dD (At.cell (At.grownAt hbp l hq.g Dd) rfl)) hS<|Tc 9 rfl rfl hS<|Tf 10 rfl rfl mf hS<|Tf 11 rfl rfl LV hS<|Tk 12 rfl (λ_ hq=>cD (v:= .int .i64 _) rfl fe (EI.cell hq l Dd rfl)) hS<|Tk 13 rfl (λ_ hq=>cD (v:= .pointer (some ⟨f,0,none⟩)) rfl dD (At.cell (At.grownAt hbp l hq.g Dd) rfl)) hS ?_
 refine Tc 14 rfl rfl hS<|Tf 15 rfl rfl mf hS<|Tf 16 rfl rfl tt hS<|Tk 17 rfl (λ_ hq=>cD (v:=x) rfl nn (EI.cell hq l Dd rfl)) hS<|Tk 18 rfl (λ_ hq=>db (v:=x) rfl ((cH.grownAt hx l hq.g Dd)).sl dM) hS<|Tc 19 rfl rfl hS<|Tf 20 rfl rfl nS hS<|Tf 21 rfl rfl tk hS<|To 22 rfl (de (v:= .int .i64 _) rfl rfl cR rfl hbj fF λav t D=>⟨.inl (adO hS hbj t D (by decide)),?_⟩)
 replace hS:=adO hS hbj t D Dd
 replace hB:=Zg hB t z
 replace hbp:=At.grownAt hbp hbj t Dd
 replace hbr:=At.grownAt hbr hbj t Dd
 replace hbj:=D
 replace hbj:At _ _ #[_,_,_,_,_,_,_,_,_,_,_,_,_,_,_,_,_,_,_,_,_] _:=hbj
 refine Tc 23 rfl rfl hS<|Tf 24 rfl rfl nS hS<|Tf 25 rfl rfl LR hS<|To 26 rfl (de (v:= .int .i64 _) rfl rfl fe rfl hbj fF λaw u E=>⟨.inl (adO hS hbj u E (by decide)),?_⟩)
 replace hS:=adO hS hbj u E Dd
 replace hB:=Zg hB u z
 replace hbp:=At.grownAt hbp hbj u Dd
 replace hbr:=At.grownAt hbr hbj u Dd
 replace hbj:=E
 replace hbj:At _ _ #[_,_,_,_,_,_,_,_,_,_,_,_,_,_,_,_,_,_,_,_,_] _:=hbj
 refine Tc 27 rfl rfl hS<|Tf 28 rfl rfl nS hS<|Tf 29 rfl rfl sV hS<|To 30 rfl (de (v:= .int .i64 _) rfl rfl cR rfl hbj fF λax A J=>⟨.inl (adO hS hbj A J (by decide)),?_⟩)
 replace hB:=Zg hB A z
 replace hbp:=At.grownAt hbp hbj A Dd
 replace hbr:=At.grownAt hbr hbj A Dd
 replace hbj:=J
 replace hbj:At _ _ #[_,_,_,_,_,_,_,_,_,_,_,_,_,_,_,_,_,_,_,_,_] _:=hbj
 refine Td<|Zr<|ZL (.pointer (some ⟨f,0,none⟩)) rfl dD hbp rfl<|Zc rfl<|Zf rfl nS<|Zv (eI rfl np (At.cell hbj rfl) (At.cell hbj rfl) (At.cell hbj rfl) (At.cell hbj rfl))<|Zy (cA rfl rfl np rfl hbr rfl rfl λay ab ac=> ?_)
 replace hB:=Zg hB ab G
 replace hbr:=ac
 refine Zi rfl<|ZZ rfl<|Zt<|jM rfl np hbr rfl (v1:= .int .i64 0) rfl (v2:= .int .i64 0) rfl ⟨hB,?_⟩
 exact⟨_,_,_,_,_,_,rfl, .inr ⟨hp,hof,hbd,rfl,rfl,sp,Rr,hmo,rfl,rfl⟩⟩
 obtain⟨rfl,hbp,hbr,cs,ln,er,hbj,ad,ae,herr⟩:=hR
 refine Zb rfl<|ct<|Zq<|Zr<|Zb rfl<|Zv (eK rfl)<|ct<|cN rfl<|Zd (λa b=>a.grownBy b (some y)) λaf ag=> ?_
 obtain⟨hB,hbp,hbr,hbj⟩:=ag.k4 hB hbp hbr hbj
 have B:=hbr
 have hS:=World.grownBy.refl af (some y)
 refine Tk 0 rfl (λ_ _=>GW) hS<|Tk 1 rfl (λ_ hq=>cD (v:= .pointer (some ⟨f,0,none⟩)) rfl dD (At.cell (At.grownAt hbp B hq Dd) rfl)) hS<|Tc 2 rfl rfl hS<|Tf 3 rfl rfl ze hS<|Tk 4 rfl (λ_ hq=>cD (v:= .int .i64 ln) rfl cR (At.cell (At.grownAt hbj B hq Dd) ad)) hS<|Tk 5 rfl (λ_ hq=>cD (v:= .pointer (some ⟨f,0,none⟩)) rfl dD (At.cell (At.grownAt hbp B hq Dd) rfl)) hS<|Tc 6 rfl rfl hS<|Tf 7 rfl rfl e7 hS<|Tk 8 rfl (λ_ hq=>cD (v:= .int .i64 er) rfl fe (At.cell (At.grownAt hbj B hq Dd) ae)) hS<|To 9 rfl (cA rfl rfl np rfl hbr rfl rfl λaz F ah=>⟨.inl (cB hS F),?_⟩)
 replace hS:=cB hS F
 replace hB:=Zg hB F G
 replace hbr:=ah
 refine Ti 10 rfl rfl hS<|Ti 11 rfl rfl hS<|Td<|Zt<|jM rfl np hbr rfl (v1:= .int .i64 _) rfl (v2:= .int .i64 _) rfl ⟨hB,?_⟩
 exact⟨_,_,_,_,_,_,rfl, .inl ⟨herr,rfl,rfl,rfl,rfl⟩⟩
end
section
theorem Bp (N bj bp:Nat) (T U:Tb) (lv lu s0 s1 s2:Value) (w:World) (hN0:N≤w.heap.size) (hgl:∀W,Below N w W→Gl W) (hbp:At w bp #[.pointer (some ⟨bj,0,none⟩)] 125) (loj:N≤bj) (hbj:At w bj #[.int .i64 T.kind, .int .i64 T.ni, .int .i64 T.no,lv, .int .i64 U.kind, .int .i64 U.ni, .int .i64 U.no,lu,s0,s1,s2, .slice none 0 0, .int .i64 0, .int .i64 0, .int .i64 0, .string ⟨#[]⟩, .int .i64 0, .int .i64 0, .int .i64 0, .int .i64 0, .int .i64 0] 127):
    lk Tryz.prog 77 #[.pointer (some ⟨bp,0,none⟩)] w λv w'=>Dx 127 N [bj] w w'∧(((U.kind=1∧U.ni=T.ni∧U.no=T.no)∧At w' bj #[.int .i64 T.kind, .int .i64 T.ni, .int .i64 T.no,lv, .int .i64 U.kind, .int .i64 U.ni, .int .i64 U.no,lu,s0,s1,s2, .slice none 0 0, .int .i64 0, .int .i64 0, .int .i64 0, .string ⟨#[]⟩, .int .i64 0, .int .i64 0, .int .i64 0, .int .i64 0, .int .i64 0] 127)∨(¬(U.kind=1∧U.ni=T.ni∧U.no=T.no)∧At w' bj #[.int .i64 T.kind, .int .i64 T.ni, .int .i64 T.no,lv, .int .i64 U.kind, .int .i64 U.ni, .int .i64 U.no,lu,s0,s1,s2, .slice none 0 0, .int .i64 0, .int .i64 0, .int .i64 0, .string ⟨#[]⟩, .int .i64 0, .int .i64 0, .int .i64 0, .int .i64 0, .int .i64 1] 127)):=by
 refine dL (n:=36) (N:=N) Tryz.func77 rfl rfl rfl λhB=> ?_
 have hX:Dx 127 N [bj] w w:=Dx.refl
 refine Zd dA λW3 a=> ?_
 obtain⟨hbp,hbj,hX⟩:=a.k3 hbp hbj hX
 have hS:=dA.refl W3
 refine Tk 0 rfl (λ_ hq=>cD (v:= .pointer (some ⟨bj,0,none⟩)) rfl dD (At.cell (hq.at hbp) rfl)) hS<|Tc 1 rfl rfl hS<|Tf 2 rfl rfl jU hS<|Tf 3 rfl rfl mz hS<|Tk 4 rfl (λ_ hq=>cD (v:= .int .i64 _) rfl cR (At.cell (hq.at hbj) rfl)) hS<|Tk 5 rfl (λ_ _=>eV rfl rfl) hS<|Tx 6 rfl (λ_ _=>jV (v:= .bool _) rfl) hS (λb=> ?_) λb=> ?_
 refine Tp 7 rfl hS<|Tp 8 rfl hS<|Tp 9 rfl hS<|Tp 10 rfl hS<|Tp 11 rfl hS<|Tp 12 rfl hS<|Tp 13 rfl hS<|Tp 14 rfl hS<|Tp 15 rfl hS<|Tp 16 rfl hS<|Tp 17 rfl hS<|Ty 18 rfl rfl hS<|Ty 19 rfl rfl hS<|Tp 20 rfl hS ?_
 refine Tp 21 rfl hS<|Tp 22 rfl hS<|Tp 23 rfl hS<|Tp 24 rfl hS<|Tp 25 rfl hS<|Tp 26 rfl hS<|Tp 27 rfl hS<|Tp 28 rfl hS<|Tp 29 rfl hS<|Tp 30 rfl hS<|Ty 31 rfl rfl hS<|Td<|cN rfl<|cI ?_
 refine ZL (.pointer (some ⟨bj,0,none⟩)) rfl dD hbp rfl<|Zc rfl<|Zf rfl e7<|Zy (de (v:= .int .i64 1) rfl rfl fe rfl hbj fF λW5 c d=> ?_)
 replace hX:=Dx.trans hX (acK c loj)
 replace hbj:=d
 replace hbj:At _ _ #[_,_,_,_,_,_,_,_,_,_,_,_,_,_,_,_,_,_,_,_,_] _:=hbj
 refine ct ?_
 repeat (first|refine eS ?_|refine eA ?_)
 refine eB ?_
 repeat (first|refine dZ ?_|refine dI ?_)
 refine ob ?_
 exact⟨hX, .inr ⟨by omega,hbj⟩⟩
 refine Tk 7 rfl (λ_ hq=>cD (v:= .pointer (some ⟨bj,0,none⟩)) rfl dD (At.cell (hq.at hbp) rfl)) hS<|Tc 8 rfl rfl hS<|Tf 9 rfl rfl jU hS<|Tf 10 rfl rfl f6 hS<|Tk 11 rfl (λ_ hq=>cD (v:= .int .i64 _) rfl cR (At.cell (hq.at hbj) rfl)) hS<|Tk 12 rfl (λ_ hq=>cD (v:= .pointer (some ⟨bj,0,none⟩)) rfl dD (At.cell (hq.at hbp) rfl)) hS<|Tc 13 rfl rfl hS<|Tf 14 rfl rfl mA hS<|Tf 15 rfl rfl f6 hS<|Tk 16 rfl (λ_ hq=>cD (v:= .int .i64 _) rfl cR (At.cell (hq.at hbj) rfl)) hS<|Tk 17 rfl (λ_ _=>eV rfl rfl) hS<|Ty 18 rfl rfl hS<|Tx 19 rfl (λ_ _=>jV (v:= .bool _) rfl) hS (λe=> ?_) λe=> ?_
 refine Tp 20 rfl hS<|Tp 21 rfl hS<|Tp 22 rfl hS<|Tp 23 rfl hS<|Tp 24 rfl hS<|Tp 25 rfl hS<|Tp 26 rfl hS<|Tp 27 rfl hS<|Tp 28 rfl hS<|Tp 29 rfl hS<|Tp 30 rfl hS<|Ty 31 rfl rfl hS<|Td<|cN rfl ?_
 refine cI<|ZL (.pointer (some ⟨bj,0,none⟩)) rfl dD hbp rfl<|Zc rfl<|Zf rfl e7<|Zy (de (v:= .int .i64 1) rfl rfl fe rfl hbj fF λW8 f g=> ?_)
 replace hX:=Dx.trans hX (acK f loj)
 replace hbj:=g
 replace hbj:At _ _ #[_,_,_,_,_,_,_,_,_,_,_,_,_,_,_,_,_,_,_,_,_] _:=hbj
 refine ct ?_
 repeat (first|refine eS ?_|refine eA ?_)
 refine eB ?_
 repeat (first|refine dZ ?_|refine dI ?_)
 refine ob ?_
 exact⟨hX, .inr ⟨by omega,hbj⟩⟩
 refine Tk 20 rfl (λ_ hq=>cD (v:= .pointer (some ⟨bj,0,none⟩)) rfl dD (At.cell (hq.at hbp) rfl)) hS<|Tc 21 rfl rfl hS<|Tf 22 rfl rfl jU hS<|Tf 23 rfl rfl gN hS<|Tk 24 rfl (λ_ hq=>cD (v:= .int .i64 _) rfl cR (At.cell (hq.at hbj) rfl)) hS<|Tk 25 rfl (λ_ hq=>cD (v:= .pointer (some ⟨bj,0,none⟩)) rfl dD (At.cell (hq.at hbp) rfl)) hS<|Tc 26 rfl rfl hS<|Tf 27 rfl rfl mA hS<|Tf 28 rfl rfl gN hS<|Tk 29 rfl (λ_ hq=>cD (v:= .int .i64 _) rfl cR (At.cell (hq.at hbj) rfl)) hS<|Tk 30 rfl (λ_ _=>eV rfl rfl) hS<|Ty 31 rfl rfl hS<|Td<|ZQ rfl (λh=> ?_) λh=> ?_
 refine cI<|ZL (.pointer (some ⟨bj,0,none⟩)) rfl dD hbp rfl<|Zc rfl<|Zf rfl e7<|Zy (de (v:= .int .i64 1) rfl rfl fe rfl hbj fF λk i j=> ?_)
 replace hX:=Dx.trans hX (acK i loj)
 replace hbj:=j
 replace hbj:At _ _ #[_,_,_,_,_,_,_,_,_,_,_,_,_,_,_,_,_,_,_,_,_] _:=hbj
 refine ct ?_
 repeat (first|refine eS ?_|refine eA ?_)
 refine eB ?_
 repeat (first|refine dZ ?_|refine dI ?_)
 refine ob ?_
 exact⟨hX, .inr ⟨by omega,hbj⟩⟩
 refine cx ?_
 repeat (first|refine eS ?_|refine eA ?_)
 refine eB ?_
 repeat (first|refine dZ ?_|refine dI ?_)
 refine ob ?_
 exact⟨hX, .inl ⟨⟨by omega,by omega,by omega⟩,hbj⟩⟩
theorem Bf (N bj bp:Nat) (U:Tb) (lu:Value) (us:List CV) (t0 t1 t2 t3 s0 s1 s2:Value) (bg:Nat) (w:World) (hN0:N≤w.heap.size) (hgl:∀W,Below N w W→Gl W) (hbp:At w bp #[.pointer (some ⟨bj,0,none⟩)] 125) (loj:N≤bj) (hbj:At w bj #[t0,t1,t2,t3, .int .i64 U.kind, .int .i64 U.ni, .int .i64 U.no,lu,s0,s1,s2, .slice none 0 0, .int .i64 0, .int .i64 0, .int .i64 0, .string ⟨#[]⟩, .int .i64 0, .int .i64 0, .int .i64 0, .int .i64 0, .int .i64 0] 127) (hlv:cH il 3 37 w N lu (us)) (hls:gf 3 N w us U.ls) (hmb:∀i,i<U.ls.length→(U.ls.getD i jH).c.m<256∧(U.ls.getD i jH).c.v<256) (hbg:At w bg #[.int .i64 0, .slice none 0 0, .slice none 0 0] 59) (log:N≤bg):
    lk Tryz.prog 78 #[.pointer (some ⟨bp,0,none⟩), .pointer (some ⟨bg,0,none⟩)] w λv w'=>Dx 127 N [bj,bg] w w'∧((oD U=0∧∃onV mayV,At w' bj #[t0,t1,t2,t3, .int .i64 U.kind, .int .i64 U.ni, .int .i64 U.no,lu,s0,s1,s2, .slice none 0 0, .int .i64 0, .int .i64 0, .int .i64 0, .string ⟨#[]⟩, .int .i64 0, .int .i64 0, .int .i64 0, .int .i64 0, .int .i64 0] 127∧At w' bg #[.int .i64 U.ni,onV,mayV] 59∧cH eX 4 40 w' N onV (pR U U.no.toNat)∧cH eX 4 40 w' N mayV (ly U U.no.toNat))∨(¬oD U=0∧At w' bj #[t0,t1,t2,t3, .int .i64 U.kind, .int .i64 U.ni, .int .i64 U.no,lu,s0,s1,s2, .slice none 0 0, .int .i64 0, .int .i64 0, .int .i64 0, .string ⟨#[]⟩, .int .i64 0, .int .i64 0, .int .i64 0, .int .i64 0, .int .i64 (oD U)] 127)):=by
 refine dL (n:=13) (N:=N) Tryz.func78 rfl rfl rfl λhB=> ?_
 have hX:Dx 127 N [bj,bg] w w:=Dx.refl
 refine eR (λa b=>Dx 127 N [bj,bg] a b) fx (λW1 l=> ?_)
 obtain⟨hbp,hbj,hlv,hls,hbg,hX⟩:=l.k6 hbp hbj hlv hls hbg hX
 replace hB:=cX hB l hN0
 have hj0:=hbj
 have o:=hbg
 have hS:Dx 127 N [bj,bg] W1 W1:=Dx.refl
 refine Tk 0 rfl (λ_ hq=>cD (v:= .pointer (some ⟨bj,0,none⟩)) rfl dD (At.cell (At.dx2 hq hj0 o hbp Dd Dd) rfl)) hS<|Tk 1 rfl (λ_ hq=>cD (v:= .pointer (some ⟨bj,0,none⟩)) rfl dD (At.cell (At.dx2 hq hj0 o hbp Dd Dd) rfl)) hS<|Tc 2 rfl rfl hS<|Tf 3 rfl rfl jU hS ?_
 refine iZ (dd:=some 7) 4 jW rfl rfl rfl rfl (Yd.val (eI rfl dV (At.cell hbj rfl) (At.cell hbj rfl) (At.cell hbj rfl) (At.cell hbj rfl)) ⟨.inl hS,?_⟩)
 refine To 5 rfl (TC (vs:=[.agg #[_,_,_,_]]) Es (sP U _ us _ hlv.sl (gf.at hls) hmb) rfl λA W3 p g=>⟨.inl (Dx.trans hS (Dx.ext p)),?_⟩)
 have s:=(go hN0 (Below.size hB))
 obtain⟨hbj,hbg,hX,hS⟩:=p.k4 hbj hbg hX hS
 have q:=s
 rcases g with g|g
 obtain⟨k,t,u,rfl,d,e⟩:=g
 replace d:=cH.mono d q
 replace e:=cH.mono e q
 refine Tw 6 (.tuple #[.agg #[.int .i64 _,t,u], .int .i64 0]) rfl rfl hS<|Tk 7 rfl (λ_ _=>c7 rfl) hS<|Tk 8 rfl (λ_ _=>da rfl) hS<|To 9 rfl (cA rfl rfl d9 rfl hbg rfl (by exact rB (dr.one (cH.sl d)) (dr.one (cH.sl e))) λW7 f x=>⟨.inl (Dx.trans hS (Dx.grown f fF log)),?_⟩)
 replace hS:=Dx.trans hS (Dx.grown f fF log)
 replace hbj:=At.grownAt hbj hbg f Dd
 replace hX:=Dx.trans hX (Dx.grown f fF log)
 replace d:=cH.grownAt d hbg f Dd
 replace e:=cH.grownAt e hbg f Dd
 replace hbg:=x
 refine Tc 10 rfl rfl hS<|Tf 11 rfl rfl e7 hS<|To 12 rfl (de (v:= .int .i64 0) rfl rfl fe rfl hbj fF λB h y=>⟨.inl (Dx.trans hS (Dx.grown h fF loj)),?_⟩)
 replace hbg:=At.grownAt hbg hbj h Dd
 replace hX:=Dx.trans hX (Dx.grown h fF loj)
 replace d:=cH.grownAt d hbj h Dd
 replace e:=cH.grownAt e hbj h Dd
 replace hbj:=y
 replace hbj:At _ _ #[_,_,_,_,_,_,_,_,_,_,_,_,_,_,_,_,_,_,_,_,_] _:=hbj
 refine Td ?_
 repeat (first|refine eS ?_|refine eA ?_)
 refine eB ?_
 repeat (first|refine dZ ?_|refine dI ?_)
 refine ob ?_
 exact⟨hX, .inl ⟨k,_,_,hbj,hbg,d,e⟩⟩
 obtain⟨k,rfl⟩:=g
 refine Tw 6 (.tuple #[.agg #[.int .i64 0, .slice none 0 0, .slice none 0 0], .int .i64 _]) rfl rfl hS<|Tk 7 rfl (λ_ _=>c7 rfl) hS<|Tk 8 rfl (λ_ _=>da rfl) hS<|To 9 rfl (cA rfl rfl d9 rfl hbg rfl (by exact rB rfl rfl) λC j D=>⟨.inl (Dx.trans hS (Dx.grown j fF log)),?_⟩)
 replace hS:=Dx.trans hS (Dx.grown j fF log)
 replace hbj:=At.grownAt hbj hbg j Dd
 replace hX:=Dx.trans hX (Dx.grown j fF log)
 refine Tc 10 rfl rfl hS<|Tf 11 rfl rfl e7 hS<|To 12 rfl (de (v:= .int .i64 _) rfl rfl fe rfl hbj fF λE r z=>⟨.inl (Dx.trans hS (Dx.grown r fF loj)),?_⟩)
 replace hX:=Dx.trans hX (Dx.grown r fF loj)
 replace hbj:=z
 replace hbj:At _ _ #[_,_,_,_,_,_,_,_,_,_,_,_,_,_,_,_,_,_,_,_,_] _:=hbj
 refine Td ?_
 repeat (first|refine eS ?_|refine eA ?_)
 refine eB ?_
 repeat (first|refine dZ ?_|refine dI ?_)
 refine ob ?_
 exact⟨hX, .inr ⟨k,hbj⟩⟩
end
section
def L5 (T U:Tb):Prop:=U.kind=1∧U.ni=T.ni∧U.no=T.no
def Ny (s u:List UInt8) (e:Int):Prop:=
 (¬(cF s).2.2=0∧e=(cF s).2.2)∨((cF s).2.2=0∧¬oD (cF s).1=0∧e=oD (cF s).1)∨((cF s).2.2=0∧oD (cF s).1=0∧¬(cF u).2.2=0∧e=(cF u).2.2)∨
 ((cF s).2.2=0∧oD (cF s).1=0∧(cF u).2.2=0∧¬L5 (cF s).1 (cF u).1∧e=1)∨((cF s).2.2=0∧oD (cF s).1=0∧(cF u).2.2=0∧L5 (cF s).1 (cF u).1∧¬oD (cF u).1=0∧e=oD (cF u).1)
def qW (S G:Sp) (i:Nat):Bool:=dW (S.on.getD i 0) (G.on.getD i 0)&&dW (G.may.getD i 0) (S.may.getD i 0)
def IE (S G:Sp):Bool:=(List.range S.on.length).all (qW S G)
def YN (s u:List UInt8) (b:Bool) (e:Int):Prop:=
 (Ny s u e∧b=false)∨((cF s).2.2=0∧oD (cF s).1=0∧(cF u).2.2=0∧L5 (cF s).1 (cF u).1∧oD (cF u).1=0∧e=0∧b=IE (eq (cF s).1) (eq (cF u).1))
section
variable {S G:Sp} {k:Nat}
theorem ZF (hk:S.on.length≤k) (h:∀q,q<k→qW S G q=true):true=IE S G:=by
 grind [IE,List.all_eq_true]
theorem Vg (hk:k<S.on.length) (h:qW S G k=false):false=IE S G:=by
 grind [IE,List.range,qW,List.all_eq_true]
theorem YV (h1:(!dW (S.on.getD (k:Int).toNat 0) (G.on.getD (k:Int).toNat 0))=false) (h2:(!dW (G.may.getD (k:Int).toNat 0) (S.may.getD (k:Int).toNat 0))=false):qW S G k=true:=by
 grind [Int.toNat_natCast,Bool.not_eq_false',qW]
theorem aaJ (h1:(!dW (S.on.getD (k:Int).toNat 0) (G.on.getD (k:Int).toNat 0))=true):qW S G k=false:=by
 grind [Int.toNat_natCast,Bool.not_eq_true',qW]
theorem ZW (h2:(!dW (G.may.getD (k:Int).toNat 0) (S.may.getD (k:Int).toNat 0))=true):qW S G k=false:=by
 rw[my,Bool.not_eq_true']at h2
 unfold qW
 grind
end
end
section
theorem XU:cY Tryz.prog 74=true:=by kernel_rfl
theorem XH:cY Tryz.prog 75=true:=by kernel_rfl
theorem WB:cY Tryz.prog 76=true:=by kernel_rfl
theorem VO:cY Tryz.prog 77=true:=by kernel_rfl
theorem VF:cY Tryz.prog 78=true:=by kernel_rfl
def xc (N bp bt bu bg bj:Nat) (xs:Value) (fs:List Value) (s u:List UInt8) (W:World):Prop:=
  (∀V,Below N W V→Gl V)∧At W bp #[.pointer (some ⟨bj,0,none⟩)] 125∧At W bt #[ea s] 9∧At W bu #[ea u] 9∧cH encV 1 1 W N xs fs
theorem xc.dx {xs:Value} (h:xc N bp bt bu bg bj xs fs s u W) (hN:N≤W.heap.size) (hX:Dx 127 N [bj] W W') (hj:At W bj cj 127):xc N bp bt bu bg bj xs fs s u W':=
  ⟨λV hV=>h.1 V (Below.trans (hX.below2 hN) hV),adF hX hj h.2.1 (by decide),adF hX hj h.2.2.1 (by decide),adF hX hj h.2.2.2.1 (by decide),adG hX hj h.2.2.2.2 (by decide)⟩
theorem xc.dx2 {xs:Value} (h:xc N bp bt bu bg bj xs fs s u W) (hN:N≤W.heap.size) (hX:Dx 127 N [bj,bg] W W') (hj:At W bj cj 127) (hg:At W bg cg 59):xc N bp bt bu bg bj xs fs s u W':=
  ⟨λV hV=>h.1 V (Below.trans (hX.below2 hN) hV),At.dx2 hX hj hg h.2.1 (by decide) (by decide),At.dx2 hX hj hg h.2.2.1 (by decide) (by decide),At.dx2 hX hj hg h.2.2.2.1 (by decide) (by decide),cH.dx2 hX hj hg h.2.2.2.2 (by decide) (by decide)⟩
def LS (N bp bt bu bg bj:Nat) (xs:Value) (fs:List Value) (s u:List UInt8):Nat→World→Prop
  |0=>λW=>xc N bp bt bu bg bj xs fs s u W∧At W bj #[.int .i64 0, .int .i64 0, .int .i64 0, .slice none 0 0, .int .i64 0, .int .i64 0, .int .i64 0, .slice none 0 0, .int .i64 0, .slice none 0 0, .slice none 0 0, .slice none 0 0, .int .i64 0, .int .i64 0, .int .i64 0, .string ⟨#[]⟩, .int .i64 0, .int .i64 0, .int .i64 0, .int .i64 0, .int .i64 0] 127∧At W bg #[.int .i64 0, .slice none 0 0, .slice none 0 0] 59
  |1=>λW=>xc N bp bt bu bg bj xs fs s u W∧(cF s).2.2=0∧∃lv vs,At W bj #[.int .i64 (cF s).1.kind, .int .i64 (cF s).1.ni, .int .i64 (cF s).1.no,lv, .int .i64 0, .int .i64 0, .int .i64 0, .slice none 0 0, .int .i64 0, .slice none 0 0, .slice none 0 0, .slice none 0 0, .int .i64 0, .int .i64 0, .int .i64 0, .string ⟨#[]⟩, .int .i64 0, .int .i64 0, .int .i64 0, .int .i64 0, .int .i64 0] 127∧At W bg #[.int .i64 0, .slice none 0 0, .slice none 0 0] 59∧cH il 3 37 W N lv vs∧gf 3 N W vs (cF s).1.ls
  |2=>λW=>xc N bp bt bu bg bj xs fs s u W∧(cF s).2.2=0∧oD (cF s).1=0∧∃lv onV mayV,At W bj #[.int .i64 (cF s).1.kind, .int .i64 (cF s).1.ni, .int .i64 (cF s).1.no,lv, .int .i64 0, .int .i64 0, .int .i64 0, .slice none 0 0, .int .i64 (eq (cF s).1).n,onV,mayV, .slice none 0 0, .int .i64 0, .int .i64 0, .int .i64 0, .string ⟨#[]⟩, .int .i64 0, .int .i64 0, .int .i64 0, .int .i64 0, .int .i64 0] 127∧At W bg #[.int .i64 0, .slice none 0 0, .slice none 0 0] 59∧cH eX 4 40 W N onV ((eq (cF s).1).on)∧cH eX 4 40 W N mayV ((eq (cF s).1).may)
  |3=>λW=>xc N bp bt bu bg bj xs fs s u W∧(cF s).2.2=0∧oD (cF s).1=0∧(cF u).2.2=0∧∃lv onV mayV lu us,At W bj #[.int .i64 (cF s).1.kind, .int .i64 (cF s).1.ni, .int .i64 (cF s).1.no,lv, .int .i64 (cF u).1.kind, .int .i64 (cF u).1.ni, .int .i64 (cF u).1.no,lu, .int .i64 (eq (cF s).1).n,onV,mayV, .slice none 0 0, .int .i64 0, .int .i64 0, .int .i64 0, .string ⟨#[]⟩, .int .i64 0, .int .i64 0, .int .i64 0, .int .i64 0, .int .i64 0] 127∧At W bg #[.int .i64 0, .slice none 0 0, .slice none 0 0] 59∧cH eX 4 40 W N onV ((eq (cF s).1).on)∧cH eX 4 40 W N mayV ((eq (cF s).1).may)∧cH il 3 37 W N lu us∧gf 3 N W us (cF u).1.ls
  |4=>λW=>xc N bp bt bu bg bj xs fs s u W∧(cF s).2.2=0∧oD (cF s).1=0∧(cF u).2.2=0∧L5 (cF s).1 (cF u).1∧∃lv onV mayV lu us,At W bj #[.int .i64 (cF s).1.kind, .int .i64 (cF s).1.ni, .int .i64 (cF s).1.no,lv, .int .i64 (cF u).1.kind, .int .i64 (cF u).1.ni, .int .i64 (cF u).1.no,lu, .int .i64 (eq (cF s).1).n,onV,mayV, .slice none 0 0, .int .i64 0, .int .i64 0, .int .i64 0, .string ⟨#[]⟩, .int .i64 0, .int .i64 0, .int .i64 0, .int .i64 0, .int .i64 0] 127∧At W bg #[.int .i64 0, .slice none 0 0, .slice none 0 0] 59∧cH eX 4 40 W N onV ((eq (cF s).1).on)∧cH eX 4 40 W N mayV ((eq (cF s).1).may)∧cH il 3 37 W N lu us∧gf 3 N W us (cF u).1.ls
  |_=>λW=>xc N bp bt bu bg bj xs fs s u W∧(cF s).2.2=0∧oD (cF s).1=0∧(cF u).2.2=0∧L5 (cF s).1 (cF u).1∧oD (cF u).1=0∧∃lv onV mayV lu onG mayG,At W bj #[.int .i64 (cF s).1.kind, .int .i64 (cF s).1.ni, .int .i64 (cF s).1.no,lv, .int .i64 (cF u).1.kind, .int .i64 (cF u).1.ni, .int .i64 (cF u).1.no,lu, .int .i64 (eq (cF s).1).n,onV,mayV, .slice none 0 0, .int .i64 0, .int .i64 0, .int .i64 0, .string ⟨#[]⟩, .int .i64 0, .int .i64 0, .int .i64 0, .int .i64 0, .int .i64 0] 127∧At W bg #[.int .i64 (cF u).1.ni,onG,mayG] 59∧cH eX 4 40 W N onV ((eq (cF s).1).on)∧cH eX 4 40 W N mayV ((eq (cF s).1).may)∧cH eX 4 40 W N onG ((eq (cF u).1).on)∧cH eX 4 40 W N mayG ((eq (cF u).1).may)
def Y1 (N bp bt bu bg bj:Nat) (xs:Value) (fs:List Value) (s u:List UInt8) (W:World):Prop:=At W bp #[.pointer (some ⟨bj,0,none⟩)] 125∧∃cs e,At W bj cs 127∧cs[20]? =some (.int .i64 e)∧Ny s u e
theorem LS.xs {xs:Value}:∀k W,LS N bp bt bu bg bj xs fs s u k W→dr encV 1 W xs fs:=by
  intro k W h
  have hC:xc N bp bt bu bg bj xs fs s u W:=by
    match k,h with
    |0,h|1,h|2,h|3,h|4,h|_+5,h=>exact h.1
  exact hC.2.2.2.2.sl
def YJ:Nat→Nat:=qF5 74 75 76 77 78
def OI (bp bt bu bg:Nat):Nat→Array Value:=cF5 #[pv bt,pv bp] #[pv bp] #[pv bu,pv bp] #[pv bp] #[pv bp,pv bg]
theorem Hw {xs:Value} (loj:N≤bj) (log:N≤bg) (hsl:s.length≤100000) (hul:u.length≤100000):∀k W,k<5→N≤W.heap.size→LS N bp bt bu bg bj xs fs s u k W→
    lk Tryz.prog (YJ k) (OI bp bt bu bg k) W λv W'=>Below N W W'∧∃cs e,At W' bj cs 127∧cs[20]? =some (.int .i64 e)∧(e=0→LS N bp bt bu bg bj xs fs s u (k+1) W')∧(¬e=0→Y1 N bp bt bu bg bj xs fs s u W'):=by
  intro k W hk hN hI
  match k,hk,hI with
  |0,_,hI=>
    obtain⟨hC,hj,hg⟩:=hI
    refine lk.mono (BF N bj bp bt s W hN hC.1 hC.2.1 loj hj hC.2.2.1 hsl) λv W' ⟨hX,lv,vs,h1,h2,h3⟩=>⟨hX.below2 hN,_,_,h1,rfl,λe=>⟨hC.dx hN hX hj,e,lv,vs,by rw[e]at h1;exact h1,adF hX hj hg (by decide),h2,h3⟩,λe=>⟨(hC.dx hN hX hj).2.1,_,_,h1,rfl, .inl ⟨e,rfl⟩⟩⟩
  |1,_,hI=>
    obtain⟨hC,hp,lv,vs,hj,hg,hlv,hls⟩:=hI
    refine lk.mono (BB N bj bp (cF s).1 lv vs W hN hC.1 hC.2.1 loj hj hlv hls (vS s)) λv W' ⟨hX,h⟩=>⟨hX.below2 hN,?_⟩
    rcases h with ⟨h0,onV,mayV,h1,h2,h3⟩|⟨h0,h1⟩
    · exact⟨_,_,h1,rfl,λ_=>⟨hC.dx hN hX hj,hp,h0,lv,onV,mayV,h1,adF hX hj hg (by decide),h2,h3⟩,λe=>absurd rfl e⟩
    · exact⟨_,_,h1,rfl,λe=>absurd e h0,λ_=>⟨(hC.dx hN hX hj).2.1,_,_,h1,rfl, .inr (.inl ⟨hp,h0,rfl⟩)⟩⟩
  |2,_,hI=>
    obtain⟨hC,hp,h0,lv,onV,mayV,hj,hg,hon,hmay⟩:=hI
    refine lk.mono (Bg N bj bp bu u _ _ _ _ _ _ _ W hN hC.1 hC.2.1 loj hj hC.2.2.2.1 hul) λv W' ⟨hX,lu,us,h1,h2,h3⟩=>⟨hX.below2 hN,_,_,h1,rfl,λe=>⟨hC.dx hN hX hj,hp,h0,e,lv,onV,mayV,lu,us,by rw[e]at h1;exact h1,adF hX hj hg (by decide),adG hX hj hon (by decide),adG hX hj hmay (by decide),h2,h3⟩,λe=>⟨(hC.dx hN hX hj).2.1,_,_,h1,rfl, .inr (.inr (.inl ⟨hp,h0,e,rfl⟩))⟩⟩
  |3,_,hI=>
    obtain⟨hC,hp,h0,hq,lv,onV,mayV,lu,us,hj,hg,hon,hmay,hlu,hus⟩:=hI
    refine lk.mono (Bp N bj bp (cF s).1 (cF u).1 lv lu _ _ _ W hN hC.1 hC.2.1 loj hj) λv W' ⟨hX,h⟩=>⟨hX.below2 hN,?_⟩
    rcases h with ⟨hc,h1⟩|⟨hc,h1⟩
    · exact⟨_,_,h1,rfl,λ_=>⟨hC.dx hN hX hj,hp,h0,hq,hc,lv,onV,mayV,lu,us,h1,adF hX hj hg (by decide),adG hX hj hon (by decide),adG hX hj hmay (by decide),adG hX hj hlu (by decide),gf.dxj hX hj hus (by decide)⟩,λe=>absurd rfl e⟩
    · exact⟨_,_,h1,rfl,λe=>absurd e (by decide),λ_=>⟨(hC.dx hN hX hj).2.1,_,_,h1,rfl, .inr (.inr (.inr (.inl ⟨hp,h0,hq,hc,rfl⟩)))⟩⟩
  |4,_,hI=>
    obtain⟨hC,hp,h0,hq,hc,lv,onV,mayV,lu,us,hj,hg,hon,hmay,hlu,hus⟩:=hI
    refine lk.mono (Bf N bj bp (cF u).1 lu us _ _ _ _ _ _ _ bg W hN hC.1 hC.2.1 loj hj hlu hus (vS u) hg log) λv W' ⟨hX,h⟩=>⟨hX.below2 hN,?_⟩
    rcases h with ⟨h1,onG,mayG,h2,h3,h4,h5⟩|⟨h1,h2⟩
    · exact⟨_,_,h2,rfl,λ_=>⟨hC.dx2 hN hX hj hg,hp,h0,hq,hc,h1,lv,onV,mayV,lu,onG,mayG,h2,h3,cH.dx2 hX hj hg hon (by decide) (by decide),cH.dx2 hX hj hg hmay (by decide) (by decide),h4,h5⟩,λe=>absurd rfl e⟩
    · exact⟨_,_,h2,rfl,λe=>absurd e h1,λ_=>⟨(hC.dx2 hN hX hj hg).2.1,_,_,h2,rfl, .inr (.inr (.inr (.inr ⟨hp,h0,hq,hc,h1,rfl⟩)))⟩⟩
  |k+5,hk,_=>exact absurd hk (by omega)
set_option maxHeartbeats 4000000 in
theorem xL (s u:List UInt8) (w:World) (hgl:Gl w) (hsl:s.length≤100000) (hul:u.length≤100000):
    Fn Tryz.prog 24 #[ea s,ea u] w λv w'=>∃b e,v= .tuple #[.bool b, .int .i64 e]∧YN s u b e:=by
 refine cK (n:=64) Tryz.func24 rfl rfl rfl λhB=> ?_
 refine Zr<|Zy (du (c:= #[_]) rfl rfl λj W3 ay H d=> ?_)
 replace hB:=Ze hB H
 refine Zy (du (c:= #[_]) rfl rfl λl W6 az I g=> ?_)
 obtain⟨hB,d⟩:=I.k2 hB d
 refine Zb rfl<|ZZ rfl<|Zr<|Zv (vA)<|Zy (du (c:= #[_,_,_,_,_,_,_,_,_,_,_,_,_,_,_,_,_,_,_,_,_]) rfl rfl λm aA J K o=> ?_)
 have L:=ZO J hB
 obtain⟨hB,d,g⟩:=K.k3 hB d g
 refine Zy (cM Ky rfl λa aB M N f=> ?_)
 have O:=ZO M hB
 obtain⟨hB,d,g,o⟩:=N.k4 hB d g o
 refine Zy (de (v:= .pointer (some ⟨m,0,none⟩)) rfl rfl dD rfl f Lp λaC z P=> ?_)
 replace hB:=Zg hB z O
 replace d:=At.grownAt d f z Dd
 replace g:=At.grownAt g f z Dd
 replace o:=At.grownAt o f z Dd
 replace f:=P
 replace f:At _ _ #[_] _:=f
 refine ct<|Zr<|Zy (cM ww rfl λh aD Q R A=> ?_)
 have S:=ZO Q hB
 obtain⟨hB,d,g,o,f⟩:=R.k5 hB d g o f
 refine ct<|Zr<|ZL (.pointer (some ⟨m,0,none⟩)) rfl dD f rfl<|Zv (eU (vs:= #[.pointer (some ⟨j,0,none⟩), .pointer (some ⟨a,0,none⟩)]) Bi)<|Zv (eU (vs:= #[.pointer (some ⟨a,0,none⟩)]) Bi)<|Zv (eU (vs:= #[.pointer (some ⟨l,0,none⟩), .pointer (some ⟨a,0,none⟩)]) Bi)<|Zv (eU (vs:= #[.pointer (some ⟨a,0,none⟩)]) Bi)<|Zv (eU (vs:= #[.pointer (some ⟨a,0,none⟩), .pointer (some ⟨h,0,none⟩)]) Bi)<|Zy (OC (u0:= .func (.func 74) #[] #[.pointer (some ⟨j,0,none⟩), .pointer (some ⟨a,0,none⟩)]) (u1:= .func (.func 75) #[] #[.pointer (some ⟨a,0,none⟩)]) (u2:= .func (.func 76) #[] #[.pointer (some ⟨l,0,none⟩), .pointer (some ⟨a,0,none⟩)]) (u3:= .func (.func 77) #[] #[.pointer (some ⟨a,0,none⟩)]) (u4:= .func (.func 78) #[] #[.pointer (some ⟨a,0,none⟩), .pointer (some ⟨h,0,none⟩)]) rfl rfl rfl rfl rfl vU M9 rfl rfl rfl rfl rfl λG aE T U X=> ?_)
 have Y:=ZO T hB
 obtain⟨hB,d,g,o,f,A⟩:=U.k6 hB d g o f A
 have B:=Fe X Y
 replace B:cH encV 1 _ _ _ _ (SY 74 75 76 77 78 #[pv j,pv a] #[pv a] #[pv l,pv a] #[pv a] #[pv a,pv h]):=B
 refine ZH O7 (mR w.heap.size m _ (SY 74 75 76 77 78 #[pv j,pv a] #[pv a] #[pv l,pv a] #[pv a] #[pv a,pv h]) YJ (OI a j l h) (LS w.heap.size a j l h m (.slice (some ⟨G,0,none⟩) 5 5) (SY 74 75 76 77 78 #[pv j,pv a] #[pv a] #[pv l,pv a] #[pv a] #[pv a,pv h]) s u) (Y1 w.heap.size a j l h m (.slice (some ⟨G,0,none⟩) 5 5) (SY 74 75 76 77 78 #[pv j,pv a] #[pv a] #[pv l,pv a] #[pv a] #[pv a,pv h]) s u) _ (Below.size hB) LS.xs (show 5≤100 by decide) (λk hk=>Jl hk) (λk _=>fB5 XU XH WB VO VF) ⟨⟨λV hV=>Gl.below (Below.trans hB hV) hgl,f,d,g,B⟩,o,A⟩ (Hw L S hsl hul)) rfl λaF aG Z=> ?_
 obtain⟨hBt,hR⟩:=Z
 replace hB:=Below.trans hB hBt
 rcases hR with hR|hR
 obtain⟨rfl,⟨_,hbp,_⟩,hp,hof,hq,hcm,hog,lv,onV,mayV,lu,onG,mayG,hbj,hbg,hon,hmay,hong,hmayg⟩:=hR
 refine Zb rfl<|ct<|Zq<|Zr<|Zb rfl<|Zv (eK rfl)<|ct<|dE rfl<|cx<|Zq ?_
 have e1:(eq (cF s).1).on.length=(cF s).1.no.toNat:=kq _ _
 have e2:(eq (cF s).1).may.length=(cF s).1.no.toNat:=qM _ _
 have e3:(eq (cF u).1).on.length=(cF u).1.no.toNat:=kq _ _
 have e4:(eq (cF u).1).may.length=(cF u).1.no.toNat:=qM _ _
 have e5:=hcm.2.2
 have e6:=dw.1 (mi hof)
 refine Zr<|ZL (.pointer (some ⟨m,0,none⟩)) rfl dD hbp rfl<|Zc rfl<|Zf rfl j1<|Zf rfl fw<|ZL onV rfl eh hbj rfl<|Zv (db (v:=onV) rfl hon.sl dQ)<|ZZ rfl<|cy ?_
 refine cW (σ:=(Nat)) [4,5,9,10,33,63] (λk=>[(33, .int .i64 (k:Int))]) (λk W=>(Below w.heap.size w W)∧(At W a _ 125)∧(At W m _ 127)∧(At W h _ 59)∧(cH eX 4 40 W w.heap.size onV _)∧(cH eX 4 40 W w.heap.size mayV _)∧(cH eX 4 40 W w.heap.size onG _)∧(cH eX 4 40 W w.heap.size mayG _)∧(k≤(eq (cF s).1).on.length)∧(∀q,q<k→qW (eq (cF s).1) (eq (cF u).1) q=true)∧(True)) (λk=>(eq (cF s).1).on.length-k) (0) ⟨rfl,trivial⟩ ⟨hB,hbp,hbj,hbg,hon,hmay,hong,hmayg,(me _),eO,trivial⟩ ?_
 rintro k aH aI ⟨hB,hbp,hbj,hbg,hon,hmay,hong,hmayg,hk,hin,_⟩ aJ aa
 refine Zr<|Zv (dq rfl rfl)<|ct<|Zq<|ZQ rfl (λab=> ?_) λab=> ?_
 refine cx<|Zq<|cy<|Zr<|Zi rfl<|Zv (dp (v:=onV) rfl hon.sl rfl dQ Om Om)<|Zv (eI rfl cC (dr.cell hon.sl dk 0 Om Om 0 rfl) (dr.cell hon.sl dk 0 Om Om 1 rfl) (dr.cell hon.sl dk 0 Om Om 2 rfl) (dr.cell hon.sl dk 0 Om Om 3 rfl))<|Zy (cM ep rfl λr ac t ad i=> ?_)
 have ae:=ZO t hB
 have af:=acm (b:=r) hon (aaR t.symm)
 have ag:=acm (b:=r) hmay (aaR t.symm)
 have ah:=acm (b:=r) hong (aaR t.symm)
 have ai:=acm (b:=r) hmayg (aaR t.symm)
 obtain⟨hB,hbp,hbj,hbg,hon,hmay,hong,hmayg⟩:=ad.k8 hB hbp hbj hbg hon hmay hong hmayg
 replace i:At ac r #[wv 0 0,wv 0 1,wv 0 2,wv 0 3] 40:=i
 refine Zi rfl<|Zy (cA rfl rfl cC rfl i rfl rfl λaK p aj=> ?_)
 replace hB:=Zg hB p ae
 replace hbp:=At.grownAt hbp i p Dd
 replace hbj:=At.grownAt hbj i p Dd
 replace hbg:=At.grownAt hbg i p Dd
 replace hon:=ab3 hon af p
 replace hmay:=ab3 hmay ag p
 replace hong:=ab3 hong ah p
 replace hmayg:=ab3 hmayg ai p
 replace i:=aj
 refine ct<|Zd dA λak al=> ?_
 obtain⟨hB,hbp,hbj,hbg,hon,hmay,hong,hmayg,i⟩:=al.k9 hB hbp hbj hbg hon hmay hong hmayg i
 have hS:=dA.refl ak
 refine Tk 0 rfl (λ_ hq=>cz rfl cC rfl (hq.at i)) hS<|Tf 1 rfl rfl fw hS<|Tk 2 rfl (λ_ hq=>cD (v:=onG) rfl eh (At.cell (hq.at hbg) rfl)) hS<|Ti 3 rfl rfl hS<|Tk 4 rfl (λ_ hq=>dp (v:=onG) rfl ((hq.ow hong)).sl rfl dQ Om Om) hS<|Tk 5 rfl (λ_ hq=>eI rfl cC (dr.cell ((hq.ow hong)).sl dk 0 Om Om 0 rfl) (dr.cell ((hq.ow hong)).sl dk 0 Om Om 1 rfl) (dr.cell ((hq.ow hong)).sl dk 0 Om Om 2 rfl) (dr.cell ((hq.ow hong)).sl dk 0 Om Om 3 rfl)) hS<|To 6 rfl (TC (vs:=[.agg #[_,_,_,_], .agg #[_,_,_,_]]) po (gS _ _ _) rfl λaL aM C ao=>⟨.inl (hS.trans C),?_⟩)
 have ap:=hbp
 have aq:=hbj
 have ar:=hbg
 have x:=hmay
 have y:=hmayg
 obtain⟨hB,hbp,hbj,hbg,hon,hmay,hong,hmayg⟩:=C.k8 hB hbp hbj hbg hon hmay hong hmayg
 replace hS:=hS.trans C
 obtain rfl:=ao
 refine Tk 7 rfl (λ_ _=>eK rfl) hS<|Tx 8 rfl (λ_ _=>jV (v:= .bool _) rfl) hS (λD=> ?_) λD=> ?_
 refine Tp 9 rfl hS<|Tp 10 rfl hS<|Tp 11 rfl hS<|Tp 12 rfl hS<|Tp 13 rfl hS<|Tp 14 rfl hS<|Tp 15 rfl hS<|Tp 16 rfl hS<|Tp 17 rfl hS<|Tp 18 rfl hS<|Tp 19 rfl hS<|Tp 20 rfl hS<|Tp 21 rfl hS<|Tp 22 rfl hS ?_
 refine Tp 23 rfl hS<|Ty 24 rfl rfl hS<|Td<|cN rfl<|Zr<|Zb rfl<|ZZ rfl<|Zt<|dH (v:= .bool false) rfl (v1:= .int .i64 0) rfl ⟨hB,?_⟩
 exact⟨_,_,rfl, .inr ⟨hp,hof,hq,hcm,hog,rfl,(by exact Vg (k:=k) (by omega) (by exact aaJ D))⟩⟩
 refine Tf 9 rfl rfl fE hS<|Tk 10 rfl (λ_ hq=>cD (v:=mayG) rfl eh (At.cell (hq.at ar) rfl)) hS<|Ti 11 rfl rfl hS<|Tk 12 rfl (λ_ hq=>dp (v:=mayG) rfl ((hq.ow y)).sl rfl dQ Om Om) hS<|Tk 13 rfl (λ_ hq=>eI rfl cC (dr.cell ((hq.ow y)).sl dk 0 Om Om 0 rfl) (dr.cell ((hq.ow y)).sl dk 0 Om Om 1 rfl) (dr.cell ((hq.ow y)).sl dk 0 Om Om 2 rfl) (dr.cell ((hq.ow y)).sl dk 0 Om Om 3 rfl)) hS<|Tk 14 rfl (λ_ hq=>cD (v:= .pointer (some ⟨m,0,none⟩)) rfl dD (At.cell (hq.at ap) rfl)) hS<|Tc 15 rfl rfl hS<|Tf 16 rfl rfl j1 hS<|Tf 17 rfl rfl fE hS<|Tk 18 rfl (λ_ hq=>cD (v:=mayV) rfl eh (At.cell (hq.at aq) rfl)) hS<|Ti 19 rfl rfl hS<|Tk 20 rfl (λ_ hq=>dp (v:=mayV) rfl ((hq.ow x)).sl rfl dQ Om Om) hS<|Tk 21 rfl (λ_ hq=>eI rfl cC (dr.cell ((hq.ow x)).sl dk 0 Om Om 0 rfl) (dr.cell ((hq.ow x)).sl dk 0 Om Om 1 rfl) (dr.cell ((hq.ow x)).sl dk 0 Om Om 2 rfl) (dr.cell ((hq.ow x)).sl dk 0 Om Om 3 rfl)) hS<|To 22 rfl (TC (vs:=[.agg #[_,_,_,_], .agg #[_,_,_,_]]) po (gS _ _ _) rfl λaN aO E au=>⟨.inl (hS.trans E),?_⟩)
 obtain⟨hB,hbp,hbj,hbg,hon,hmay,hong,hmayg⟩:=E.k8 hB hbp hbj hbg hon hmay hong hmayg
 replace hS:=hS.trans E
 obtain rfl:=au
 refine Tk 23 rfl (λ_ _=>eK rfl) hS<|Ty 24 rfl rfl hS<|Td<|ZQ rfl (λF=> ?_) λF=> ?_
 refine Zr<|Zb rfl<|ZZ rfl<|Zt<|dH (v:= .bool false) rfl (v1:= .int .i64 0) rfl ⟨hB,?_⟩
 exact⟨_,_,rfl, .inr ⟨hp,hof,hq,hcm,hog,rfl,(by exact Vg (k:=k) (by omega) (by exact ZW F))⟩⟩
 refine cx<|ZT rfl rfl rfl ?_
 exact aa _ _ (k+1) Za ⟨rfl,trivial⟩ ⟨hB,hbp,hbj,hbg,hon,hmay,hong,hmayg,Om,(dT hin (YV D F)),trivial⟩ Zo
 refine cT<|Zr<|Zb rfl<|ZZ rfl<|Zt<|dH (v:= .bool true) rfl (v1:= .int .i64 0) rfl ⟨hB,?_⟩
 exact⟨_,_,rfl, .inr ⟨hp,hof,hq,hcm,hog,rfl,(by exact ZF (by omega) hin)⟩⟩
 obtain⟨rfl,hbp,cs,er,hbj,av,herr⟩:=hR
 refine Zb rfl<|ct<|Zq<|Zr<|Zb rfl<|Zv (eK rfl)<|ct<|cN rfl<|Zd dA λaw ax=> ?_
 obtain⟨hB,hbp,hbj⟩:=ax.k3 hB hbp hbj
 have hS:=dA.refl aw
 refine Tk 0 rfl (λ_ hq=>cD (v:= .pointer (some ⟨m,0,none⟩)) rfl dD (At.cell (hq.at hbp) rfl)) hS<|Tc 1 rfl rfl hS<|Tf 2 rfl rfl e7 hS<|Tk 3 rfl (λ_ hq=>cD (v:= .int .i64 er) rfl fe (At.cell (hq.at hbj) av)) hS<|Ty 4 rfl rfl hS<|Ti 5 rfl rfl hS<|Td<|Zt<|dH (v:= .bool false) rfl (v1:= .int .i64 _) rfl ⟨hB,?_⟩
 exact⟨_,_,rfl, .inl ⟨herr,rfl⟩⟩
end
end Go.Proofs.YtedeonkjellcpaaGreatDoor
