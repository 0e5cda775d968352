/- The walk of prime.All. The walks of specs, of package multi, and of the document's rows. Plain words for what rows cover: the points of an output, point by point. Steps of the walks. No program in it. The walks of what rows cover, and of the document's rows, primes and growing. -/
import Derived.Test.YteimkklmmanncaaGreatWPrime
namespace Go.Proofs.YteimkklmmanncaaGreat
set_option linter.unusedVariables false
set_option linter.unusedSimpArgs false
section
open Go Go.RowKit
theorem vC : dH Tryz.prog 33 = true := by kernel_rfl
theorem kU : lx Tryz.prog 97 = some (40, 4) := by kernel_rfl
theorem mr : n7 Tryz.prog 40 (fun v => ∃ a : Cb, v = iz a) := by
  refine m6 Tryz.underlying40 ?_ ?_ ?_ ?_
  · rintro w _ _ ⟨a, rfl⟩ ⟨c, rfl⟩
    have hg : Tryz.prog.eqGuardType Tryz.prog.depth 40 = false := by kernel_rfl
    exact ⟨_, pH hg (J3 rfl rfl), by rw [decide_eq_true_eq]; constructor <;> intro h <;> simpa [iz] using h⟩
  · rintro _ _ ⟨a, rfl⟩ ⟨c, rfl⟩
    exact .inl rfl
  · rintro w em _ ⟨a, rfl⟩
    have h2 : ∀ k, (Instr.checkKey em (k + 1 + 1 + 1) 40 (iz a)).run Tryz.prog w = .ok () w := fun k => by
      simp [iz, Instr.checkKey, part, isAgg, run_underlying Tryz.underlying40, run_underlying Tryz.underlying5]
    exact h2 9997
  · rintro _ ⟨a, rfl⟩
    simp [iz, Instr.sameBits]
theorem Np : dH Tryz.prog 60 = true := by kernel_rfl
theorem Ai (s : Nat) (n : Int) (w : World) :
    Fn Tryz.prog 35 #[eM s, .int .i64 n] w fun v w' => if tK s n = true then ∃ x, v = .tuple #[x, .int .i64 0] ∧ dh gW 2 40 w' w.heap.size x (ex s n) else v = .tuple #[.slice none 0 0, .int .i64 1] := by
 refine dr (n := 105) Tryz.func35 rfl rfl (Nat.le_of_ble_eq_true rfl) ?_
 have hB : Below w.heap.size w w := Below.refl _ _
 refine Zr <| Zy (dW (c := #[_, _, _, _]) rfl rfl fun ac W3 aE aV e => ?_)
 have bR := ZO aE hB
 clear aE
 replace hB := Ze hB aV
 refine Zw (.slice none 0 0) rfl <| Zw (.int .i64 0) rfl <| cT <| Zr <| Zi rfl <| ZC vC (nc _ _) rfl fun bS W8 aF aW => ?_
 replace hB := Ze hB aF
 replace e := aF.at e
 obtain ⟨sa, er, rfl, hhP1_1⟩ := pT aW
 refine Zw (.tuple #[.agg #[_, _, _, _], .int .i64 _]) rfl <| Zv (dF rfl) <| Zv (dG rfl) <| Zy (dp eJ rfl fun Z aX aq aG f => ?_)
 have aY := ZO aq hB
 have aZ := Zn aq e.lt
 clear aq
 replace hB := Ze hB aG
 replace e := aG.at e
 replace f : At aX Z #[wv 0 0, wv 0 1, wv 0 2, wv 0 3] 49 := f
 refine Zy (df rfl rfl db rfl f rfl rfl fun bT aH a0 => ?_)
 replace hB := Zg hB aH aY
 replace e := At.grownNe e aZ aH
 replace f := a0
 refine Zi rfl <| cT <| cY fun bU a1 => Zr <| Zi rfl <| Zv (fC rfl rfl) <| ZX rfl (fun ag => ?_) fun ag => ?_
 refine Zs <| Zs <| Zs <| Zs <| Zw (.bool true) rfl <| cT <| dz rfl <| Zr <| Zw (.slice none 0 0) rfl <| Zw (.int .i64 1) rfl <| cT <| Zt <| dZ (v := .slice none 0 0) rfl (v1 := .int .i64 1) rfl ⟨hB, ?_⟩
 rw [if_neg (D3 hhP1_1 ag)]
 refine Zv (da rfl db rfl e) <| Zv (da rfl db rfl f) <| ZC (vs := [.agg #[_, _, _, _], .agg #[_, _, _, _]]) oX (ib _ _ _) rfl fun bV bW ar a2 => ?_
 replace hB := Ze hB ar
 replace e := ar.at e
 replace f := ar.at f
 obtain rfl := a2
 refine Zv (fJ rfl) <| Zb rfl <| cT <| ZQ rfl (fun au => ?_) fun au => ?_
 refine Zr <| Zw (.slice none 0 0) rfl <| Zw (.int .i64 1) rfl <| cT <| Zt <| dZ (v := .slice none 0 0) rfl (v1 := .int .i64 1) rfl ⟨hB, ?_⟩
 rw [if_neg (DN hhP1_1 ag au)]
 refine c7 <| a1 _ _ ?_
 have hof : tK s n = true := Hl hhP1_1 ag au
 obtain ⟨hn0, hn8⟩ := jM hof
 have hll := kP s
 refine Zr <| Zy (gD (enc := iz) (encV := Value.bool) fun ah bX aI av z => ?_)
 have a3 := ZO aI hB
 clear aI
 replace hB := Ze hB av
 replace e := av.at e
 replace f := av.at f
 replace z : dQ iz Value.bool _ _ (fq []) := z
 refine Zw (.map (some ah)) rfl <| cT <| cY fun bY a4 => Zr <| Zv (da rfl db rfl e) <| ZC (vs := [.agg #[_, _, _, _]]) ur (md _ _) rfl fun V bZ ai h => ?_
 have a5 := (Below.size hB)
 replace hB := Ze hB ai
 replace e := ai.at e
 replace f := ai.at f
 replace z := ai.mapT z
 replace h := dh.mono h a5
 refine Zv (dB (v := V) rfl h.sl dw) <| Zw (.int .i64 0) rfl <| cT <| c9 ?_
 refine dy (σ := (Nat) × (List Cb)) [10, 35, 36, 37, 38, 39, 40, 41, 42, 43, 44, 45, 46] (fun (k, ks) => [(35, .int .i64 (k : Int))]) (fun sg W => match sg with | (k, ks) => (Below w.heap.size w W) ∧ (At W ac _ 49) ∧ (At W Z _ 49) ∧ (dh eb 1 3 W w.heap.size V _) ∧ (dQ iz Value.bool W ah (fq ks)) ∧ (k ≤ (ef s).length) ∧ (∀ c, c ∈ ks ↔ ∃ j, j < k ∧ c = ⟨2 ^ n.toNat - 1, ((ef s).getD j 0).toNat⟩) ∧ (True)) (fun (k, ks) => (ef s).length - k) ((0, [])) ⟨rfl, trivial⟩ ⟨hB, e, f, h, z, (Nat.zero_le _), (fun c => by simp), trivial⟩ ?_
 clear hB e f z h
 rintro ⟨k, ks⟩ b0 b1 ⟨hB, e, f, h, z, hk, hks, _⟩ b2 a6
 refine Zr <| Zv (dP rfl rfl) <| cT <| cY fun b3 a7 => ZQ rfl (fun a8 => ?_) fun a8 => ?_
 refine c7 <| a7 _ _ <| cY fun b4 a9 => c9 <| Zr <| Zv (dM (v := V) rfl h.sl rfl dw Om (by first | omega | (simp only [cV, cX, cW, de]; omega))) <| Zv (dm (v := .int .i64 _) rfl dC (dO.cell h.sl eN 0 Om (by first | omega | (simp only [cV, cX, cW, de]; omega)) 0 rfl)) <| Zi rfl <| cT ?_
 obtain ⟨p, b5, b6, aJ⟩ := kE (s := s) (i := k) (by omega)
 refine cZ <| Zw (.map (some ah)) rfl <| Zi rfl <| Zv (Nc rfl rfl hn0) <| Zv (Mz rfl rfl hn0 hn8) <| Zi rfl <| Zv (lz (m := p) (congrArg (Value.int .i64) aJ) Tryz.underlying3 Tryz.underlying5 (by simp only [ek]; omega)) <| Zv (mt (h0 := rfl) (k0 := rfl) (h1 := rfl) (k1 := rfl) (c0_0 := .int .u8 _) (c1_0 := .int .u8 _)) ?_
 refine gP (dd := none) rfl rfl rfl (fD (enc := iz) (encV := Value.bool) (k := ⟨_, _⟩) (v := true) rfl rfl rfl kU mr (fun a => ⟨a, rfl⟩) l9 z (fun b7 aj ba => ?_))
 replace hB := Zg hB aj a3
 replace e := At.grownMap e z aj
 replace f := At.grownMap f z aj
 replace h := dh.grownMap h z aj
 replace z := ba
 rw [jb] at z
 refine cT <| a9 _ _ <| cZ <| Zv (dq rfl rfl Om Om) <| Zi rfl <| cT ?_
 exact a6 _ _ ((k + 1, ir ks ⟨2 ^ n.toNat - 1, p⟩)) Za ⟨rfl, trivial⟩ ⟨hB, e, f, h, z, Om, (Fw hks aJ), trivial⟩ (by show (ef s).length - (k + 1) < (ef s).length - k; omega)
 refine dt <| a4 _ _ <| Zr <| Zw (.slice none 0 0) rfl <| cT <| cY fun b8 bb => c9 ?_
 refine dy (σ := (Nat) × (List Cb) × (Value) × (List Cb) × (Nat)) [8, 11, 12, 13, 14, 15, 16, 17, 47, 48, 49, 50, 51, 52, 53, 54, 55, 56, 57, 58, 59, 60, 61, 62, 63, 64, 65, 66, 67, 68, 69, 70, 71, 72, 73, 74, 75, 76, 77, 78, 79, 80, 81, 82, 83, 84, 85, 86, 87, 88, 89, 90, 91, 92, 93, 94, 95, 96, 97, 98, 99, 100, 101, 102, 103] (fun (bn, now, v0, out, t) => [(8, .map (some bn)), (11, v0)]) (fun sg W => match sg with | (bn, now, v0, out, t) => (Below w.heap.size w W) ∧ (At W ac _ 49) ∧ (At W Z _ 49) ∧ (dh eb 1 3 W w.heap.size V _) ∧ (dQ iz Value.bool W bn (fq now)) ∧ (dh gW 2 40 W w.heap.size v0 (out)) ∧ (ny s n t now) ∧ (vi s n t out) ∧ (iF out) ∧ (t ≤ n.toNat + 1) ∧ (True)) (fun (bn, now, v0, out, t) => t) ((ah, ks, .slice none 0 0, [], n.toNat + 1)) ⟨rfl, rfl, trivial⟩ ⟨hB, e, f, h, z, dh.nil, (AV hof (Io hks Om)), F6, List.Pairwise.nil, (Nat.le_refl _), trivial⟩ ?_
 clear hB e f h z
 rintro ⟨bn, now, v0, out, t⟩ b9 ca ⟨hB, e, f, h, hmN, ho, hLv, hOut, hRis, ht, _⟩ cb bc
 refine cY fun cc bd => Zr <| Zw (.map (some bn)) rfl <| Zv (Gx rfl kU hmN) <| Zv (i4 rfl rfl) <| cT <| ZQ rfl (fun aw => ?_) fun aw => ?_
 refine c7 <| bd _ _ <| c9 ?_
 obtain ⟨t', rfl⟩ := ET hLv aw
 refine Zr <| Zy (gD (enc := iz) (encV := Value.bool) fun E cd ax aa g => ?_)
 have aK := ZO ax hB
 have ak := Zn ax hmN.lt
 clear ax
 replace hB := Ze hB aa
 replace e := aa.at e
 replace f := aa.at f
 replace h := aa.ow h
 replace hmN := aa.mapT hmN
 replace ho := aa.ow ho
 replace g : dQ iz Value.bool _ _ (fq []) := g
 refine Zy (gD (enc := iz) (encV := Value.bool) fun ab ce al X l => ?_)
 have bf := ZO al hB
 have aL := Zn al hmN.lt
 have ay := Zn al g.lt
 clear al
 replace hB := Ze hB X
 replace e := X.at e
 replace f := X.at f
 replace h := X.ow h
 replace hmN := X.mapT hmN
 replace ho := X.ow ho
 replace g := X.mapT g
 replace l : dQ iz Value.bool _ _ (fq []) := l
 refine Zw (.map (some E)) rfl <| Zw (.map (some ab)) rfl <| cT <| cY fun cf bg => Zr <| Zw (.map (some bn)) rfl <| Zy (xO rfl kU hmN fun aM cg aN S o => ?_)
 have bh := ZO aN hB
 clear aN
 replace hB := Ze hB S
 replace e := S.at e
 replace f := S.at f
 replace h := S.ow h
 replace hmN := S.mapT hmN
 replace ho := S.ow ho
 replace g := S.mapT g
 replace l := S.mapT l
 refine cT <| c9 ?_
 refine dy (σ := (List Cb) × (List Cb) × (List Cb)) [14, 15, 16, 54, 55, 56, 57, 58, 59, 60, 61, 62, 63, 64, 65, 66, 67, 68, 69, 70, 71, 72, 73, 74, 75, 76, 77, 78, 79, 80, 81, 82, 83, 84, 85, 86, 87, 88, 89] (fun (seen, nl, ml) => []) (fun sg W => match sg with | (seen, nl, ml) => (Below w.heap.size w W) ∧ (At W ac _ 49) ∧ (At W Z _ 49) ∧ (dh eb 1 3 W w.heap.size V _) ∧ (dQ iz Value.bool W bn _) ∧ (dh gW 2 40 W w.heap.size v0 _) ∧ (eC iz Value.bool W aM bn (fq now) seen) ∧ (dQ iz Value.bool W E (fq nl)) ∧ (dQ iz Value.bool W ab (fq ml)) ∧ (∀ d, d ∈ nl ↔ jf now n seen d) ∧ (∀ d, d ∈ ml ↔ gi now n seen d) ∧ (True)) (fun (seen, nl, ml) => (fq now).length - seen.length) (([], [], [])) trivial ⟨hB, e, f, h, hmN, ho, o, g, l, CK, yw, trivial⟩ ?_
 clear hB e f h hmN ho g l o
 rintro ⟨seen, nl, ml⟩ ch ci ⟨hB, e, f, h, hmN, ho, o, g, l, hN, hM, _⟩ cj bi
 refine Zr ?_
 refine gP (dd := some 54) rfl rfl rfl (Cw rfl o (fun bj => ?_) (fun A ck cl aO cm T bk => ?_))
 refine Zv (vH rfl) <| cT <| cY fun cn co => ep rfl <| dt <| bg _ _ <| cY fun cp bl => ?_
 have hseen := Bi o bj
 have hN' := EB hN hseen
 have hM' := Ae hM hseen
 refine Zr <| Zw (.map (some bn)) rfl <| Zy (xO rfl kU hmN fun bm cq aP N u => ?_)
 have bo := ZO aP hB
 clear aP
 replace hB := Ze hB N
 replace e := N.at e
 replace f := N.at f
 replace h := N.ow h
 replace hmN := N.mapT hmN
 replace ho := N.ow ho
 replace o := N.iterT o
 replace g := N.mapT g
 replace l := N.mapT l
 refine cT <| c9 ?_
 refine dy (σ := (List Cb) × (Value) × (List Cb)) [11, 17, 92, 93, 94, 95, 96, 97, 98, 99, 100, 101, 102] (fun (seen2, v2, out2) => [(11, v2)]) (fun sg W => match sg with | (seen2, v2, out2) => (Below w.heap.size w W) ∧ (At W ac _ 49) ∧ (At W Z _ 49) ∧ (dh eb 1 3 W w.heap.size V _) ∧ (dQ iz Value.bool W bn _) ∧ (dQ iz Value.bool W E _) ∧ (dQ iz Value.bool W ab _) ∧ (eC iz Value.bool W bm bn (fq now) seen2) ∧ (dh gW 2 40 W w.heap.size v2 (out2)) ∧ (∀ c, c ∈ out2 ↔ c ∈ out ∨ (c ∈ seen2 ∧ c ∉ ml)) ∧ (iF out2) ∧ (True)) (fun (seen2, v2, out2) => (fq now).length - seen2.length) (([], v0, out)) ⟨rfl, trivial⟩ ⟨hB, e, f, h, hmN, g, l, u, ho, MF, hRis, trivial⟩ ?_
 clear hB e f h hmN ho o g l u
 rintro ⟨seen2, v2, out2⟩ cr cs ⟨hB, e, f, h, hmN, g, l, u, B, ad, hR2, _⟩ ct aQ
 refine Zr ?_
 refine gP (dd := some 92) rfl rfl rfl (Cw rfl u (fun bp => ?_) (fun Y cu cv aR bq U br => ?_))
 refine Zv (vH rfl) <| cT <| cY fun cw cx => ep rfl <| dt <| bl _ _ ?_
 have hseen2 := Bi u bp
 refine cZ <| Zw (.map (some E)) rfl <| Zw (.map (some E)) rfl <| cT ?_
 exact bc _ _ ((E, nl, v2, out2, t')) Za ⟨rfl, rfl, trivial⟩ ⟨hB, e, f, h, g, (by exact B), (BV hn8 hLv Om hN'), (F5 hLv hOut hM' (JC ad hseen2)), hR2, Om, trivial⟩ (by show t' < t' + 1; omega)
 replace hB := Zg hB U bo
 replace e := At.grownIter e u U
 replace f := At.grownIter f u U
 replace h := dh.grownIter h u U
 replace hmN := dQ.grownIter hmN u U
 replace g := dQ.grownIter g u U
 replace l := dQ.grownIter l u U
 replace B := dh.grownIter B u U
 replace u := br
 refine Zv (mi rfl) <| cT <| cY fun cy bs => dz rfl <| c7 <| bs _ _ <| c9 ?_
 have hkn := (AC aR).1
 obtain ⟨hkm, hkv⟩ := vR hLv hn8 hkn
 refine Zr <| Zv (y8 rfl u aR) <| Zv (dF rfl) <| Zy (dp jp rfl fun bt cz az O C => ?_)
 have bu := ZO az hB
 have bv := dh.neB (b := bt) B (Nat.le_of_eq az.symm)
 clear az
 replace hB := Ze hB O
 replace e := O.at e
 replace f := O.at f
 replace h := O.ow h
 replace hmN := O.mapT hmN
 replace g := O.mapT g
 replace l := O.mapT l
 replace u := O.iterT u
 replace B := O.ow B
 refine Zy (df rfl rfl dR rfl C rfl rfl fun cA P bw => ?_)
 replace hB := Zg hB P bu
 replace e := At.grownAt e C P Dd
 replace f := At.grownAt f C P Dd
 replace h := dh.grownAt h C P Dd
 replace hmN := dQ.grownAt hmN C P
 replace g := dQ.grownAt g C P
 replace l := dQ.grownAt l C P
 replace u := eC.grownAt u C P
 replace B := dh.grownAtNe B bv P
 replace C := bw
 refine cT <| Zr <| Zw (.map (some ab)) rfl <| Zv (da rfl dR rfl C) <| Zv (fN (enc := iz) (encV := Value.bool) (v0 := false) (k := ⟨Y.m, Y.v⟩) rfl rfl kU mr (fun a => ⟨a, rfl⟩) l9 oa rfl l) <| Zv (fJ rfl) <| cT <| ZQ rfl (fun aA => ?_) fun aA => ?_
 have hsm := FK hLv hn8 hOut ad (fun c hc => zX u c (List.mem_cons_of_mem _ hc)) hR2
 refine cZ <| Zw v2 rfl <| Zv (da rfl dR rfl C) <| ZC (vs := [v2, .agg #[_, _]]) Np (ut _ _ _ _ B.sl (by first | assumption | omega)) rfl fun aS cB J ao => ?_
 have bx := dh.lt2 B
 have bz := (Below.size hB)
 replace hB := Ze hB J
 replace e := J.at e
 replace f := J.at f
 replace h := J.ow h
 replace hmN := J.mapT hmN
 replace g := J.mapT g
 replace l := J.mapT l
 replace u := J.iterT u
 replace B := J.ow B
 replace C := J.at C
 have cC := eO.new bx ao
 replace ao := dh.mono ao bz
 refine Zw aS rfl <| cT ?_
 exact aQ _ _ ((Y :: seen2, aS, yX out2 Y)) Za ⟨rfl, trivial⟩ ⟨hB, e, f, h, hmN, g, l, u, (by exact ao), (JD ad (Cs aA)), (zz hR2 (Nf hLv hOut ad hkn bq)), trivial⟩ (by have hle := eC.len_le u; show (fq now).length - (Y :: seen2).length < (fq now).length - seen2.length; simp only [List.length_cons] at hle ⊢; omega)
 refine c7 ?_
 exact aQ _ _ ((Y :: seen2, v2, out2)) Za ⟨rfl, trivial⟩ ⟨hB, e, f, h, hmN, g, l, u, (by exact B), (Kq ad (zW aA)), hR2, trivial⟩ (by have hle := eC.len_le u; show (fq now).length - (Y :: seen2).length < (fq now).length - seen2.length; simp only [List.length_cons] at hle ⊢; omega)
 replace hB := Zg hB T bh
 replace e := At.grownIter e o T
 replace f := At.grownIter f o T
 replace h := dh.grownIter h o T
 replace hmN := dQ.grownIter hmN o T
 replace ho := dh.grownIter ho o T
 replace g := dQ.grownIter g o T
 replace l := dQ.grownIter l o T
 replace o := bk
 refine Zv (mi rfl) <| cT <| cY fun cD bA => dz rfl <| c7 <| bA _ _ <| c9 ?_
 have hkn := (AC aO).1
 obtain ⟨hkm, hkv⟩ := vR hLv hn8 hkn
 refine Zr <| Zv (y8 rfl o aO) <| Zv (dF rfl) <| Zy (dp jp rfl fun aT cE aB Q r => ?_)
 have bB := ZO aB hB
 have bC := dh.neB (b := aT) ho (Nat.le_of_eq aB.symm)
 clear aB
 replace hB := Ze hB Q
 replace e := Q.at e
 replace f := Q.at f
 replace h := Q.ow h
 replace hmN := Q.mapT hmN
 replace ho := Q.ow ho
 replace o := Q.iterT o
 replace g := Q.mapT g
 replace l := Q.mapT l
 refine Zy (df rfl rfl dR rfl r rfl rfl fun cF R bD => ?_)
 replace hB := Zg hB R bB
 replace e := At.grownAt e r R Dd
 replace f := At.grownAt f r R Dd
 replace h := dh.grownAt h r R Dd
 replace hmN := dQ.grownAt hmN r R
 replace ho := dh.grownAtNe ho bC R
 replace o := eC.grownAt o r R
 replace g := dQ.grownAt g r R
 replace l := dQ.grownAt l r R
 replace r := bD
 refine cT <| Zr <| Zi rfl <| Zw (.int .i64 0) rfl <| cT <| c9 ?_
 refine dy (σ := (Nat) × (List Cb) × (List Cb)) [15, 16, 59, 60, 61, 62, 63, 64, 65, 66, 67, 68, 69, 70, 71, 72, 73, 74, 75, 76, 77, 78, 79, 80, 81, 82, 83, 84, 85, 86, 87, 88, 89] (fun (i, nl2, ml2) => [(59, .int .i64 (i : Int))]) (fun sg W => match sg with | (i, nl2, ml2) => (Below w.heap.size w W) ∧ (At W ac _ 49) ∧ (At W Z _ 49) ∧ (dh eb 1 3 W w.heap.size V _) ∧ (dQ iz Value.bool W bn _) ∧ (dh gW 2 40 W w.heap.size v0 _) ∧ (eC iz Value.bool W aM bn _ _) ∧ (At W aT _ 40) ∧ (dQ iz Value.bool W E (fq nl2)) ∧ (dQ iz Value.bool W ab (fq ml2)) ∧ ((i : Int) ≤ n) ∧ (∀ d, d ∈ nl2 ↔ jf now n seen d ∨ ∃ q, q < i ∧ iL now A q ∧ d = iT A q) ∧ (∀ d, d ∈ ml2 ↔ gi now n seen d ∨ (d = A ∧ ∃ q, q < i ∧ iL now A q)) ∧ (True)) (fun (i, nl2, ml2) => n.toNat - i) ((0, nl, ml)) ⟨rfl, trivial⟩ ⟨hB, e, f, h, hmN, ho, o, r, g, l, Om, (EM hN), (z8 hM), trivial⟩ ?_
 clear hB e f h hmN ho o g l r
 rintro ⟨i, nl2, ml2⟩ cG cH ⟨hB, e, f, h, hmN, ho, o, r, g, l, hi, hN2, hM2, _⟩ cI aC
 refine Zr <| Zv (dP rfl rfl) <| cT <| cY fun cJ bE => ZQ rfl (fun bF => ?_) fun bF => ?_
 refine c7 <| bE _ _ <| cY fun cK aD => c9 <| Zr <| Zi rfl <| Zi rfl <| cT ?_
 have h7 := BN (show i < 8 by omega)
 have hd : A.m / 2 ^ i ≤ A.m := Nat.div_le_self _ _
 refine Zd eo fun bG K => ?_
 replace hB := Ze hB K
 replace e := K.at e
 replace f := K.at f
 replace h := K.ow h
 replace hmN := K.mapT hmN
 replace ho := K.ow ho
 replace o := K.iterT o
 replace r := K.at r
 replace g := K.mapT g
 replace l := K.mapT l
 have hS := eo.refl bG
 refine Tf 0 rfl rfl fm hS <| Tk 1 rfl (fun _ hq => dm (v := .int .u8 _) rfl ey (At.cell (hq.at r) rfl)) hS <| Tf 2 rfl rfl g7 hS <| Tk 3 rfl (fun _ hq => dm (v := .int .u8 _) rfl ey (At.cell (hq.at r) rfl)) hS <| Ti 4 rfl rfl hS <| Tk 5 rfl (fun _ _ => jv (m := 1) rfl rfl Om (by simp only [IntKind.bits]; omega) (by simp only [ek, Int.toNat_natCast, Nat.one_mul]; omega)) hS <| Tk 6 rfl (fun _ _ => HF (n := _) rfl rfl rfl (by first | assumption | (simp only [ek]; omega) | (simp only [ek]; decide)) (by simp only [ek, Int.toNat_natCast, Nat.one_mul]; omega)) hS <| Tk 7 rfl (fun _ _ => mt (h0 := rfl) (k0 := rfl) (h1 := rfl) (k1 := rfl) (c0_0 := .int .u8 _) (c1_0 := .int .u8 _)) hS <| To 8 rfl (dp jp rfl fun bH cL ap F y => ⟨.inl (hS.trans F), ?_⟩)
 have bI := ZO ap hB
 have bJ := dh.neB (b := bH) ho (Nat.le_of_eq ap.symm)
 have bK := Zn ap r.lt
 clear ap
 replace hB := Ze hB F
 replace e := F.at e
 replace f := F.at f
 replace h := F.ow h
 replace hmN := F.mapT hmN
 replace ho := F.ow ho
 replace o := F.iterT o
 replace r := F.at r
 replace g := F.mapT g
 replace l := F.mapT l
 replace hS := hS.trans F
 refine To 9 rfl (df rfl rfl dR rfl y rfl rfl fun cM L bL => ⟨.inr (by kernel_rfl), ?_⟩)
 replace hB := Zg hB L bI
 replace e := At.grownAt e y L Dd
 replace f := At.grownAt f y L Dd
 replace h := dh.grownAt h y L Dd
 replace hmN := dQ.grownAt hmN y L
 replace ho := dh.grownAtNe ho bJ L
 replace o := eC.grownAt o y L
 replace r := At.grownNe r bK L
 replace g := dQ.grownAt g y L
 replace l := dQ.grownAt l y L
 replace y := bL
 refine Td <| Zr <| Zf rfl fm <| Zl rfl ey r rfl <| Zi rfl <| Zv (rx rfl rfl Om (by simp only [IntKind.bits]; omega)) <| Zv (ng (n := 1) rfl rfl rfl (by simp only [ek, Int.toNat_natCast]; omega) (by first | assumption | (simp only [ek]; omega) | (simp only [ek]; decide))) <| Zv (eq rfl rfl) <| ZX rfl (fun ae => ?_) fun ae => ?_
 refine Zw (.map (some bn)) rfl <| Zv (da rfl dR rfl y) <| Zv (fN (enc := iz) (encV := Value.bool) (v0 := false) (k := ⟨A.m, A.v ^^^ 1 * 2 ^ ((i : Nat) : Int).toNat⟩) rfl rfl kU mr (fun a => ⟨a, rfl⟩) l9 oa rfl hmN) <| Zb rfl <| cT <| ZQ rfl (fun af => ?_) fun af => ?_
 refine gy (fun a b => a.grownBy b (some E)) iv (fun bM I => ?_)
 replace hB := Ze hB I
 replace e := I.at e
 replace f := I.at f
 replace h := I.ow h
 replace hmN := I.mapT hmN
 replace ho := I.ow ho
 replace o := I.iterT o
 replace r := I.at r
 replace g := I.mapT g
 replace l := I.mapT l
 replace y := I.at y
 have aU := g
 have hS := World.grownBy.refl bM (some E)
 refine Tw 0 (.map (some E)) rfl rfl hS <| Tk 1 rfl (fun _ hq => da rfl dR rfl (At.grownMap r aU hq)) hS <| Ti 2 rfl rfl hS <| Tw 4 (.map (some ab)) rfl rfl hS <| Tk 5 rfl (fun _ hq => da rfl dR rfl (At.grownMap r aU hq)) hS <| To 3 rfl (TC (vs := [.agg #[_, _], .int .i64 _]) xK (jW _ _ _ _ (by first | assumption | omega) (by first | assumption | omega)) rfl fun cN cO D bN => ⟨.inl (dA hS (eo.grown D (some E))), ?_⟩)
 replace hB := Ze hB D
 replace e := D.at e
 replace f := D.at f
 replace h := D.ow h
 replace hmN := D.mapT hmN
 replace ho := D.ow ho
 replace o := D.iterT o
 replace r := D.at r
 replace g := D.mapT g
 replace l := D.mapT l
 replace y := D.at y
 replace hS := dA hS (eo.grown D (some E))
 obtain rfl := bN
 refine To 6 rfl (Cu (enc := iz) (encV := Value.bool) (v0 := false) (k := (iT A i)) rfl rfl kU mr (fun a => ⟨a, rfl⟩) l9 oa rfl g fun cP cQ G bO => ⟨.inl (dA hS G), ?_⟩)
 replace hS := dA hS G
 replace hB := Zg hB G aK
 replace e := At.grownMap e g G
 replace f := At.grownMap f g G
 replace h := dh.grownMap h g G
 replace hmN := dQ.grownNe hmN ak G
 replace ho := dh.grownMap ho g G
 replace o := eC.grownMap o g ak G
 replace r := At.grownMap r g G
 replace l := dQ.grownNe l (Ne.symm ay) G
 replace y := At.grownMap y g G
 replace g := bO
 refine Tk 7 rfl (fun _ _ => dG rfl) hS <| To 8 rfl (yD (encV := Value.bool) (v := true) rfl rfl rfl g fun cR H bP => ⟨.inl (dA hS H), ?_⟩)
 replace hS := dA hS H
 replace hB := Zg hB H aK
 replace e := At.grownMapP e g H
 replace f := At.grownMapP f g H
 replace h := dh.grownMapP h g H
 replace hmN := dQ.grownNe hmN ak H
 replace ho := dh.grownMapP ho g H
 replace o := eC.grownMapP o g ak H
 replace r := At.grownMapP r g H
 replace l := dQ.grownNe l (Ne.symm ay) H
 replace y := At.grownMapP y g H
 replace g := bP
 rw [jb] at g
 refine To 9 rfl (fD (enc := iz) (encV := Value.bool) (k := A) (v := true) rfl rfl rfl kU mr (fun a => ⟨a, rfl⟩) l9 l fun cS M bQ => ⟨.inr (by kernel_rfl), ?_⟩)
 replace hB := Zg hB M bf
 replace e := At.grownMap e l M
 replace f := At.grownMap f l M
 replace h := dh.grownMap h l M
 replace hmN := dQ.grownNe hmN aL M
 replace ho := dh.grownMap ho l M
 replace o := eC.grownMap o l aL M
 replace r := At.grownMap r l M
 replace g := dQ.grownNe g ay M
 replace y := At.grownMap y l M
 replace l := bQ
 rw [jb] at l
 refine Td <| aD _ _ <| cZ <| Zv (dq rfl rfl Om Om) <| Zi rfl <| cT ?_
 exact aC _ _ ((i + 1, ir nl2 (iT A i), ir ml2 A)) Za ⟨rfl, trivial⟩ ⟨hB, e, f, h, hmN, ho, o, r, g, l, Om, (In hN2 (xC ae af)), (CM hM2 (xC ae af)), trivial⟩ (by show n.toNat - (i + 1) < n.toNat - i; omega)
 refine c7 <| aD _ _ <| cZ <| Zv (dq rfl rfl Om Om) <| Zi rfl <| cT ?_
 exact aC _ _ ((i + 1, nl2, ml2)) Za ⟨rfl, trivial⟩ ⟨hB, e, f, h, hmN, ho, o, r, g, l, Om, (wW hN2 (xF af)), (sP hM2 (xF af)), trivial⟩ (by show n.toNat - (i + 1) < n.toNat - i; omega)
 refine Zs <| Zs <| Zs <| Zw (.bool false) rfl <| cT <| ep rfl <| c7 <| aD _ _ <| cZ <| Zv (dq rfl rfl Om Om) <| Zi rfl <| cT ?_
 exact aC _ _ ((i + 1, nl2, ml2)) Za ⟨rfl, trivial⟩ ⟨hB, e, f, h, hmN, ho, o, r, g, l, Om, (wW hN2 (wQ ae)), (sP hM2 (wQ ae)), trivial⟩ (by show n.toNat - (i + 1) < n.toNat - i; omega)
 refine dt ?_
 refine bi _ _ ((A :: seen, nl2, ml2)) ?_ ?_ ?_ ?_
 · repeat (first | exact fv.mask _ _ _ | refine fv.updo ?_ rfl _ | refine fv.updL ?_ _ rfl | refine fv.maskS rfl ?_)
 · exact trivial
 · exact ⟨hB, e, f, h, hmN, ho, o, g, l, (Iy hN2 (by omega)), (Co hM2 (by omega)), trivial⟩
 · have hle := eC.len_le o; show (fq now).length - (A :: seen).length < (fq now).length - seen.length; simp only [List.length_cons] at hle ⊢; omega
 refine dt <| bb _ _ <| Zr <| Zw v0 rfl <| Zw v0 rfl <| Zw (.int .i64 0) rfl <| cT <| Zt <| dZ (v := v0) rfl (v1 := .int .i64 0) rfl ⟨hB, ?_⟩
 obtain rfl : now = [] := BH aw
 rw [if_pos hof]
 exact ⟨_, rfl, by rw [← KC ht hLv hOut hRis]; exact ho⟩
end
section
open Go Go.RowKit
theorem Ol29_0 {p : Prop} (h : p := by first | omega | (simp only [cV, cX, cW, de, dg]; omega)) : p := h
theorem fZ : fw Tryz.prog 42 1 = some 2 := by kernel_rfl
theorem g6 : fw Tryz.prog 42 0 = some 0 := by kernel_rfl
theorem gm : fw Tryz.prog 24 0 = some 0 := by kernel_rfl
theorem f4 : fw Tryz.prog 24 1 = some 1 := by kernel_rfl
theorem eK : fl Tryz.prog 22 = true := by kernel_rfl
theorem ej : fI Tryz.prog 22 = some (49, 4, 32) := by kernel_rfl
theorem f7 : fw Tryz.prog 24 2 = some 2 := by kernel_rfl
theorem eT : kM Tryz.prog 24 = some 3 := by kernel_rfl
theorem pp : dH Tryz.prog 18 = true := by kernel_rfl
theorem Cv : dH Tryz.prog 36 = true := by kernel_rfl
theorem ez : kM Tryz.prog 42 = some 3 := by kernel_rfl
theorem dV : fI Tryz.prog 29 = some (42, 3, 3) := by kernel_rfl
theorem kL : eH Tryz.prog 42 = some (.agg #[.int .u8 0, .int .u8 0, .int .u8 0]) := by kernel_rfl
theorem ip : (eH Tryz.prog 42).map (fun z => z.cells.size) = some 3 := by kernel_rfl
theorem NA : dH Tryz.prog 38 = true := by kernel_rfl
theorem sH : dH Tryz.prog 34 = true := by kernel_rfl
theorem LY : dH Tryz.prog 35 = true := by kernel_rfl
theorem xE : (Tryz.prog.info? 40).map (·.size) = some 2 := by kernel_rfl
theorem j1 {f : Nat → Value} {w : World} {d : Option Nat} {ty : TypeId} {ps : String} {af : Array Edge} {g : Option (Nat × Bool)} {x0 x1 : Operand} {c0_0 c0_1 c1_0 : Value} (h0 : dK f x0 = .agg #[c0_0, c0_1]) (h1 : dK f x1 = c1_0) (k1 : c1_0.cells = #[c1_0]) :
    (execOp (dK f) ⟨d, .build 42 #[(0, x0), (1, x1)], ty, ps, af, g⟩).run Tryz.prog w = .ok (.value (.agg #[c0_0, c0_1, c1_0])) w := by
  obtain ⟨i0, hi0, hz0⟩ := Option.bind_eq_some_iff.1 (show (Tryz.prog.info? 42).bind (·.zero) = _ from kL)
  obtain ⟨j5, hj5, hs5⟩ := Option.map_eq_some_iff.1 rn
  obtain ⟨j40, hj40, hs40⟩ := Option.map_eq_some_iff.1 xE
  simp [execOp, h0, h1, k1, Instr.build, zeroValue, typeInfo, sizeOf, hi0, hz0, run_underlying Tryz.underlying42, Instr.fill, eW, hj5, hs5, hj40, hs40]
theorem LI : dH Tryz.prog 37 = true := by kernel_rfl
theorem BJ : dH Tryz.prog 88 = true := by kernel_rfl
theorem zo {f : Nat → Value} {w : World} {d : Option Nat} {ty : TypeId} {ps : String} {af : Array Edge} {g : Option (Nat × Bool)}    :
    (execOp (dK f) ⟨d, .build 42 #[], ty, ps, af, g⟩).run Tryz.prog w = .ok (.value (.agg #[.int .u8 0, .int .u8 0, .int .u8 0])) w := by
  obtain ⟨i0, hi0, hz0⟩ := Option.bind_eq_some_iff.1 (show (Tryz.prog.info? 42).bind (·.zero) = _ from kL)
  obtain ⟨j5, hj5, hs5⟩ := Option.map_eq_some_iff.1 rn
  obtain ⟨j40, hj40, hs40⟩ := Option.map_eq_some_iff.1 xE
  simp [execOp, Instr.build, zeroValue, typeInfo, sizeOf, hi0, hz0, run_underlying Tryz.underlying42, Instr.fill, eW, hj5, hs5, hj40, hs40]
theorem nM (S : Sp) (onV mayV : Value) (w : World) (hon : dO gr 4 w onV S.on) (hmay : dO gr 4 w mayV S.may) :
    Fn Tryz.prog 10 #[.agg #[.int .i64 S.n, onV, mayV]] w fun v w' => v = .bool (dJ S) := by
 refine dr (n := 65) Tryz.func10 rfl rfl (Nat.le_of_ble_eq_true rfl) ?_
 have hB : Below w.heap.size w w := Below.refl _ _
 refine Zr <| Zy (dW (c := #[_, _, _]) rfl rfl fun r W3 m s a => ?_)
 have M := ZO m hB
 clear m
 replace hB := Ze hB s
 refine Zw (.bool false) rfl <| cT <| cY fun K6 t => Zr <| Zf rfl gm <| Zl rfl dC a rfl <| Zv (dP rfl rfl) <| ZX rfl (fun u => ?_) fun u => ?_
 refine Zs <| Zs <| Zs <| Zw (.bool true) rfl <| Zw (.bool true) rfl <| Zs <| Zs <| Zs <| Zs <| Zw (.bool true) rfl <| Zw (.bool true) rfl <| Zs <| Zs <| Zs ?_
 refine Zs <| Zw (.bool true) rfl <| Zw (.bool true) rfl <| Zs <| Zs <| Zs <| Zs <| Zs <| Zs <| Zs <| Zw (.bool true) rfl <| cT <| dz rfl <| Zr ?_
 refine Zw (.bool false) rfl <| cT <| Zt <| dL (v := .bool false) rfl ⟨hB, ?_⟩
 exact lH Om
 refine Zf rfl gm <| Zl rfl dC a rfl <| Zv (i4 rfl rfl) <| Zb rfl <| ZX rfl (fun x => ?_) fun x => ?_
 refine Zs <| Zs <| Zs <| Zs <| Zw (.bool true) rfl <| Zw (.bool true) rfl <| Zs <| Zs <| Zs <| Zs <| Zw (.bool true) rfl <| Zw (.bool true) rfl <| Zs <| Zs ?_
 refine Zs <| Zs <| Zs <| Zs <| Zs <| Zw (.bool true) rfl <| cT <| dz rfl <| Zr <| Zw (.bool false) rfl <| cT <| Zt <| dL (v := .bool false) rfl ⟨hB, ?_⟩
 exact lH Om
 refine Zf rfl f4 <| ZL onV rfl eK a rfl <| Zv (dB (v := onV) rfl (Below.slT hB hon) ej) <| Zv (dP rfl rfl) <| Zb rfl <| ZX rfl (fun y => ?_) fun y => ?_
 refine Zs <| Zs <| Zs <| Zs <| Zw (.bool true) rfl <| Zw (.bool true) rfl <| Zs <| Zs <| Zs <| Zs <| Zs <| Zs <| Zs <| Zw (.bool true) rfl ?_
 refine cT <| dz rfl <| Zr <| Zw (.bool false) rfl <| cT <| Zt <| dL (v := .bool false) rfl ⟨hB, ?_⟩
 exact lH Om
 refine Zf rfl f4 <| ZL onV rfl eK a rfl <| Zv (dB (v := onV) rfl (Below.slT hB hon) ej) <| Zv (i4 rfl rfl) <| Zb rfl <| ZX rfl (fun z => ?_) fun z => ?_
 refine Zs <| Zs <| Zs <| Zs <| Zs <| Zs <| Zs <| Zw (.bool true) rfl <| cT <| dz rfl <| Zr <| Zw (.bool false) rfl <| cT <| Zt ?_
 refine dL (v := .bool false) rfl ⟨hB, ?_⟩
 exact lH Om
 refine Zf rfl f7 <| ZL mayV rfl eK a rfl <| Zv (dB (v := mayV) rfl (Below.slT hB hmay) ej) <| Zf rfl f4 <| ZL onV rfl eK a rfl <| Zv (dB (v := onV) rfl (Below.slT hB hon) ej) <| Zv (fC rfl rfl) <| Zb rfl <| cT <| ZQ rfl (fun A => ?_) fun A => ?_
 refine Zr <| Zw (.bool false) rfl <| cT <| Zt <| dL (v := .bool false) rfl ⟨hB, ?_⟩
 exact lH Om
 refine c7 <| t _ _ <| cY fun N B => Zr <| Zw (.int .i64 0) rfl <| cT <| c9 ?_
 refine dy (σ := (Nat)) [2, 3, 33, 34, 35, 36, 37, 38, 39, 40, 41, 42, 43, 44, 45, 46, 47, 48, 49, 50, 51, 52, 53, 54, 55, 56, 57, 58, 59, 60, 61, 62, 63, 64] (fun k => [(3, .int .i64 (k : Int))]) (fun k W => (Below w.heap.size w W) ∧ (At W r _ 24) ∧ (k ≤ S.on.length) ∧ (∀ q, q < k → ee (Bk S q) (jm S q) = true ∧ ee (jm S q) (fh S.n.toNat) = true) ∧ (True)) (fun k => S.on.length - k) (0) ⟨rfl, trivial⟩ ⟨hB, a, (Nat.zero_le _), fX, trivial⟩ ?_
 clear hB a
 rintro k O P ⟨hB, a, hk, hq, _⟩ Q C
 refine cY fun R D => Zr <| Zi rfl <| Zf rfl f4 <| ZL onV rfl eK a rfl <| Zv (dB (v := onV) rfl (Below.slT hB hon) ej) <| Zv (dP rfl rfl) <| cT <| ZQ rfl (fun E => ?_) fun E => ?_
 refine c7 <| D _ _ <| cY fun T F => c9 ?_
 have h0 : 0 ≤ S.n := by omega
 have h8 : S.n ≤ 8 := by omega
 refine Zd eo fun G o => ?_
 replace hB := Ze hB o
 replace a := o.at a
 have hS := eo.refl G
 refine Tf 0 rfl rfl f4 hS <| Tk 1 rfl (fun _ hq => dm (v := onV) rfl eK (At.cell (hq.at a) rfl)) hS <| Ti 2 rfl rfl hS <| Tk 3 rfl (fun _ hq => dM (v := onV) rfl (hq.slT (Below.slT hB hon)) rfl ej Om Ol29_0) hS <| Tk 4 rfl (fun _ hq => ft rfl db (dO.cell (hq.slT (Below.slT hB hon)) dI 0 Om Ol29_0 0 rfl) (dO.cell (hq.slT (Below.slT hB hon)) dI 0 Om Ol29_0 1 rfl) (dO.cell (hq.slT (Below.slT hB hon)) dI 0 Om Ol29_0 2 rfl) (dO.cell (hq.slT (Below.slT hB hon)) dI 0 Om Ol29_0 3 rfl)) hS <| Tf 5 rfl rfl f7 hS <| Tk 6 rfl (fun _ hq => dm (v := mayV) rfl eK (At.cell (hq.at a) rfl)) hS <| Ti 7 rfl rfl hS <| Tk 8 rfl (fun _ hq => dM (v := mayV) rfl (hq.slT (Below.slT hB hmay)) rfl ej Om Ol29_0) hS <| Tk 9 rfl (fun _ hq => ft rfl db (dO.cell (hq.slT (Below.slT hB hmay)) dI 0 Om Ol29_0 0 rfl) (dO.cell (hq.slT (Below.slT hB hmay)) dI 0 Om Ol29_0 1 rfl) (dO.cell (hq.slT (Below.slT hB hmay)) dI 0 Om Ol29_0 2 rfl) (dO.cell (hq.slT (Below.slT hB hmay)) dI 0 Om Ol29_0 3 rfl)) hS <| To 10 rfl (TC (vs := [.agg #[_, _, _, _], .agg #[_, _, _, _]]) Ii (jP _ _ _) rfl fun U V g H => ⟨.inl (hS.trans g), ?_⟩)
 have d := hB
 have p := a
 replace hB := Ze hB g
 replace a := g.at a
 replace hS := hS.trans g
 obtain rfl := H
 refine Tk 11 rfl (fun _ _ => fJ rfl) hS <| Tx 12 rfl (fun _ _ => lf (v := .bool _) rfl) hS (fun j => ?_) fun j => ?_
 refine Tp 13 rfl hS <| Tp 14 rfl hS <| Tp 15 rfl hS <| Tp 16 rfl hS <| Tp 17 rfl hS <| Tp 18 rfl hS <| Tp 19 rfl hS <| Tp 20 rfl hS <| Tp 21 rfl hS <| Tp 22 rfl hS <| Tp 23 rfl hS <| Tw 24 (.bool true) rfl rfl hS <| Td <| dz rfl ?_
 refine Zr <| Zw (.bool false) rfl <| cT <| Zt <| dL (v := .bool false) rfl ⟨hB, ?_⟩
 exact tP (k := k) Om (fun h => Bool.noConfusion (h.1.symm.trans (ja j)))
 refine Tf 13 rfl rfl f7 hS <| Tk 14 rfl (fun _ hq => dm (v := mayV) rfl eK (At.cell (hq.at p) rfl)) hS <| Ti 15 rfl rfl hS <| Tk 16 rfl (fun _ hq => dM (v := mayV) rfl (hq.slT (Below.slT d hmay)) rfl ej Om Ol29_0) hS <| Tk 17 rfl (fun _ hq => ft rfl db (dO.cell (hq.slT (Below.slT d hmay)) dI 0 Om Ol29_0 0 rfl) (dO.cell (hq.slT (Below.slT d hmay)) dI 0 Om Ol29_0 1 rfl) (dO.cell (hq.slT (Below.slT d hmay)) dI 0 Om Ol29_0 2 rfl) (dO.cell (hq.slT (Below.slT d hmay)) dI 0 Om Ol29_0 3 rfl)) hS <| Tf 18 rfl rfl gm hS <| Tk 19 rfl (fun _ hq => dm (v := .int .i64 _) rfl dC (At.cell (hq.at p) rfl)) hS <| To 20 rfl (TC Mc (px _ _ (by first | assumption | omega) (by first | assumption | omega)) rfl fun I X i b => ⟨.inl (hS.trans i), ?_⟩)
 have J := (Below.size hB)
 replace hB := Ze hB i
 replace a := i.at a
 replace hS := hS.trans i
 replace b := dh.mono b J
 refine To 21 rfl (TC (vs := [I]) M3 (pB _ _ _ b.sl (cW _)) rfl fun Y Z e K => ⟨.inl (hS.trans e), ?_⟩)
 replace hB := Ze hB e
 replace a := e.at a
 replace b := e.ow b
 replace hS := hS.trans e
 obtain rfl := K
 refine To 22 rfl (TC (vs := [.agg #[_, _, _, _], .agg #[_, _, _, _]]) Ii (jP _ _ _) rfl fun aa ab f L => ⟨.inl (hS.trans f), ?_⟩)
 replace hB := Ze hB f
 replace a := f.at a
 replace b := f.ow b
 replace hS := hS.trans f
 obtain rfl := L
 refine Tk 23 rfl (fun _ _ => fJ rfl) hS <| Ty 24 rfl rfl hS <| Td <| ZQ rfl (fun l => ?_) fun l => ?_
 refine Zr <| Zw (.bool false) rfl <| cT <| Zt <| dL (v := .bool false) rfl ⟨hB, ?_⟩
 exact tP (k := k) Om (fun h => Bool.noConfusion (h.2.symm.trans ((sT h8).symm.trans (ja l))))
 refine c7 <| F _ _ <| cZ <| Zi rfl <| Zv (dq rfl rfl Om Om) <| Zi rfl <| cT ?_
 exact C _ _ (k + 1) Za ⟨rfl, trivial⟩ ⟨hB, a, Om, (fE hq ⟨jX j, by rw [← sT h8]; exact jX l⟩), trivial⟩ Zo
 refine dt <| B _ _ <| Zr <| Zw (.bool true) rfl <| cT <| Zt <| dL (v := .bool true) rfl ⟨hB, ?_⟩
 obtain rfl : k = S.on.length := by omega
 exact C0 Om hq
theorem hU (S : Sp) (onV mayV : Value) (w : World) (hon : dO gr 4 w onV S.on) (hmay : dO gr 4 w mayV S.may) :
    Fn Tryz.prog 18 #[.agg #[.int .i64 S.n, onV, mayV]] w fun v w' => v = .bool (dJ S) := by
 refine dr (n := 63) Tryz.func18 rfl rfl (Nat.le_of_ble_eq_true rfl) ?_
 have hB : Below w.heap.size w w := Below.refl _ _
 refine Zr <| Zy (dW (c := #[_, _, _]) rfl rfl fun A W3 s B a => ?_)
 have ab := ZO s hB
 clear s
 replace hB := Ze hB B
 refine Zw (.bool false) rfl <| cT <| Zr <| Zf rfl gm <| Zl rfl dC a rfl <| ZC vC (nc _ _) rfl fun ac W8 t C => ?_
 replace hB := Ze hB t
 replace a := t.at a
 obtain ⟨sa, er, rfl, hhP1_2⟩ := pT C
 refine Zw (.tuple #[.agg #[_, _, _, _], .int .i64 _]) rfl <| Zv (dF rfl) <| Zv (dG rfl) <| Zy (dp eJ rfl fun u D x y b => ?_)
 have E := ZO x hB
 clear x
 replace hB := Ze hB y
 replace a := y.at a
 replace b : At D u #[wv 0 0, wv 0 1, wv 0 2, wv 0 3] 49 := b
 refine Zy (df rfl rfl db rfl b rfl rfl fun ad z F => ?_)
 replace hB := Zg hB z E
 replace a := At.grownAt a b z Dd
 replace b := F
 refine Zi rfl <| cT <| cY fun ae G => Zr <| Zi rfl <| Zv (fC rfl rfl) <| ZX rfl (fun j => ?_) fun j => ?_
 refine Zs <| Zs <| Zs <| Zs <| Zw (.bool true) rfl <| Zw (.bool true) rfl <| Zs <| Zs <| Zs <| Zs <| Zw (.bool true) rfl <| Zw (.bool true) rfl <| Zs <| Zs ?_
 refine Zs <| Zs <| Zs <| Zs <| Zs <| Zw (.bool true) rfl <| cT <| dz rfl <| Zr <| Zw (.bool false) rfl <| cT <| Zt <| dL (v := .bool false) rfl ⟨hB, ?_⟩
 exact lH (fun h => MR hhP1_2 j ⟨h.1, h.2.1⟩)
 refine Zf rfl f4 <| ZL onV rfl eK a rfl <| Zv (dB (v := onV) rfl (Below.slT hB hon) ej) <| Zv (dP rfl rfl) <| Zb rfl <| ZX rfl (fun H => ?_) fun H => ?_
 refine Zs <| Zs <| Zs <| Zs <| Zw (.bool true) rfl <| Zw (.bool true) rfl <| Zs <| Zs <| Zs <| Zs <| Zs <| Zs <| Zs <| Zw (.bool true) rfl ?_
 refine cT <| dz rfl <| Zr <| Zw (.bool false) rfl <| cT <| Zt <| dL (v := .bool false) rfl ⟨hB, ?_⟩
 exact lH Om
 refine Zf rfl f4 <| ZL onV rfl eK a rfl <| Zv (dB (v := onV) rfl (Below.slT hB hon) ej) <| Zv (i4 rfl rfl) <| Zb rfl <| ZX rfl (fun I => ?_) fun I => ?_
 refine Zs <| Zs <| Zs <| Zs <| Zs <| Zs <| Zs <| Zw (.bool true) rfl <| cT <| dz rfl <| Zr <| Zw (.bool false) rfl <| cT <| Zt ?_
 refine dL (v := .bool false) rfl ⟨hB, ?_⟩
 exact lH Om
 refine Zf rfl f4 <| ZL onV rfl eK a rfl <| Zv (dB (v := onV) rfl (Below.slT hB hon) ej) <| Zf rfl f7 <| ZL mayV rfl eK a rfl <| Zv (dB (v := mayV) rfl (Below.slT hB hmay) ej) <| Zv (fC rfl rfl) <| Zb rfl <| cT <| ZQ rfl (fun J => ?_) fun J => ?_
 refine Zr <| Zw (.bool false) rfl <| cT <| Zt <| dL (v := .bool false) rfl ⟨hB, ?_⟩
 exact lH Om
 refine c7 <| G _ _ <| cY fun af K => ?_
 obtain ⟨h0, h8, rfl⟩ := uF hhP1_2 j
 refine Zr <| Zf rfl f4 <| ZL onV rfl eK a rfl <| Zv (dB (v := onV) rfl (Below.slT hB hon) ej) <| Zw (.int .i64 0) rfl <| cT <| c9 ?_
 refine dy (σ := (Nat)) [2, 5, 6, 39, 40, 41, 42, 43, 44, 45, 46, 47, 48, 49, 50, 51, 52, 53, 54, 55, 56, 57, 58, 59, 60, 61, 62] (fun k => [(39, .int .i64 (k : Int))]) (fun k W => (Below w.heap.size w W) ∧ (At W A _ 24) ∧ (At W u _ 49) ∧ (k ≤ S.on.length) ∧ (∀ q, q < k → ee (Bk S q) (jm S q) = true ∧ ee (jm S q) (fh S.n.toNat) = true) ∧ (True)) (fun k => S.on.length - k) (0) ⟨rfl, trivial⟩ ⟨hB, a, b, (Nat.zero_le _), fX, trivial⟩ ?_
 clear hB a b
 rintro k ag ah ⟨hB, a, b, hk, hq, _⟩ ai L
 refine Zr <| Zv (dP rfl rfl) <| cT <| cY fun aj M => ZQ rfl (fun N => ?_) fun N => ?_
 refine c7 <| M _ _ <| cY fun ak O => c9 <| Zr <| Zi rfl <| Zv (dM (v := onV) rfl (Below.slT hB hon) rfl ej Om Ol29_0) <| Zv (ft rfl db (dO.cell (Below.slT hB hon) dI 0 Om Ol29_0 0 rfl) (dO.cell (Below.slT hB hon) dI 0 Om Ol29_0 1 rfl) (dO.cell (Below.slT hB hon) dI 0 Om Ol29_0 2 rfl) (dO.cell (Below.slT hB hon) dI 0 Om Ol29_0 3 rfl)) <| Zy (dp eJ rfl fun P Q l m d => ?_)
 have R := ZO l hB
 have T := Zn l b.lt
 clear l
 replace hB := Ze hB m
 replace a := m.at a
 replace b := m.at b
 replace d : At Q P #[wv 0 0, wv 0 1, wv 0 2, wv 0 3] 49 := d
 refine Zi rfl <| Zy (df rfl rfl db rfl d rfl rfl fun al o U => ?_)
 replace hB := Zg hB o R
 replace a := At.grownAt a d o Dd
 replace b := At.grownNe b T o
 replace d := U
 refine cT <| Zd eo fun V i => ?_
 replace hB := Ze hB i
 replace a := i.at a
 replace b := i.at b
 replace d := i.at d
 have hS := eo.refl V
 refine Tk 0 rfl (fun _ hq => da rfl db rfl (hq.at d)) hS <| Tf 1 rfl rfl f7 hS <| Tk 2 rfl (fun _ hq => dm (v := mayV) rfl eK (At.cell (hq.at a) rfl)) hS <| Ti 3 rfl rfl hS <| Tk 4 rfl (fun _ hq => dM (v := mayV) rfl (hq.slT (Below.slT hB hmay)) rfl ej Om Ol29_0) hS <| Tk 5 rfl (fun _ hq => ft rfl db (dO.cell (hq.slT (Below.slT hB hmay)) dI 0 Om Ol29_0 0 rfl) (dO.cell (hq.slT (Below.slT hB hmay)) dI 0 Om Ol29_0 1 rfl) (dO.cell (hq.slT (Below.slT hB hmay)) dI 0 Om Ol29_0 2 rfl) (dO.cell (hq.slT (Below.slT hB hmay)) dI 0 Om Ol29_0 3 rfl)) hS <| To 6 rfl (TC (vs := [.agg #[_, _, _, _], .agg #[_, _, _, _]]) oX (ib _ _ _) rfl fun ao ap e X => ⟨.inl (hS.trans e), ?_⟩)
 have g := hB
 have Y := a
 have Z := b
 replace hB := Ze hB e
 replace a := e.at a
 replace b := e.at b
 replace d := e.at d
 replace hS := hS.trans e
 obtain rfl := X
 refine Tk 7 rfl (fun _ _ => fJ rfl) hS <| Tx 8 rfl (fun _ _ => lf (v := .bool _) rfl) hS (fun p => ?_) fun p => ?_
 refine Tp 9 rfl hS <| Tp 10 rfl hS <| Tp 11 rfl hS <| Tp 12 rfl hS <| Tp 13 rfl hS <| Tp 14 rfl hS <| Tp 15 rfl hS <| Tp 16 rfl hS <| Tw 17 (.bool true) rfl rfl hS <| Td <| dz rfl <| Zr <| Zw (.bool false) rfl <| cT ?_
 refine Zt <| dL (v := .bool false) rfl ⟨hB, ?_⟩
 exact tP (k := k) Om (fun h => Bool.noConfusion (h.1.symm.trans (ja p)))
 refine Tf 9 rfl rfl f7 hS <| Tk 10 rfl (fun _ hq => dm (v := mayV) rfl eK (At.cell (hq.at Y) rfl)) hS <| Ti 11 rfl rfl hS <| Tk 12 rfl (fun _ hq => dM (v := mayV) rfl (hq.slT (Below.slT g hmay)) rfl ej Om Ol29_0) hS <| Tk 13 rfl (fun _ hq => ft rfl db (dO.cell (hq.slT (Below.slT g hmay)) dI 0 Om Ol29_0 0 rfl) (dO.cell (hq.slT (Below.slT g hmay)) dI 0 Om Ol29_0 1 rfl) (dO.cell (hq.slT (Below.slT g hmay)) dI 0 Om Ol29_0 2 rfl) (dO.cell (hq.slT (Below.slT g hmay)) dI 0 Om Ol29_0 3 rfl)) hS <| Tk 14 rfl (fun _ hq => da rfl db rfl (hq.at Z)) hS <| To 15 rfl (TC (vs := [.agg #[_, _, _, _], .agg #[_, _, _, _]]) oX (ib _ _ _) rfl fun aq ar f aa => ⟨.inl (hS.trans f), ?_⟩)
 replace hB := Ze hB f
 replace a := f.at a
 replace b := f.at b
 replace d := f.at d
 replace hS := hS.trans f
 obtain rfl := aa
 refine Tk 16 rfl (fun _ _ => fJ rfl) hS <| Ty 17 rfl rfl hS <| Td <| ZQ rfl (fun r => ?_) fun r => ?_
 refine Zr <| Zw (.bool false) rfl <| cT <| Zt <| dL (v := .bool false) rfl ⟨hB, ?_⟩
 exact tP (k := k) Om (fun h => Bool.noConfusion (h.2.symm.trans (ja r)))
 refine c7 <| O _ _ <| cZ <| Zv (dq rfl rfl Om Om) <| Zi rfl <| cT ?_
 exact L _ _ (k + 1) Za ⟨rfl, trivial⟩ ⟨hB, a, b, Om, (fE hq ⟨jX p, jX r⟩), trivial⟩ Zo
 refine dt <| K _ _ <| Zr <| Zw (.bool true) rfl <| cT <| Zt <| dL (v := .bool true) rfl ⟨hB, ?_⟩
 obtain rfl : k = S.on.length := by omega
 exact C0 Om hq
theorem nG (S : Sp) (onV mayV : Value) (c : Cb) (w : World) (hon : dO gr 4 w onV S.on) (hmay : dO gr 4 w mayV S.may) (hc : c.m < 256 ∧ c.v < 256) (hl : S.may.length ≤ 7) :
    Fn Tryz.prog 36 #[.agg #[.int .i64 S.n, onV, mayV], .agg #[.int .u8 (c.m : Int), .int .u8 (c.v : Int)]] w fun v w' => v = .int .u8 ((kq S c : Nat) : Int) := by
 refine dr (n := 27) Tryz.func36 rfl rfl (Nat.le_of_ble_eq_true rfl) ?_
 have hB : Below w.heap.size w w := Below.refl _ _
 refine Zr <| Zy (dW (c := #[_, _, _]) rfl rfl fun s W3 i t a => ?_)
 have F := ZO i hB
 clear i
 replace hB := Ze hB t
 refine Zy (dW (c := #[_, _]) rfl rfl fun u W6 j l b => ?_)
 have G := ZO j hB
 clear j
 replace hB := Ze hB l
 replace a := l.at a
 refine Zw (.int .u8 0) rfl <| cT <| Zr <| Zw (.int .u8 0) rfl <| cT <| cY fun H x => Zr <| Zf rfl f7 <| ZL mayV rfl eK a rfl <| Zv (dB (v := mayV) rfl (Below.slT hB hmay) ej) <| Zw (.int .i64 0) rfl <| cT <| c9 ?_
 refine dy (σ := (Nat)) [5, 6, 7, 11, 12, 13, 14, 15, 16, 17, 18, 19, 20, 21, 22, 23, 24, 25] (fun k => [(11, .int .i64 (k : Int)), (5, .int .u8 ((kG S c k : Nat) : Int))]) (fun k W => (Below w.heap.size w W) ∧ (At W s _ 24) ∧ (At W u _ 40) ∧ (k ≤ S.may.length) ∧ (True)) (fun k => S.may.length - k) (0) ⟨rfl, rfl, trivial⟩ ⟨hB, a, b, (Nat.zero_le _), trivial⟩ ?_
 clear hB a b
 rintro k I J ⟨hB, a, b, hk, _⟩ K o
 refine Zr <| Zv (dP rfl rfl) <| cT <| cY fun L y => ZQ rfl (fun z => ?_) fun z => ?_
 refine c7 <| y _ _ <| cY fun M p => c9 <| Zr <| Zi rfl <| Zv (dM (v := mayV) rfl (Below.slT hB hmay) rfl ej Om Ol29_0) <| Zv (ft rfl db (dO.cell (Below.slT hB hmay) dI 0 Om Ol29_0 0 rfl) (dO.cell (Below.slT hB hmay) dI 0 Om Ol29_0 1 rfl) (dO.cell (Below.slT hB hmay) dI 0 Om Ol29_0 2 rfl) (dO.cell (Below.slT hB hmay) dI 0 Om Ol29_0 3 rfl)) <| Zy (dp eJ rfl fun A B r g d => ?_)
 have C := ZO r hB
 clear r
 replace hB := Ze hB g
 replace a := g.at a
 replace b := g.at b
 replace d : At B A #[wv 0 0, wv 0 1, wv 0 2, wv 0 3] 49 := d
 refine Zi rfl <| Zy (df rfl rfl db rfl d rfl rfl fun N h D => ?_)
 replace hB := Zg hB h C
 replace a := At.grownAt a d h Dd
 replace b := At.grownAt b d h Dd
 replace d := D
 refine cT <| Zr <| Zv (da rfl dR rfl b) <| Zv (da rfl db rfl d) <| Zf rfl gm <| Zl rfl dC a rfl <| ZC (vs := [.agg #[_, _], .agg #[_, _, _, _], .int .i64 _]) CP (l6 c.m c.v _ _ _ hc.1 hc.2) rfl fun O P f E => ?_
 replace hB := Ze hB f
 replace a := f.at a
 replace b := f.at b
 replace d := f.at d
 obtain rfl := E
 refine cT <| ZQ rfl (fun e => ?_) fun e => ?_
 have hlt := pV S c k
 have h7 := BN (show k < 8 by omega)
 refine cZ <| Zi rfl <| Zi rfl <| Zv (jv (m := 1) rfl rfl Om (by simp only [IntKind.bits]; omega) (by simp only [ek, Int.toNat_natCast, Nat.one_mul]; omega)) <| Zv (B4 (n := _) rfl rfl rfl (by simp only [ek]; omega) (by simp only [ek, Int.toNat_natCast, Nat.one_mul]; omega)) <| Zi rfl <| cT <| p _ _ <| cZ <| Zv (dq rfl rfl Om Om) <| Zi rfl <| cT ?_
 exact o _ _ (k + 1) Za ⟨rfl, (by first | exact congrArg (fun q : Nat => Value.int .u8 (q : Int)) (Gb e) | exact congrArg (fun q : Nat => Value.int .u8 (q : Int)) (Hg e)), trivial⟩ ⟨hB, a, b, Om, trivial⟩ Zo
 refine c7 <| p _ _ <| cZ <| Zv (dq rfl rfl Om Om) <| Zi rfl <| cT ?_
 exact o _ _ (k + 1) Za ⟨rfl, (by first | exact congrArg (fun q : Nat => Value.int .u8 (q : Int)) (Gb e) | exact congrArg (fun q : Nat => Value.int .u8 (q : Int)) (Hg e)), trivial⟩ ⟨hB, a, b, Om, trivial⟩ Zo
 refine dt <| x _ _ <| Zr <| Zi rfl <| Zi rfl <| cT <| Zt <| dL (v := .int .u8 _) rfl ⟨hB, ?_⟩
 obtain rfl : k = S.may.length := by omega
 rfl
theorem lW (S : Sp) (onV mayV : Value) (m u o : Nat) (w : World) (hon : dO gr 4 w onV S.on) (hmay : dO gr 4 w mayV S.may) (hm : m < 256) (hv : u < 256) (ho : o < 256) :
    Fn Tryz.prog 88 #[.agg #[.int .i64 S.n, onV, mayV], .agg #[.int .u8 (m : Int), .int .u8 (u : Int), .int .u8 (o : Int)]] w fun v w' => v = .bool (pk S ⟨⟨m, u⟩, o⟩) := by
 refine dr (n := 22) Tryz.func88 rfl rfl (Nat.le_of_ble_eq_true rfl) ?_
 have hB : Below w.heap.size w w := Below.refl _ _
 refine Zr <| Zy (dW (c := #[_, _, _]) rfl rfl fun y W3 j q a => ?_)
 have z := ZO j hB
 clear j
 replace hB := Ze hB q
 refine Zy (dW (c := #[_, _, _]) rfl rfl fun A W6 l p d => ?_)
 have B := ZO l hB
 clear l
 replace hB := Ze hB p
 replace a := p.at a
 refine Zw (.bool false) rfl <| cT <| Zd eo fun r i => ?_
 replace hB := Ze hB i
 replace a := i.at a
 replace d := i.at d
 have hS := eo.refl r
 refine Tk 0 rfl (fun _ hq => da rfl eT rfl (hq.at a)) hS <| To 1 rfl (TC (vs := [.agg #[_, _, _]]) pp (hU S _ _  _ (Below.slT hB hon) (Below.slT hB hmay) ) rfl fun C D f s => ⟨.inl (hS.trans f), ?_⟩)
 have t := a
 have h := d
 replace hB := Ze hB f
 replace a := f.at a
 replace d := f.at d
 replace hS := hS.trans f
 obtain rfl := s
 refine Tx 2 rfl (fun _ _ => lf (v := .bool _) rfl) hS (fun b => ?_) fun b => ?_
 refine Tf 3 rfl rfl fZ hS <| Tk 4 rfl (fun _ hq => dm (v := .int .u8 _) rfl ey (At.cell (hq.at h) rfl)) hS <| Tk 5 rfl (fun _ _ => i4 rfl rfl) hS <| Ty 6 rfl rfl hS <| Tx 7 rfl (fun _ _ => lf (v := .bool _) rfl) hS (fun e => ?_) fun e => ?_
 refine Tf 8 rfl rfl fZ hS <| Tk 9 rfl (fun _ hq => dm (v := .int .u8 _) rfl ey (At.cell (hq.at h) rfl)) hS <| Tk 10 rfl (fun _ hq => da rfl eT rfl (hq.at t)) hS <| Tf 11 rfl rfl g6 hS <| Tk 12 rfl (fun _ hq => iJ rfl dR (At.cell (hq.at h) rfl) (At.cell (hq.at h) rfl)) hS <| To 13 rfl (TC (vs := [.agg #[_, _, _], .agg #[_, _]]) Cv (nG S _ _ ⟨m, u⟩ _ (Below.slT hB hon) (Below.slT hB hmay) ⟨hm, hv⟩ (by obtain ⟨_, _, _, h4, h5, _⟩ := dY.1 b; omega)) rfl fun E F g x => ⟨.inl (hS.trans g), ?_⟩)
 replace hB := Ze hB g
 replace a := g.at a
 replace d := g.at d
 replace hS := hS.trans g
 obtain rfl := x
 refine Tk 14 rfl (fun _ _ => pr (n := _) rfl rfl rfl (by first | assumption | (simp only [ek]; omega) | (simp only [ek]; decide)) (by have h1 := pV S ⟨m, u⟩ S.may.length; have h2 := Fc (k := S.may.length) (by obtain ⟨_, _, _, h4, h5, _⟩ := dY.1 b; omega); show kG S ⟨m, u⟩ S.may.length < 256; omega)) hS <| Tk 15 rfl (fun _ _ => eq rfl rfl) hS <| Ty 16 rfl rfl hS <| Ty 17 rfl rfl hS <| Td <| Zt <| dL (v := .bool _) rfl ⟨hB, ?_⟩
 first | exact congrArg Value.bool (Hf b e) | exact qh (FM e) | exact qh (H4 b)
 refine Tp 8 rfl hS <| Tp 9 rfl hS <| Tp 10 rfl hS <| Tp 11 rfl hS <| Tp 12 rfl hS <| Tp 13 rfl hS <| Tp 14 rfl hS <| Tp 15 rfl hS <| Tw 16 (.bool false) rfl rfl hS <| Tw 17 (.bool false) rfl rfl hS <| Td <| Zt <| dL (v := .bool false) rfl ⟨hB, ?_⟩
 first | exact congrArg Value.bool (Hf b e) | exact qh (FM e) | exact qh (H4 b)
 refine Tp 3 rfl hS <| Tp 4 rfl hS <| Tp 5 rfl hS <| Tw 6 (.bool false) rfl rfl hS <| Tw 7 (.bool false) rfl rfl hS <| Tp 8 rfl hS <| Tp 9 rfl hS <| Tp 10 rfl hS <| Tp 11 rfl hS <| Tp 12 rfl hS <| Tp 13 rfl hS <| Tp 14 rfl hS <| Tp 15 rfl hS <| Tw 16 (.bool false) rfl rfl hS ?_
 refine Tw 17 (.bool false) rfl rfl hS <| Td <| Zt <| dL (v := .bool false) rfl ⟨hB, ?_⟩
 first | exact congrArg Value.bool (Hf b e) | exact qh (FM e) | exact qh (H4 b)
theorem wq (m u o m2 u2 o2 : Nat) (w : World) :
    Fn Tryz.prog 38 #[.agg #[.int .u8 (m : Int), .int .u8 (u : Int), .int .u8 (o : Int)], .agg #[.int .u8 (m2 : Int), .int .u8 (u2 : Int), .int .u8 (o2 : Int)]] w fun v w' => v = .bool (ze ⟨⟨m, u⟩, o⟩ ⟨⟨m2, u2⟩, o2⟩) := by
 refine dr (n := 38) Tryz.func38 rfl rfl (Nat.le_of_ble_eq_true rfl) ?_
 have hB : Below w.heap.size w w := Below.refl _ _
 refine Zr <| Zy (dW (c := #[_, _, _]) rfl rfl fun k W3 g i a => ?_)
 have l := ZO g hB
 clear g
 replace hB := Ze hB i
 refine Zy (dW (c := #[_, _, _]) rfl rfl fun p W6 e h b => ?_)
 have q := ZO e hB
 have r := Zn e a.lt
 clear e
 replace hB := Ze hB h
 replace a := h.at a
 refine Zw (.bool false) rfl <| cT <| cY fun K9 j => c9 <| Zr <| Zf rfl fZ <| Zl rfl ey a rfl <| Zf rfl fZ <| Zl rfl ey b rfl <| Zv (fC rfl rfl) <| Zb rfl <| cT <| ZQ rfl (fun d => ?_) fun d => ?_
 refine Zr <| Zf rfl fZ <| Zl rfl ey a rfl <| Zf rfl fZ <| Zl rfl ey b rfl <| Zv (dP rfl rfl) <| Zb rfl <| cT <| Zt <| dL (v := .bool _) rfl ⟨hB, ?_⟩
 exact congrArg Value.bool (OE d)
 refine Zr <| Zf rfl g6 <| Zf rfl fm <| Zl rfl ey a rfl <| Zf rfl g6 <| Zf rfl fm <| Zl rfl ey b rfl <| Zv (fC rfl rfl) <| Zb rfl <| cT <| ZQ rfl (fun f => ?_) fun f => ?_
 refine Zr <| Zf rfl g6 <| Zf rfl fm <| Zl rfl ey a rfl <| Zf rfl g6 <| Zf rfl fm <| Zl rfl ey b rfl <| Zv (dP rfl rfl) <| Zb rfl <| cT <| Zt <| dL (v := .bool _) rfl ⟨hB, ?_⟩
 exact congrArg Value.bool (OH d f)
 refine c7 <| j _ _ <| Zr <| Zf rfl g6 <| Zf rfl g7 <| Zl rfl ey a rfl <| Zf rfl g6 <| Zf rfl g7 <| Zl rfl ey b rfl <| Zv (dP rfl rfl) <| Zb rfl <| cT <| Zt <| dL (v := .bool _) rfl ?_
 refine ⟨hB, ?_⟩
 exact congrArg Value.bool (OX d f)
theorem nk (xa : Value) (l : List Rw) (q : Nat) (w : World) (hl : dO gK 3 w xa l) (hq : dH Tryz.prog q = true) (hdo : ∀ (m u o m2 u2 o2 : Nat) (w : World), Fn Tryz.prog q #[.agg #[.int .u8 (m : Int), .int .u8 (u : Int), .int .u8 (o : Int)], .agg #[.int .u8 (m2 : Int), .int .u8 (u2 : Int), .int .u8 (o2 : Int)]] w fun v w' => v = .bool (ze ⟨⟨m, u⟩, o⟩ ⟨⟨m2, u2⟩, o2⟩)) (hlb : l.length ≤ 2000000) :
    Fn Tryz.prog 37 #[xa, .func (.func q) #[] #[]] w fun v w' => dh gK 3 42 w' w.heap.size v (fi l l.length) := by
 refine dr (n := 44) Tryz.func37 rfl rfl (Nat.le_of_ble_eq_true rfl) ?_
 have hB : Below w.heap.size w w := Below.refl _ _
 refine Zr <| Zw (.slice none 0 0) rfl <| cT <| Zr <| Zw (.slice none 0 0) rfl <| cT <| cY fun K5 Z => Zr <| Zw xa rfl <| Zv (dB (v := xa) rfl (Below.slT hB hl) dV) <| Zw (.int .i64 0) rfl <| cT <| c9 ?_
 refine dy (σ := (Nat) × (Value)) [5, 7, 8, 11, 12, 13, 14, 15, 16, 17, 18, 19, 20, 21, 22, 23, 24, 25, 26, 27, 28, 29, 30, 31, 32, 33, 34, 35, 36, 37, 38, 39, 40, 41, 42] (fun (k, v0) => [(11, .int .i64 (k : Int)), (5, v0)]) (fun sg W => match sg with | (k, v0) => (Below w.heap.size w W) ∧ (dh gK 3 42 W w.heap.size v0 (fi l k)) ∧ (k ≤ l.length) ∧ (True)) (fun (k, v0) => l.length - k) ((0, .slice none 0 0)) ⟨rfl, rfl, trivial⟩ ⟨hB, dh.nil, (Nat.zero_le _), trivial⟩ ?_
 clear hB
 rintro ⟨k, v0⟩ au W9 ⟨hB, ho, hk, _⟩ av S
 refine Zr <| Zv (dP rfl rfl) <| cT <| cY fun aw aa => ZQ rfl (fun ab => ?_) fun ab => ?_
 refine c7 <| aa _ _ <| cY fun ax T => c9 ?_
 have hsl := nH l k
 have hC : (fi l k).length ≤ iR v0 := (Sl.eqv ho.sl).2.1
 refine Zr <| Zv (dM (v := xa) rfl (Below.slT hB hl) rfl dV Om Ol29_0) <| Zv (lM rfl ez (dO.cell (Below.slT hB hl) eI ⟨⟨0, 0⟩, 0⟩ Om Ol29_0 0 rfl) (dO.cell (Below.slT hB hl) eI ⟨⟨0, 0⟩, 0⟩ Om Ol29_0 1 rfl) (dO.cell (Below.slT hB hl) eI ⟨⟨0, 0⟩, 0⟩ Om Ol29_0 2 rfl)) <| Zy (dp kL rfl fun U ay G V c => ?_)
 have ac := ZO G hB
 have ad := dh.neB (b := U) ho (Nat.le_of_eq G.symm)
 clear G
 replace hB := Ze hB V
 replace ho := V.ow ho
 refine Zy (df rfl rfl ez rfl c rfl rfl fun az X ae => ?_)
 replace hB := Zg hB X ac
 replace ho := dh.grownAtNe ho ad X
 replace c := ae
 refine cT <| Zr <| Zw v0 rfl <| Zv (dB (v := v0) rfl ho.sl dV) <| Zi rfl <| cT <| cY fun aA Y => c9 ?_
 refine dy (σ := (Nat)) [8, 17, 18, 19, 20, 21, 22, 23, 24, 25, 26, 27, 28, 29, 30] (fun i => [(8, .int .i64 (i : Int))]) (fun i W => (Below w.heap.size w W) ∧ (dh gK 3 42 W w.heap.size v0 _) ∧ (At W U _ 42) ∧ (i ≤ (fi l k).length) ∧ (nK (fi l k) (l.getD k ⟨⟨0, 0⟩, 0⟩) (fi l k).length = nK (fi l k) (l.getD k ⟨⟨0, 0⟩, 0⟩) i) ∧ (True)) (fun i => i) ((fi l k).length) ⟨rfl, trivial⟩ ⟨hB, ho, c, (Nat.le_refl _), rfl, trivial⟩ ?_
 clear hB ho c
 rintro i aB aC ⟨hB, ho, c, hi, hp, _⟩ aD af
 refine cY fun aE ag => Zd eo fun ah H => ?_
 replace hB := Ze hB H
 replace ho := H.ow ho
 replace c := H.at c
 have hS := eo.refl ah
 refine Ti 0 rfl rfl hS <| Tk 1 rfl (fun _ _ => i4 rfl rfl) hS <| Tx 2 rfl (fun _ _ => lf (v := .bool _) rfl) hS (fun ai => ?_) fun ai => ?_
 refine Tw 3 (.func (.func q) #[] #[]) rfl rfl hS <| Tk 4 rfl (fun _ hq => da rfl ez rfl (hq.at c)) hS <| Tw 5 v0 rfl rfl hS <| Ti 6 rfl rfl hS <| Tk 7 rfl (fun _ _ => kI rfl rfl Om Om) hS <| Tk 8 rfl (fun _ hq => dM (v := v0) rfl ((hq.ow ho)).sl rfl dV Om Ol29_0) hS <| Tk 9 rfl (fun _ hq => lM rfl ez (dO.cell ((hq.ow ho)).sl eI ⟨⟨0, 0⟩, 0⟩ Om Ol29_0 0 rfl) (dO.cell ((hq.ow ho)).sl eI ⟨⟨0, 0⟩, 0⟩ Om Ol29_0 1 rfl) (dO.cell ((hq.ow ho)).sl eI ⟨⟨0, 0⟩, 0⟩ Om Ol29_0 2 rfl)) hS <| To 10 rfl (Yd.call (vQ (q := q) rfl hq (v0 := .agg #[_, _, _]) rfl (v1 := .agg #[_, _, _]) rfl) (hdo _ _ _ _ _ _ _) fun aF aG A aj => ⟨.inl (hS.trans A), ?_⟩)
 replace hB := Ze hB A
 replace ho := A.ow ho
 replace c := A.at c
 replace hS := hS.trans A
 obtain rfl := aj
 refine Ty 11 rfl rfl hS <| Td <| ZQ rfl (fun F => ?_) fun F => ?_
 refine c7 <| ag _ _ <| c9 <| cZ <| Zi rfl <| Zv (kI rfl rfl Om Om) <| Zi rfl <| cT ?_
 exact af _ _ (i - 1) Za ⟨congrArg (Value.int .i64) (by omega : (i : Int) - 1 = ((i - 1 : Nat) : Int)), trivial⟩ ⟨hB, ho, c, Om, (hp.trans (Bv Om F)), trivial⟩ Zo
 refine dt <| Y _ _ ?_
 have hpos : nK (fi l k) (l.getD k ⟨⟨0, 0⟩, 0⟩) (fi l k).length = i := hp.trans (xd (by first | exact .inr F | exact .inl (by omega)))
 have hsl := nH l k
 have hC : (fi l k).length ≤ iR v0 := (Sl.eqv ho.sl).2.1
 have hil : ((i : Nat) : Int).toNat = i := rfl
 refine gy eo iv (fun I J => ?_)
 replace hB := Ze hB J
 replace ho := J.ow ho
 replace c := J.at c
 have hS := eo.refl I
 refine Tw 0 v0 rfl rfl hS <| Ti 1 rfl rfl hS <| Ti 2 rfl rfl hS <| Tk 3 rfl (fun _ hq => lS (v := v0) rfl ((hq.ow ho)).sl dV rfl rfl Om Om Om) hS ?_
 have d : dO gK 3 I (fS 3 v0 0 i i) (((fi l k).drop 0).take (i - 0)) := dO.part eI ho.sl (by omega) (by omega) (by omega) (by omega)
 refine Tk 4 rfl (fun _ hq => da rfl ez rfl (hq.at c)) hS <| Tw 6 v0 rfl rfl hS <| Ti 7 rfl rfl hS <| Tk 8 rfl (fun _ hq => lT (v := v0) rfl ((hq.ow ho)).sl dV rfl Om Om) hS ?_
 have f : dO gK 3 I (fS 3 v0 i (fi l k).length (iR v0)) (((fi l k).drop i).take ((fi l k).length - i)) := dO.part eI ho.sl (by omega) (by omega) (by omega) (by omega)
 refine To 5 rfl (fp (u := .agg #[_, _, _]) rfl dV ip rfl Dd Dd fun g aH r s K => ⟨.inl (hS.trans s), ?_⟩)
 have L := ZO r hB
 have B := Nat.le_trans (eo.size hS) (Nat.le_of_eq r.symm)
 have ak := dh.neB (b := g) ho (Nat.le_of_eq r.symm)
 have al := Zn r c.lt
 have ao := dO.far (b := g) d (Nat.le_of_eq r.symm)
 have ap := dO.far (b := g) f (Nat.le_of_eq r.symm)
 clear r
 replace hB := Ze hB s
 replace ho := s.ow ho
 replace c := s.at c
 replace d := s.slT d
 replace f := s.slT f
 replace hS := hS.trans s
 have M := iu (enc := gK) (a := (l.getD k ⟨⟨0, 0⟩, 0⟩)) K rfl rfl L
 refine To 9 rfl (eB (v := .slice (some ⟨g, 0, none⟩) 1 1) (v2 := fS 3 v0 i (fi l k).length (iR v0)) rfl rfl dV ip Dd M f (kb) (by have := Below.size hB; omega) (by simp; omega) (by simp; omega) fun O aI C h => ⟨.inl (du hS C (Nat.le_refl _) (fun j hj => by have e : g = j := Option.some.inj hj; rw [← e]; exact B)), ?_⟩)
 replace hS : eo _ _ := du hS C (Nat.le_refl _) (fun j hj => by have e : g = j := Option.some.inj hj; rw [← e]; exact B)
 replace h := dh.app (enc := gK) rfl rfl rfl rfl h
 replace hB := ZG hB C M
 replace d := dO.grownFar d ao C
 replace f := dO.grownFar f ap C
 clear ho M
 refine To 10 rfl (jn (N := w.heap.size) (v := fS 3 v0 0 i i) (v2 := O) rfl rfl dV ip d (uI (by simp; omega)) h.sl (by simp) (Below.size hB) (by simp; omega) (by simp; omega) fun D aJ y p => ⟨.inl (hS.trans y), ?_⟩)
 replace p := dh.app (enc := gK) rfl rfl rfl rfl p
 replace hB := Ze hB y
 replace d := y.slT d
 replace f := y.slT f
 replace h := y.ow h
 replace hS := hS.trans y
 refine Tw 11 D rfl rfl hS <| Td <| T _ _ <| cZ <| Zv (dq rfl rfl Om Om) <| Zi rfl <| cT ?_
 exact S _ _ ((k + 1, D)) Za ⟨rfl, rfl, trivial⟩ ⟨hB, (by rw [fi, Fu, hpos]; have e : ((fi l k).drop i).take ((fi l k).length - i) = (fi l k).drop i := List.take_of_length_le (by simp); rw [e] at p; simpa using p), Om, trivial⟩ (by show l.length - (k + 1) < l.length - k; omega)
 refine Tp 3 rfl hS <| Tp 4 rfl hS <| Tp 5 rfl hS <| Tp 6 rfl hS <| Tp 7 rfl hS <| Tp 8 rfl hS <| Tp 9 rfl hS <| Tp 10 rfl hS <| Tw 11 (.bool false) rfl rfl hS <| Td <| ep rfl <| dt <| Y _ _ ?_
 have hpos : nK (fi l k) (l.getD k ⟨⟨0, 0⟩, 0⟩) (fi l k).length = i := hp.trans (xd (by first | exact .inr F | exact .inl (by omega)))
 have hsl := nH l k
 have hC : (fi l k).length ≤ iR v0 := (Sl.eqv ho.sl).2.1
 have hil : ((i : Nat) : Int).toNat = i := rfl
 refine gy eo iv (fun P Q => ?_)
 replace hB := Ze hB Q
 replace ho := Q.ow ho
 replace c := Q.at c
 have hS := eo.refl P
 refine Tw 0 v0 rfl rfl hS <| Ti 1 rfl rfl hS <| Ti 2 rfl rfl hS <| Tk 3 rfl (fun _ hq => lS (v := v0) rfl ((hq.ow ho)).sl dV rfl rfl Om Om Om) hS ?_
 have d : dO gK 3 P (fS 3 v0 0 i i) (((fi l k).drop 0).take (i - 0)) := dO.part eI ho.sl (by omega) (by omega) (by omega) (by omega)
 refine Tk 4 rfl (fun _ hq => da rfl ez rfl (hq.at c)) hS <| Tw 6 v0 rfl rfl hS <| Ti 7 rfl rfl hS <| Tk 8 rfl (fun _ hq => lT (v := v0) rfl ((hq.ow ho)).sl dV rfl Om Om) hS ?_
 have f : dO gK 3 P (fS 3 v0 i (fi l k).length (iR v0)) (((fi l k).drop i).take ((fi l k).length - i)) := dO.part eI ho.sl (by omega) (by omega) (by omega) (by omega)
 refine To 5 rfl (fp (u := .agg #[_, _, _]) rfl dV ip rfl Dd Dd fun g aK t x K => ⟨.inl (hS.trans x), ?_⟩)
 have L := ZO t hB
 have B := Nat.le_trans (eo.size hS) (Nat.le_of_eq t.symm)
 have ak := dh.neB (b := g) ho (Nat.le_of_eq t.symm)
 have al := Zn t c.lt
 have aq := dO.far (b := g) d (Nat.le_of_eq t.symm)
 have ar := dO.far (b := g) f (Nat.le_of_eq t.symm)
 clear t
 replace hB := Ze hB x
 replace ho := x.ow ho
 replace c := x.at c
 replace d := x.slT d
 replace f := x.slT f
 replace hS := hS.trans x
 have R := iu (enc := gK) (a := (l.getD k ⟨⟨0, 0⟩, 0⟩)) K rfl rfl L
 refine To 9 rfl (eB (v := .slice (some ⟨g, 0, none⟩) 1 1) (v2 := fS 3 v0 i (fi l k).length (iR v0)) rfl rfl dV ip Dd R f (kb) (by have := Below.size hB; omega) (by simp; omega) (by simp; omega) fun O aL E h => ⟨.inl (du hS E (Nat.le_refl _) (fun j hj => by have e : g = j := Option.some.inj hj; rw [← e]; exact B)), ?_⟩)
 replace hS : eo _ _ := du hS E (Nat.le_refl _) (fun j hj => by have e : g = j := Option.some.inj hj; rw [← e]; exact B)
 replace h := dh.app (enc := gK) rfl rfl rfl rfl h
 replace hB := ZG hB E R
 replace d := dO.grownFar d aq E
 replace f := dO.grownFar f ar E
 clear ho R
 refine To 10 rfl (jn (N := w.heap.size) (v := fS 3 v0 0 i i) (v2 := O) rfl rfl dV ip d (uI (by simp; omega)) h.sl (by simp) (Below.size hB) (by simp; omega) (by simp; omega) fun D aM z p => ⟨.inl (hS.trans z), ?_⟩)
 replace p := dh.app (enc := gK) rfl rfl rfl rfl p
 replace hB := Ze hB z
 replace d := z.slT d
 replace f := z.slT f
 replace h := z.ow h
 replace hS := hS.trans z
 refine Tw 11 D rfl rfl hS <| Td <| T _ _ <| cZ <| Zv (dq rfl rfl Om Om) <| Zi rfl <| cT ?_
 exact S _ _ ((k + 1, D)) Za ⟨rfl, rfl, trivial⟩ ⟨hB, (by rw [fi, Fu, hpos]; have e : ((fi l k).drop i).take ((fi l k).length - i) = (fi l k).drop i := List.take_of_length_le (by simp); rw [e] at p; simpa using p), Om, trivial⟩ (by show l.length - (k + 1) < l.length - k; omega)
 refine dt <| Z _ _ <| Zr <| Zw v0 rfl <| Zw v0 rfl <| cT <| Zt <| dL (v := v0) rfl ⟨hB, ?_⟩
 obtain rfl : k = l.length := by omega
 exact ho
theorem zC (S : Sp) (onV mayV : Value) (w : World) (hon : dO gr 4 w onV S.on) (hmay : dO gr 4 w mayV S.may) :
    Fn Tryz.prog 14 #[.agg #[.int .i64 S.n, onV, mayV]] w fun v w' => if dJ S = true then ∃ x, v = .tuple #[x, .int .i64 0] ∧ dh gK 3 42 w' w.heap.size x (eL S) else v = .tuple #[.slice none 0 0, .int .i64 1] := by
 refine dr (n := 78) Tryz.func14 rfl rfl (Nat.le_of_ble_eq_true rfl) ?_
 have hB : Below w.heap.size w w := Below.refl _ _
 refine Zr <| Zy (dW (c := #[_, _, _]) rfl rfl fun F W3 Q ad a => ?_)
 have aJ := ZO Q hB
 clear Q
 replace hB := Ze hB ad
 refine Zw (.slice none 0 0) rfl <| Zw (.int .i64 0) rfl <| cT <| cY fun K6 ae => Zr <| Zv (da rfl eT rfl a) <| ZC (vs := [.agg #[_, _, _]]) pp (hU S _ _  _ (Below.slT hB hon) (Below.slT hB hmay) ) rfl fun aK aL R af => ?_
 replace hB := Ze hB R
 replace a := R.at a
 obtain rfl := af
 refine Zv (fJ rfl) <| cT <| ZQ rfl (fun G => ?_) fun G => ?_
 refine Zr <| Zw (.slice none 0 0) rfl <| Zw (.int .i64 1) rfl <| cT <| Zt <| dZ (v := .slice none 0 0) rfl (v1 := .int .i64 1) rfl ⟨hB, ?_⟩
 rw [if_neg (by rw [ja G]; decide)]
 refine c7 <| ae _ _ ?_
 have hr : dJ S = true := jX G
 obtain ⟨h0, h8, h1, h4, h5, hin⟩ := dY.1 hr
 have aM := Fc (k := S.may.length) (by omega)
 have aN := Nat.two_pow_pos S.may.length
 refine Zr <| Zw (.slice none 0 0) rfl <| cT <| cY fun aO ag => Zr <| Zw (.int .i64 1) rfl <| cT <| c9 ?_
 refine dy (σ := (Nat) × (Value)) [4, 5, 6, 7, 8, 9, 10, 12, 16, 17, 18, 19, 20, 21, 22, 23, 24, 25, 26, 27, 28, 29, 30, 31, 32, 33, 34, 35, 36, 37, 38, 39, 40, 41, 42, 43, 44, 45, 46, 47, 48, 49, 50, 51, 52, 53, 54, 55, 56, 57, 58, 59, 60, 61, 62, 63, 64, 65, 66, 67, 68, 69, 70, 71, 72, 73, 74, 75] (fun (o, v0) => [(5, .int .i64 (o : Int)), (4, v0)]) (fun sg W => match sg with | (o, v0) => (Below w.heap.size w W) ∧ (At W F _ 24) ∧ (dh gK 3 42 W w.heap.size v0 (i5 S o)) ∧ (1 ≤ o ∧ o ≤ 2 ^ S.may.length) ∧ (True)) (fun (o, v0) => 2 ^ S.may.length - o) ((1, .slice none 0 0)) ⟨rfl, rfl, trivial⟩ ⟨hB, a, (by rw [show i5 S 1 = [] from rfl]; exact dh.nil), Om, trivial⟩ ?_
 clear hB a
 rintro ⟨o, v0⟩ aP aQ ⟨hB, a, ho, hoo, _⟩ aR ah
 refine cY fun aS ai => Zr <| Zi rfl <| Zf rfl f7 <| ZL mayV rfl eK a rfl <| Zv (dB (v := mayV) rfl (Below.slT hB hmay) ej) <| Zv (jv (m := 1) rfl rfl Om (by simp only [IntKind.bits]; omega) (by exact ri _ _ (by simp only [ls]; omega))) <| Zv (dP rfl rfl) <| cT <| ZQ rfl (fun H => ?_) fun H => ?_
 refine c7 <| ai _ _ <| cY fun aT aj => c9 ?_
 have hol : o < 2 ^ S.may.length := by simp only [Nat.one_mul, Int.toNat_natCast] at H; omega
 have hal := sk (S := S) h8 o
 refine Zr <| Zf rfl gm <| Zl rfl dC a rfl <| ZC vC (nc _ _) rfl fun aU aV I ak => ?_
 replace hB := Ze hB I
 replace a := I.at a
 replace ho := I.ow ho
 obtain ⟨sa, er, rfl, hhP7_2⟩ := pT ak
 refine Zw (.tuple #[.agg #[_, _, _, _], .int .i64 _]) rfl <| Zv (dF rfl) <| Zv (dG rfl) <| Zy (dp eJ rfl fun J al T K d => ?_)
 have U := ZO T hB
 clear T
 replace hB := Ze hB K
 replace a := K.at a
 replace ho := K.ow ho
 replace d : At al J #[wv 0 0, wv 0 1, wv 0 2, wv 0 3] 49 := d
 refine Zy (df rfl rfl db rfl d rfl rfl fun aW L ao => ?_)
 replace hB := Zg hB L U
 replace a := At.grownAt a d L Dd
 replace ho := dh.grownAt ho d L Dd
 replace d := ao
 refine Zi rfl <| cT <| cY fun aX ap => ?_
 obtain ⟨_, _, hsa⟩ := uF hhP7_2 (fun h => h (hhP7_2.elim (fun q => q.2.2.2) (fun q => absurd ⟨h0, h8⟩ q.1)))
 subst hsa
 refine Zr <| Zf rfl f7 <| ZL mayV rfl eK a rfl <| Zv (dB (v := mayV) rfl (Below.slT hB hmay) ej) <| Zw (.int .i64 0) rfl <| cT <| c9 ?_
 refine dy (σ := (Nat)) [8, 33, 34, 35, 36, 37, 38, 39, 40, 41, 42, 43, 44, 45, 46, 47, 48] (fun k => [(33, .int .i64 (k : Int))]) (fun k W => (Below w.heap.size w W) ∧ (At W F _ 24) ∧ (dh gK 3 42 W w.heap.size v0 _) ∧ (At W J #[wv (kx S o k) 0, wv (kx S o k) 1, wv (kx S o k) 2, wv (kx S o k) 3] 49) ∧ (k ≤ S.may.length) ∧ (True)) (fun k => S.may.length - k) (0) ⟨rfl, trivial⟩ ⟨hB, a, ho, d, (Nat.zero_le _), trivial⟩ ?_
 clear hB a ho d
 rintro k aY aZ ⟨hB, a, ho, d, hk, _⟩ a0 V
 refine Zr <| Zv (dP rfl rfl) <| cT <| cY fun a1 aq => ZQ rfl (fun ar => ?_) fun ar => ?_
 refine c7 <| aq _ _ <| cY fun a2 X => c9 <| Zr <| Zi rfl <| Zi rfl <| cT <| Zr <| Zi rfl <| Zi rfl <| Zv (rx rfl rfl Om (by simp only [IntKind.bits]; omega)) <| Zv (ng (n := 1) rfl rfl rfl (by simp only [ek]; have := Nat.div_le_self o (2 ^ ((k : Nat) : Int).toNat); omega) Dd) <| Zv (eq rfl rfl) ?_
 refine cT <| ZQ rfl (fun r => ?_) fun r => ?_
 refine gy eo iv (fun au C => ?_)
 replace hB := Ze hB C
 replace a := C.at a
 replace ho := C.ow ho
 replace d := C.at d
 have hS := eo.refl au
 refine Tk 0 rfl (fun _ hq => da rfl db rfl (hq.at d)) hS <| Tf 1 rfl rfl f7 hS <| Tk 2 rfl (fun _ hq => dm (v := mayV) rfl eK (At.cell (hq.at a) rfl)) hS <| Ti 3 rfl rfl hS <| Tk 4 rfl (fun _ hq => dM (v := mayV) rfl (hq.slT (Below.slT hB hmay)) rfl ej Om Ol29_0) hS <| Tk 5 rfl (fun _ hq => ft rfl db (dO.cell (hq.slT (Below.slT hB hmay)) dI 0 Om Ol29_0 0 rfl) (dO.cell (hq.slT (Below.slT hB hmay)) dI 0 Om Ol29_0 1 rfl) (dO.cell (hq.slT (Below.slT hB hmay)) dI 0 Om Ol29_0 2 rfl) (dO.cell (hq.slT (Below.slT hB hmay)) dI 0 Om Ol29_0 3 rfl)) hS <| To 6 rfl (TC (vs := [.agg #[_, _, _, _], .agg #[_, _, _, _]]) sH (pO _ _ _) rfl fun a3 a4 j av => ⟨.inl (hS.trans j), ?_⟩)
 replace hB := Ze hB j
 replace a := j.at a
 replace ho := j.ow ho
 replace d := j.at d
 replace hS := hS.trans j
 obtain rfl := av
 refine To 7 rfl (df rfl rfl db rfl d rfl rfl fun a5 M aw => ⟨.inr (by kernel_rfl), ?_⟩)
 replace hB := Zg hB M U
 replace a := At.grownAt a d M Dd
 replace ho := dh.grownAt ho d M Dd
 replace d := aw
 refine Td <| X _ _ <| cZ <| Zv (dq rfl rfl Om Om) <| Zi rfl <| cT ?_
 exact V _ _ (k + 1) Za ⟨rfl, trivial⟩ ⟨hB, a, ho, (by first | (rw [← Et (uf r)]; exact d) | (rw [← Dp (t6 r)]; exact d)), Om, trivial⟩ Zo
 refine c7 <| X _ _ <| cZ <| Zv (dq rfl rfl Om Om) <| Zi rfl <| cT ?_
 exact V _ _ (k + 1) Za ⟨rfl, trivial⟩ ⟨hB, a, ho, (by first | (rw [← Et (uf r)]; exact d) | (rw [← Dp (t6 r)]; exact d)), Om, trivial⟩ Zo
 refine dt <| ap _ _ ?_
 obtain rfl : k = S.may.length := by omega
 refine Zr <| Zv (da rfl db rfl d) <| Zf rfl gm <| Zl rfl dC a rfl <| ZC (vs := [.agg #[_, _, _, _], .int .i64 _]) LY (Ai (fQ S o) _ _) rfl fun a6 a7 D ax => ?_
 have ay := (Below.size hB)
 replace hB := Ze hB D
 replace a := D.at a
 replace ho := D.ow ho
 replace d := D.at d
 obtain ⟨x_hP14_3, er_hP14_3, l_hP14_3, rfl, ho_hP14_3, hc_hP14_3⟩ := JH ax
 replace ho_hP14_3 := dh.mono ho_hP14_3 ay
 refine Zw (.tuple #[x_hP14_3, .int .i64 _]) rfl <| Zv (dF rfl) <| Zv (dG rfl) <| Zw x_hP14_3 rfl <| Zi rfl <| cT ?_
 obtain ⟨q2, q3⟩ := hc_hP14_3.elim (fun h => h.2) (fun h => absurd (H6 hr o) (by rw [h.1]; decide))
 subst q2 q3
 have hpl := sX (s := fQ S o) h8
 refine Zr <| Zw x_hP14_3 rfl <| Zv (dB (v := x_hP14_3) rfl ho_hP14_3.sl eX) <| Zw (.int .i64 0) rfl <| cT <| c9 ?_
 refine dy (σ := (Nat) × (Value)) [4, 12, 58, 59, 60, 61, 62, 63, 64, 65, 66, 67, 68, 69, 70, 71, 72, 73, 74, 75] (fun (i, v1) => [(58, .int .i64 (i : Int)), (4, v1)]) (fun sg W => match sg with | (i, v1) => (Below w.heap.size w W) ∧ (At W F _ 24) ∧ (At W J _ 49) ∧ (dh gW 2 40 W w.heap.size x_hP14_3 _) ∧ (dh gK 3 42 W w.heap.size v1 (i5 S o ++ iH S o i)) ∧ (i ≤ (ex (fQ S o) S.n).length) ∧ (True)) (fun (i, v1) => (ex (fQ S o) S.n).length - i) ((0, v0)) ⟨rfl, rfl, trivial⟩ ⟨hB, a, d, ho_hP14_3, (by rw [iH, List.append_nil]; exact ho), (Nat.zero_le _), trivial⟩ ?_
 clear hB a ho d ho_hP14_3
 rintro ⟨i, v1⟩ a8 a9 ⟨hB, a, d, ho_hP14_3, f, hi, _⟩ ba Y
 refine Zr <| Zv (dP rfl rfl) <| cT <| cY fun bb az => ZQ rfl (fun aA => ?_) fun aA => ?_
 refine c7 <| az _ _ <| cY fun bc Z => c9 ?_
 have hci : ((ex (fQ S o) S.n).getD i ⟨0, 0⟩).m < 256 ∧ ((ex (fQ S o) S.n).getD i ⟨0, 0⟩).v < 256 := HG h8 (by omega)
 have hrl := nT S o i
 have hol2 := pV S ((ex (fQ S o) S.n).getD i ⟨0, 0⟩) S.may.length
 refine Zr <| Zv (dM (v := x_hP14_3) rfl ho_hP14_3.sl rfl eX Om Ol29_0) <| Zv (iJ rfl dR (dO.cell ho_hP14_3.sl gg ⟨0, 0⟩ Om Ol29_0 0 rfl) (dO.cell ho_hP14_3.sl gg ⟨0, 0⟩ Om Ol29_0 1 rfl)) <| Zy (dp jp rfl fun aB bd N t g => ?_)
 have aC := ZO N hB
 have aD := dh.neB (b := aB) ho_hP14_3 (Nat.le_of_eq N.symm)
 clear N
 replace hB := Ze hB t
 replace a := t.at a
 replace d := t.at d
 replace ho_hP14_3 := t.ow ho_hP14_3
 replace f := t.ow f
 refine Zy (df rfl rfl dR rfl g rfl rfl fun bf y aE => ?_)
 replace hB := Zg hB y aC
 replace a := At.grownAt a g y Dd
 replace d := At.grownAt d g y Dd
 replace ho_hP14_3 := dh.grownAtNe ho_hP14_3 aD y
 replace f := dh.grownAt f g y Dd
 replace g := aE
 refine cT <| Zr <| Zv (da rfl eT rfl a) <| Zv (da rfl dR rfl g) <| ZC (vs := [.agg #[_, _, _], .agg #[_, _]]) Cv (nG S _ _ ((ex (fQ S o) S.n).getD i ⟨0, 0⟩) _ (Below.slT hB hon) (Below.slT hB hmay) hci Om) rfl fun bg bh l aF => ?_
 replace hB := Ze hB l
 replace a := l.at a
 replace d := l.at d
 replace ho_hP14_3 := l.ow ho_hP14_3
 replace f := l.ow f
 replace g := l.at g
 obtain rfl := aF
 refine Zi rfl <| Zv (lz rfl Tryz.underlying3 Tryz.underlying5 (by simp only [ek]; omega)) <| Zv (eq rfl rfl) <| cT <| ZQ rfl (fun z => ?_) fun z => ?_
 refine cZ <| Zw v1 rfl <| Zv (da rfl dR rfl g) <| Zi rfl <| Zv (lz rfl Tryz.underlying3 Tryz.underlying5 (by simp only [ek]; omega)) <| Zv (j1 (h0 := rfl) (h1 := rfl) (k1 := rfl) (c1_0 := .int .u8 _)) <| Zy (fp (u := .agg #[_, _, _]) rfl dV ip rfl Dd Dd fun aa bi O p aG => ?_)
 have bj := ZO O hB
 have bk := dh.neB (b := aa) f (Nat.le_of_eq O.symm)
 clear O
 replace hB := Ze hB p
 replace a := p.at a
 replace d := p.at d
 replace ho_hP14_3 := p.ow ho_hP14_3
 replace f := p.ow f
 replace g := p.at g
 refine Zy (eB (v := v1) (v2 := .slice (some ⟨aa, 0, none⟩) 1 1) rfl rfl dV ip Dd f (fP aG rfl) rfl (by have := Below.size hB; omega) (by first | omega | (simp; omega) | (simp only [cV, cX, cW, de, dg]; omega)) (by first | omega | (simp; omega) | (simp only [cV, cX, cW, de, dg]; omega)) fun ab bl A E => ?_)
 replace E := dh.snoc (enc := gK) (x := ⟨(ex (fQ S o) S.n).getD i ⟨0, 0⟩, o⟩) rfl rfl rfl rfl E
 replace hB := ZG hB A f
 replace a := At.grownOw a f A Dd
 replace d := At.grownOw d f A Dd
 replace ho_hP14_3 := dh.grownOw ho_hP14_3 f A Dd
 replace g := At.grownOw g f A Dd
 clear f
 refine Zw ab rfl <| cT <| Z _ _ <| cZ <| Zv (dq rfl rfl Om Om) <| Zi rfl <| cT ?_
 exact Y _ _ ((i + 1, ab)) Za ⟨rfl, rfl, trivial⟩ ⟨hB, a, d, ho_hP14_3, (by first | (rw [← zH (BS z), ← List.append_assoc]; exact E) | (rw [← Bb (fun h => z (congrArg Int.ofNat h))]; exact E)), Om, trivial⟩ (by show (ex (fQ S o) S.n).length - (i + 1) < (ex (fQ S o) S.n).length - i; omega)
 refine c7 <| Z _ _ <| cZ <| Zv (dq rfl rfl Om Om) <| Zi rfl <| cT ?_
 exact Y _ _ ((i + 1, v1)) Za ⟨rfl, rfl, trivial⟩ ⟨hB, a, d, ho_hP14_3, (by first | (rw [← zH (BS z), ← List.append_assoc]; exact f) | (rw [← Bb (fun h => z (congrArg Int.ofNat h))]; exact f)), Om, trivial⟩ (by show (ex (fQ S o) S.n).length - (i + 1) < (ex (fQ S o) S.n).length - i; omega)
 refine dt <| aj _ _ <| cZ <| Zi rfl <| Zv (dq rfl rfl Om Om) <| Zi rfl <| cT ?_
 exact ah _ _ ((o + 1, v1)) Za ⟨rfl, rfl, trivial⟩ ⟨hB, a, (by rw [← ul Om]; have e : i = (ex (fQ S o) S.n).length := Om; subst e; exact f), Om, trivial⟩ (by show 2 ^ S.may.length - (o + 1) < 2 ^ S.may.length - o; omega)
 refine dt <| ag _ _ ?_
 obtain rfl : o = 2 ^ S.may.length := by simp only [Nat.one_mul, Int.toNat_natCast] at H; omega
 have hal := sk (S := S) h8 (2 ^ S.may.length)
 refine Zr <| Zw v0 rfl <| ZC LI (nk _ (eL S) 38 _ ho.sl NA (fun m u o m2 u2 o2 w => wq m u o m2 u2 o2 w) (show (i5 S (2 ^ S.may.length)).length ≤ 2000000 by omega)) rfl fun ac bm P B => ?_
 have aH := dh.lt2 ho
 have aI := (Below.size hB)
 replace hB := Ze hB P
 replace a := P.at a
 replace ho := P.ow ho
 have bn := eO.new aH B
 replace B := dh.mono B aI
 rw [Fo] at B
 refine Zw ac rfl <| Zw (.int .i64 0) rfl <| cT <| Zt <| dZ (v := ac) rfl (v1 := .int .i64 0) rfl ⟨hB, ?_⟩
 rw [if_pos hr]
 exact ⟨_, rfl, B⟩
theorem q5 (S : Sp) (onV mayV : Value) (x : Rw) (w : World) (hon : dO gr 4 w onV S.on) (hmay : dO gr 4 w mayV S.may) (hbx : x.c.m < 256 ∧ x.c.v < 256 ∧ x.o < 256) :
    Fn Tryz.prog 47 #[.agg #[.int .i64 S.n, onV, mayV], .agg #[.int .u8 (x.c.m : Int), .int .u8 (x.c.v : Int), .int .u8 (x.o : Int)]] w fun v w' => v = if pk S x = true then .tuple #[.agg #[.int .u8 ((sW S x).c.m : Int), .int .u8 ((sW S x).c.v : Int), .int .u8 ((sW S x).o : Int)], .int .i64 0] else .tuple #[.agg #[.int .u8 0, .int .u8 0, .int .u8 0], .int .i64 1] := by
 refine dr (n := 36) Tryz.func47 rfl rfl (Nat.le_of_ble_eq_true rfl) ?_
 have hB : Below w.heap.size w w := Below.refl _ _
 refine Zr <| Zy (dW (c := #[_, _, _]) rfl rfl fun X W3 R Y b => ?_)
 have aw := ZO R hB
 clear R
 replace hB := Ze hB Y
 refine Zy (dW (c := #[_, _, _]) rfl rfl fun Z W6 T U a => ?_)
 have G := ZO T hB
 clear T
 replace hB := Ze hB U
 replace b := U.at b
 refine Zy (dp kL rfl fun aa W9 H I d => ?_)
 have V := ZO H hB
 have l := Zn H a.lt
 clear H
 replace hB := Ze hB I
 replace b := I.at b
 replace a := I.at a
 refine Zw (.int .i64 0) rfl <| cT <| cY fun ax ab => Zr <| Zv (da rfl eT rfl b) <| Zv (da rfl ez rfl a) <| ZC (vs := [.agg #[_, _, _], .agg #[_, _, _]]) BJ (lW S _ _ _ _ _ _ (Below.slT hB hon) (Below.slT hB hmay) hbx.1 hbx.2.1 hbx.2.2) rfl fun ay az s ac => ?_
 replace hB := Ze hB s
 replace b := s.at b
 replace a := s.at a
 replace d := s.at d
 obtain rfl := ac
 refine Zv (fJ rfl) <| cT <| ZQ rfl (fun J => ?_) fun J => ?_
 refine Zr <| Zv (zo ) <| Zy (df rfl rfl ez rfl d rfl rfl fun aA K ad => ?_)
 replace hB := Zg hB K V
 replace b := At.grownAt b d K Dd
 replace a := At.grownNe a l K
 replace d := ad
 refine Zw (.int .i64 1) rfl <| cT <| Zt <| fj rfl ez d rfl (v1 := .int .i64 1) rfl ⟨hB, ?_⟩
 rw [if_neg (by rw [show pk S x = false from ja J]; decide)]
 refine c7 <| ab _ _ <| cY fun aB ae => ?_
 have hi : pk S x = true := jX J
 obtain ⟨h0, h8, h1, h4, h5, hin⟩ := dY.1 (gp.1 hi).1
 refine Zr <| Zf rfl gm <| Zl rfl dC b rfl <| Zw (.int .i64 0) rfl <| cT <| c9 ?_
 refine dy (σ := (Nat)) [6, 7, 15, 16, 17, 18, 19, 20, 21, 22, 23, 24, 25, 26, 27, 28, 29] (fun i => [(15, .int .i64 (i : Int))]) (fun i W => (Below w.heap.size w W) ∧ (At W X _ 24) ∧ (At W aa _ 42) ∧ (At W Z #[.int .u8 ((eh S x i).m : Int), .int .u8 ((eh S x i).v : Int), .int .u8 (x.o : Int)] 42) ∧ ((i : Int) ≤ S.n) ∧ (True)) (fun i => S.n.toNat - i) (0) ⟨rfl, trivial⟩ ⟨hB, b, d, a, Om, trivial⟩ ?_
 clear hB b a d
 rintro i aC aD ⟨hB, b, d, a, hi2, _⟩ aE t
 refine Zr <| Zv (dP rfl rfl) <| cT <| cY fun aF af => ZQ rfl (fun ag => ?_) fun ag => ?_
 refine c7 <| af _ _ <| cY fun aG u => c9 ?_
 have hg := rk (S := S) (x := x) ⟨hbx.1, hbx.2.1⟩ i
 have hle := uA (eh S x i).m (i : Int)
 have hle2 : (eh S x i).v &&& jA (eh S x i).m (i : Int) ≤ (eh S x i).v := Nat.and_le_left
 refine Zr <| Zi rfl <| Zi rfl <| cT <| Zd eo fun ah y => ?_
 replace hB := Ze hB y
 replace b := y.at b
 replace d := y.at d
 replace a := y.at a
 have hS := eo.refl ah
 refine Tf 0 rfl rfl g6 hS <| Tk 1 rfl (fun _ hq => iJ rfl dR (At.cell (hq.at a) rfl) (At.cell (hq.at a) rfl)) hS <| Ti 2 rfl rfl hS <| Tf 4 rfl rfl fZ hS <| Tk 5 rfl (fun _ hq => dm (v := .int .u8 _) rfl ey (At.cell (hq.at a) rfl)) hS ?_
 refine Hy 3 7 (by kernel_rfl) rfl rfl rfl rfl rfl rfl rfl rfl (Yd.call (tL xK (v0 := .agg #[_, _]) rfl (v1 := .int .i64 _) rfl) (jW _ _ (i : Int) _ hg.1 hg.2) (fun ai aH h L => ⟨.inl (hS.trans h), ?_⟩)) (dp kL rfl (fun aj aI z j e => ⟨.inl (hS.trans j), ?_⟩))
 replace hB := Ze hB h
 replace b := h.at b
 replace d := h.at d
 replace a := h.at a
 replace hS := hS.trans h
 obtain rfl := L
 refine Tk 6 rfl (fun _ _ => j1 (h0 := rfl) (h1 := rfl) (k1 := rfl) (c1_0 := .int .u8 _)) hS <| To 7 rfl (dp kL rfl fun aj aJ A k e => ⟨.inl (hS.trans k), ?_⟩)
 have M := ZO A hB
 have N := Zn A d.lt
 have p := Zn A a.lt
 clear A
 replace hB := Ze hB k
 replace b := k.at b
 replace d := k.at d
 replace a := k.at a
 replace hS := hS.trans k
 refine To 8 rfl (df rfl rfl ez rfl e rfl rfl fun aK B ak => ⟨.inr (by kernel_rfl), ?_⟩)
 replace hB := Zg hB B M
 replace b := At.grownAt b e B Dd
 replace d := At.grownNe d N B
 replace a := At.grownNe a p B
 replace e := ak
 refine Td <| Zr <| Zv (da rfl eT rfl b) <| Zv (da rfl ez rfl e) <| ZC (vs := [.agg #[_, _, _], .agg #[_, _, _]]) BJ (lW S _ _ (iT (eh S x i) i).m (iT (eh S x i) i).v x.o _ (Below.slT hB hon) (Below.slT hB hmay) (by show jA (eh S x i).m (i : Int) < 256; omega) (by show (eh S x i).v &&& jA (eh S x i).m (i : Int) < 256; omega) hbx.2.2) rfl fun al aL q O => ?_
 replace hB := Ze hB q
 replace b := q.at b
 replace d := q.at d
 replace a := q.at a
 replace e := q.at e
 obtain rfl := O
 refine cT <| ZQ rfl (fun f => ?_) fun f => ?_
 refine cZ <| Zv (da rfl ez rfl e) <| Zy (df rfl rfl ez rfl a rfl rfl fun aM C ao => ?_)
 replace hB := Zg hB C G
 replace b := At.grownAt b a C Dd
 replace d := At.grownNe d (Ne.symm l) C
 replace e := At.grownNe e (Ne.symm p) C
 replace a := ao
 refine cT <| u _ _ <| cZ <| Zv (dq rfl rfl Om Om) <| Zi rfl <| cT ?_
 exact t _ _ (i + 1) Za ⟨rfl, trivial⟩ ⟨hB, b, d, (by first | (rw [← tB f]; exact a) | (rw [← t7 f]; exact a)), Om, trivial⟩ Zo
 refine c7 <| u _ _ <| cZ <| Zv (dq rfl rfl Om Om) <| Zi rfl <| cT ?_
 exact t _ _ (i + 1) Za ⟨rfl, trivial⟩ ⟨hB, b, d, (by first | (rw [← tB f]; exact a) | (rw [← t7 f]; exact a)), Om, trivial⟩ Zo
 have M := ZO z hB
 have N := Zn z d.lt
 have p := Zn z a.lt
 clear z
 replace hB := Ze hB j
 replace b := j.at b
 replace d := j.at d
 replace a := j.at a
 replace hS := hS.trans j
 refine To 3 rfl (TC (vs := [.agg #[_, _], .int .i64 _]) xK (jW _ _ (i : Int) _ hg.1 hg.2) rfl fun ai aN g L => ⟨.inl (hS.trans g), ?_⟩)
 replace hB := Ze hB g
 replace b := g.at b
 replace d := g.at d
 replace a := g.at a
 replace e := g.at e
 replace hS := hS.trans g
 obtain rfl := L
 refine Tk 6 rfl (fun _ _ => j1 (h0 := rfl) (h1 := rfl) (k1 := rfl) (c1_0 := .int .u8 _)) hS <| To 8 rfl (df rfl rfl ez rfl e rfl rfl fun aO D ap => ⟨.inr (by kernel_rfl), ?_⟩)
 replace hB := Zg hB D M
 replace b := At.grownAt b e D Dd
 replace d := At.grownNe d N D
 replace a := At.grownNe a p D
 replace e := ap
 refine Td <| Zr <| Zv (da rfl eT rfl b) <| Zv (da rfl ez rfl e) <| ZC (vs := [.agg #[_, _, _], .agg #[_, _, _]]) BJ (lW S _ _ (iT (eh S x i) i).m (iT (eh S x i) i).v x.o _ (Below.slT hB hon) (Below.slT hB hmay) (by show jA (eh S x i).m (i : Int) < 256; omega) (by show (eh S x i).v &&& jA (eh S x i).m (i : Int) < 256; omega) hbx.2.2) rfl fun al aP r O => ?_
 replace hB := Ze hB r
 replace b := r.at b
 replace d := r.at d
 replace a := r.at a
 replace e := r.at e
 obtain rfl := O
 refine cT <| ZQ rfl (fun f => ?_) fun f => ?_
 refine cZ <| Zv (da rfl ez rfl e) <| Zy (df rfl rfl ez rfl a rfl rfl fun aQ E aq => ?_)
 replace hB := Zg hB E G
 replace b := At.grownAt b a E Dd
 replace d := At.grownNe d (Ne.symm l) E
 replace e := At.grownNe e (Ne.symm p) E
 replace a := aq
 refine cT <| u _ _ <| cZ <| Zv (dq rfl rfl Om Om) <| Zi rfl <| cT ?_
 exact t _ _ (i + 1) Za ⟨rfl, trivial⟩ ⟨hB, b, d, (by first | (rw [← tB f]; exact a) | (rw [← t7 f]; exact a)), Om, trivial⟩ Zo
 refine c7 <| u _ _ <| cZ <| Zv (dq rfl rfl Om Om) <| Zi rfl <| cT ?_
 exact t _ _ (i + 1) Za ⟨rfl, trivial⟩ ⟨hB, b, d, (by first | (rw [← tB f]; exact a) | (rw [← t7 f]; exact a)), Om, trivial⟩ Zo
 refine dt <| ae _ _ ?_
 obtain rfl : i = S.n.toNat := by omega
 refine Zr <| Zv (da rfl eT rfl b) <| Zf rfl g6 <| Zv (iJ rfl dR (At.cell a rfl) (At.cell a rfl)) <| ZC (vs := [.agg #[_, _, _], .agg #[_, _]]) Cv (nG S _ _ (eh S x S.n.toNat) _ (Below.slT hB hon) (Below.slT hB hmay) (rk ⟨hbx.1, hbx.2.1⟩ _) Om) rfl fun aR aS F ar => ?_
 replace hB := Ze hB F
 replace b := F.at b
 replace d := F.at d
 replace a := F.at a
 obtain rfl := ar
 refine Zf rfl fZ <| Zy (eA (v := .int .u8 _) rfl rfl ey rfl a (by simp) fun aT P au => ?_)
 replace hB := Zg hB P G
 replace b := At.grownAt b a P Dd
 replace d := At.grownNe d (Ne.symm l) P
 replace a := au
 replace a : At _ _ #[_, _, _] _ := a
 refine cT <| Zr <| Zv (da rfl ez rfl a) <| Zy (df rfl rfl ez rfl d rfl rfl fun aU Q av => ?_)
 replace hB := Zg hB Q V
 replace b := At.grownAt b d Q Dd
 replace a := At.grownNe a l Q
 replace d := av
 refine Zw (.int .i64 0) rfl <| cT <| Zt <| fj rfl ez d rfl (v1 := .int .i64 0) rfl ⟨hB, ?_⟩
 rw [if_pos hi]
 rfl
end
section
open Go Go.RowKit
def ik (l : List Rw) : Prop := ∀ x, x ∈ l → x.c.m < 256 ∧ x.c.v < 256 ∧ x.o < 256
theorem ik.get {l : List Rw} (h : ik l) {k : Nat} (hk : k < l.length) : (l.getD k ⟨⟨0, 0⟩, 0⟩).c.m < 256 ∧ (l.getD k ⟨⟨0, 0⟩, 0⟩).c.v < 256 ∧ (l.getD k ⟨⟨0, 0⟩, 0⟩).o < 256 := h _ (dS hk)
theorem Gk {S : Sp} {l : List Rw} {k : Nat} (hk : k < l.length) (h : ¬ Hs S (l.getD k ⟨⟨0, 0⟩, 0⟩) = true) : Value.bool false = .bool (pw S l) := qh fun hm => h (mv.1 hm k hk)
theorem OQ {S : Sp} {x : Rw} (h : (!d9 x.c.m x.c.v S.n) = true) : ¬ Hs S x = true := fun hk => by
 rw [(ji.1 hk).1] at h; cases h
theorem OS {S : Sp} {x : Rw} (h : (x.o : Int) = 0) : ¬ Hs S x = true := fun hk => by
 have := (ji.1 hk).2.1; omega
theorem Oy {S : Sp} {x : Rw} (h : ((1 * 2 ^ S.on.length : Nat) : Int) ≤ (x.o : Int)) : ¬ Hs S x = true := fun hk => by
 have := (ji.1 hk).2.2
 rw [Nat.one_mul] at h; omega
theorem OK {S : Sp} {x : Rw} (h : (!d9 x.c.m x.c.v S.n) = false) (h2 : ¬ (x.o : Int) = 0) (h3 : ¬ ((1 * 2 ^ S.on.length : Nat) : Int) ≤ (x.o : Int)) : Hs S x = true := by
 rw [Nat.one_mul] at h3
 exact ji.2 ⟨jX h, by omega, by omega⟩
def wC (l : List Rw) (n out : Int) : Bool := decide (0 ≤ n ∧ n ≤ 8 ∧ 0 ≤ out ∧ out < 4) && l.all fun x => d9 x.c.m x.c.v n
theorem rj {l : List Rw} {n out : Int} : wC l n out = true ↔ (0 ≤ n ∧ n ≤ 8 ∧ 0 ≤ out ∧ out < 4) ∧ ∀ k, k < l.length → d9 (l.getD k ⟨⟨0, 0⟩, 0⟩).c.m (l.getD k ⟨⟨0, 0⟩, 0⟩).c.v n = true := by
 unfold wC
 rw [Bool.and_eq_true, decide_eq_true_eq, List.all_eq_true]
 constructor
 ·rintro ⟨h1, h2⟩; exact ⟨h1, fun k hk => h2 _ (dS hk)⟩
 ·rintro ⟨h1, h2⟩
  refine ⟨h1, fun x hx => ?_⟩
  obtain ⟨k, hk, rfl⟩ := fk (d := ⟨⟨0, 0⟩, 0⟩) hx
  exact h2 k hk
theorem t5 {l : List Rw} {n out : Int} (h : ¬ (0 ≤ n ∧ n ≤ 8 ∧ 0 ≤ out ∧ out < 4)) : ¬ wC l n out = true := fun k => h (rj.1 k).1
theorem LP {l : List Rw} {n out : Int} {k : Nat} (hk : k < l.length) (h : d9 (l.getD k ⟨⟨0, 0⟩, 0⟩).c.m (l.getD k ⟨⟨0, 0⟩, 0⟩).c.v n = false) : ¬ wC l n out = true := fun q => by
 rw [(rj.1 q).2 k hk] at h; cases h
theorem KF {l : List Rw} {n out : Int} {v : Value} (h : v = if wC l n out = true then .tuple #[eM (mj l n.toNat out.toNat l.length), .int .i64 0] else .tuple #[eM 0, .int .i64 1]) :
  ∃ (sa : Nat) (er : Int), v = .tuple #[eM sa, .int .i64 er] ∧ ((wC l n out = true ∧ sa = mj l n.toNat out.toNat l.length ∧ er = 0) ∨ (wC l n out = false ∧ sa = 0 ∧ er = 1)) := by
 by_cases ho : wC l n out = true
 ·rw [if_pos ho] at h
  exact ⟨_, _, h, .inl ⟨ho, rfl, rfl⟩⟩
 ·rw [if_neg ho] at h
  exact ⟨_, _, h, .inr ⟨by simpa using ho, rfl, rfl⟩⟩
theorem Kk {S : Sp} {l : List Rw} {o : Nat} (hr : dJ S = true) (hm : pw S l = true) (ho : o < S.on.length) : wC l S.n (o : Int) = true := by
 obtain ⟨h0, h8, h1, h4, h5, _⟩ := dY.1 hr
 exact rj.2 ⟨by omega, fun k hk => (ji.1 (mv.1 hm k hk)).1⟩
theorem NC {S : Sp} {l : List Rw} (h : dJ S = false) : Value.bool false = .bool (ko S l) := qh fun k => by
 rw [(iN.1 k).1] at h; cases h
theorem M2 {S : Sp} {l : List Rw} (h : pw S l = false) : Value.bool false = .bool (ko S l) := qh fun k => by
 rw [(iN.1 k).2.1] at h; cases h
theorem NL {S : Sp} {l : List Rw} {o : Nat} (ho : o < S.on.length) (h : ee (Bk S o) (mj l S.n.toNat o l.length) = false) : Value.bool false = .bool (ko S l) := qh fun k => by
 have := (iN.1 k).2.2 o ho
 unfold xP at this
 rw [h] at this; cases this
theorem M1 {S : Sp} {l : List Rw} {o : Nat} (ho : o < S.on.length) (h : ee (mj l S.n.toNat o l.length) (jm S o) = false) : Value.bool false = .bool (ko S l) := qh fun k => by
 have := (iN.1 k).2.2 o ho
 unfold xP at this
 rw [h, Bool.and_false] at this; cases this
theorem GH {S : Sp} {l : List Rw} {o : Nat} (h1 : ee (Bk S o) (mj l S.n.toNat o l.length) = true) (h2 : ee (mj l S.n.toNat o l.length) (jm S o) = true) : xP S l o = true := by
 unfold xP; rw [h1, h2]; rfl
def Fz (l : List Rw) (p o : Nat) : Bool := l.any fun x => x.o.testBit o && uw x.c.m x.c.v p
theorem yH {l : List Rw} {p o : Nat} : Fz l p o = true ↔ ∃ k, k < l.length ∧ ((l.getD k ⟨⟨0, 0⟩, 0⟩).o.testBit o && uw (l.getD k ⟨⟨0, 0⟩, 0⟩).c.m (l.getD k ⟨⟨0, 0⟩, 0⟩).c.v p) = true := by
 unfold Fz
 rw [List.any_eq_true]
 constructor
 ·rintro ⟨x, hx, h⟩
  obtain ⟨k, hk, rfl⟩ := fk (d := ⟨⟨0, 0⟩, 0⟩) hx
  exact ⟨k, hk, h⟩
 ·rintro ⟨k, hk, h⟩; exact ⟨_, dS hk, h⟩
theorem o0 {S : Sp} {l : List Rw} {o : Nat} (hr : dJ S = true) (hm : pw S l = true) (ho : o < S.on.length) :
  xP S l o = true ↔ ∀ p, p < 2 ^ S.n.toNat → ((Bk S o).testBit p = true → Fz l p o = true) ∧ (Fz l p o = true → (jm S o).testBit p = true) := by
 obtain ⟨h0, h8, h1, h4, h5, hin⟩ := dY.1 hr
 have hp := fo h8
 obtain ⟨w1, w2⟩ := hin o ho
 have hcv : ∀ p, p < 2 ^ S.n.toNat → ((mj l S.n.toNat o l.length).testBit p = true ↔ Fz l p o = true) := fun p hpn => by
  rw [jY (by omega) p _ (Nat.le_refl _), yH]
  have key : ∀ k, k < l.length → (MS (l.getD k ⟨⟨0, 0⟩, 0⟩) o p ↔ ((l.getD k ⟨⟨0, 0⟩, 0⟩).o.testBit o && uw (l.getD k ⟨⟨0, 0⟩, 0⟩).c.m (l.getD k ⟨⟨0, 0⟩, 0⟩).c.v p) = true) := fun k hk => by
   have hv := (dU.1 (ji.1 (mv.1 hm k hk)).1).2.2.2
   unfold MS hold uw
   rw [Bool.and_eq_true, decide_eq_true_eq, hv]
  constructor
  ·rintro ⟨_, k, hk, h⟩; exact ⟨k, hk, (key k hk).1 h⟩
  ·rintro ⟨k, hk, h⟩; exact ⟨hpn, k, hk, (key k hk).2 h⟩
 unfold xP
 rw [Bool.and_eq_true, d4, d4]
 constructor
 ·rintro ⟨g1, g2⟩ p hpn
  exact ⟨fun h => (hcv p hpn).1 (g1 p (by omega) h), fun h => g2 p (by omega) ((hcv p hpn).2 h)⟩
 ·intro g
  have hlt : ∀ p, p < 256 → (jm S o).testBit p = true → p < 2 ^ S.n.toNat := fun p hp2 h => by
   have := d4.1 w2 p hp2 h
   rw [fL] at this
   simpa using this
  refine ⟨fun p hp2 h => ?_, fun p hp2 h => ?_⟩
  ·have hpn := hlt p hp2 (d4.1 w1 p hp2 h)
   exact (hcv p hpn).2 ((g p hpn).1 h)
  ·have hpn := ((jY (by omega) p _ (Nat.le_refl _)).1 h).1
   exact (g p hpn).2 ((hcv p hpn).1 h)
theorem Aw {o : Nat} {i : Int} (h : ((o / 2 ^ i.toNat &&& 1 : Nat) : Int) = 1) : o.testBit i.toNat = true := kQ.1 h
theorem A6 {o : Nat} {i : Int} (h : ¬ ((o / 2 ^ i.toNat &&& 1 : Nat) : Int) = 1) : ¬ o.testBit i.toNat = true := fun k => h (kQ.2 k)
end
section
open Go Go.RowKit
theorem Ol31_0 {p : Prop} (h : p := by first | omega | (simp only [cV, cX, cW, de, dg]; omega)) : p := h
theorem qX : dH Tryz.prog 114 = true := by kernel_rfl
theorem MZ : dH Tryz.prog 89 = true := by kernel_rfl
theorem NO : dH Tryz.prog 90 = true := by kernel_rfl
theorem B3 (S : Sp) (onV mayV : Value) (xa : Value) (l : List Rw) (w : World) (hon : dO gr 4 w onV S.on) (hmay : dO gr 4 w mayV S.may) (hl : dO gK 3 w xa l) (hlb : l.length ≤ 2000000) (hlr : ik l) (h4 : S.on.length ≤ 20) :
    Fn Tryz.prog 89 #[.agg #[.int .i64 S.n, onV, mayV], xa] w fun v w' => v = .bool (pw S l) := by
 refine dr (n := 35) Tryz.func89 rfl rfl (Nat.le_of_ble_eq_true rfl) ?_
 have hB : Below w.heap.size w w := Below.refl _ _
 refine Zr <| Zy (dW (c := #[_, _, _]) rfl rfl fun t W3 i u a => ?_)
 have L := ZO i hB
 clear i
 replace hB := Ze hB u
 refine Zw (.bool false) rfl <| cT <| cY fun K6 y => Zr <| Zw xa rfl <| Zv (dB (v := xa) rfl (Below.slT hB hl) dV) <| Zw (.int .i64 0) rfl <| cT <| c9 ?_
 refine dy (σ := (Nat)) [4, 6, 9, 10, 11, 12, 13, 14, 15, 16, 17, 18, 19, 20, 21, 22, 23, 24, 25, 26, 27, 28, 29, 30, 31, 32, 33, 34] (fun k => [(9, .int .i64 (k : Int))]) (fun k W => (Below w.heap.size w W) ∧ (At W t _ 24) ∧ (k ≤ l.length) ∧ (∀ q, q < k → Hs S (l.getD q ⟨⟨0, 0⟩, 0⟩) = true) ∧ (True)) (fun k => l.length - k) (0) ⟨rfl, trivial⟩ ⟨hB, a, (Nat.zero_le _), fX, trivial⟩ ?_
 clear hB a
 rintro k M N ⟨hB, a, hk, hq, _⟩ O z
 refine Zr <| Zv (dP rfl rfl) <| cT <| cY fun P A => ZQ rfl (fun B => ?_) fun B => ?_
 refine c7 <| A _ _ <| cY fun Q C => c9 ?_
 obtain ⟨D, E, R⟩ := hlr.get (k := k) (by omega)
 refine Zr <| Zv (dM (v := xa) rfl (Below.slT hB hl) rfl dV Om Ol31_0) <| Zv (lM rfl ez (dO.cell (Below.slT hB hl) eI ⟨⟨0, 0⟩, 0⟩ Om Ol31_0 0 rfl) (dO.cell (Below.slT hB hl) eI ⟨⟨0, 0⟩, 0⟩ Om Ol31_0 1 rfl) (dO.cell (Below.slT hB hl) eI ⟨⟨0, 0⟩, 0⟩ Om Ol31_0 2 rfl)) <| Zy (dp kL rfl fun T U j p b => ?_)
 have F := ZO j hB
 clear j
 replace hB := Ze hB p
 replace a := p.at a
 refine Zy (df rfl rfl ez rfl b rfl rfl fun V r G => ?_)
 replace hB := Zg hB r F
 replace a := At.grownAt a b r Dd
 replace b := G
 refine cT <| Zd eo fun H e => ?_
 replace hB := Ze hB e
 replace a := e.at a
 replace b := e.at b
 have hS := eo.refl H
 refine Tf 0 rfl rfl g6 hS <| Tk 1 rfl (fun _ hq => iJ rfl dR (At.cell (hq.at b) rfl) (At.cell (hq.at b) rfl)) hS <| Tf 2 rfl rfl gm hS <| Tk 3 rfl (fun _ hq => dm (v := .int .i64 _) rfl dC (At.cell (hq.at a) rfl)) hS <| To 4 rfl (TC (vs := [.agg #[_, _], .int .i64 _]) Ea (rf _ _ _ _ D E) rfl fun X Y d I => ⟨.inl (hS.trans d), ?_⟩)
 have J := hB
 have K := a
 have s := b
 replace hB := Ze hB d
 replace a := d.at a
 replace b := d.at b
 replace hS := hS.trans d
 obtain rfl := I
 refine Tk 5 rfl (fun _ _ => fJ rfl) hS <| Tx 6 rfl (fun _ _ => lf (v := .bool _) rfl) hS (fun f => ?_) fun f => ?_
 refine Tp 7 rfl hS <| Tp 8 rfl hS <| Tp 9 rfl hS <| Tw 10 (.bool true) rfl rfl hS <| Tw 11 (.bool true) rfl rfl hS <| Tp 12 rfl hS <| Tp 13 rfl hS <| Tp 14 rfl hS <| Tp 15 rfl hS <| Tp 16 rfl hS <| Tp 17 rfl hS <| Tp 18 rfl hS <| Tp 19 rfl hS <| Tw 20 (.bool true) rfl rfl hS ?_
 refine Td <| dz rfl <| Zr <| Zw (.bool false) rfl <| cT <| Zt <| dL (v := .bool false) rfl ⟨hB, ?_⟩
 exact Gk (k := k) Om (OQ f)
 refine Tf 7 rfl rfl fZ hS <| Tk 8 rfl (fun _ hq => dm (v := .int .u8 _) rfl ey (At.cell (hq.at s) rfl)) hS <| Tk 9 rfl (fun _ _ => eq rfl rfl) hS <| Ty 10 rfl rfl hS <| Tx 11 rfl (fun _ _ => lf (v := .bool _) rfl) hS (fun g => ?_) fun g => ?_
 refine Tp 12 rfl hS <| Tp 13 rfl hS <| Tp 14 rfl hS <| Tp 15 rfl hS <| Tp 16 rfl hS <| Tp 17 rfl hS <| Tp 18 rfl hS <| Tp 19 rfl hS <| Tw 20 (.bool true) rfl rfl hS <| Td <| dz rfl <| Zr <| Zw (.bool false) rfl <| cT ?_
 refine Zt <| dL (v := .bool false) rfl ⟨hB, ?_⟩
 exact Gk (k := k) Om (OS g)
 refine Tf 12 rfl rfl fZ hS <| Tk 13 rfl (fun _ hq => dm (v := .int .u8 _) rfl ey (At.cell (hq.at s) rfl)) hS <| Tk 14 rfl (fun _ _ => lz rfl Tryz.underlying5 Tryz.underlying3 (by show (l.getD k ⟨⟨0, 0⟩, 0⟩).o < 9223372036854775808; omega)) hS <| Tf 15 rfl rfl f4 hS <| Tk 16 rfl (fun _ hq => dm (v := onV) rfl eK (At.cell (hq.at K) rfl)) hS <| Tk 17 rfl (fun _ hq => dB (v := onV) rfl (hq.slT (Below.slT J hon)) ej) hS <| Tk 18 rfl (fun _ _ => jv (m := 1) rfl rfl Om (by simp only [IntKind.bits]; omega) (by exact ri _ _ (by simp only [ls]; omega))) hS <| Tk 19 rfl (fun _ _ => ol rfl rfl) hS <| Ty 20 rfl rfl hS <| Td <| ZQ rfl (fun h => ?_) fun h => ?_
 refine Zr <| Zw (.bool false) rfl <| cT <| Zt <| dL (v := .bool false) rfl ⟨hB, ?_⟩
 exact Gk (k := k) Om (Oy h)
 refine c7 <| C _ _ <| cZ <| Zv (dq rfl rfl Om Om) <| Zi rfl <| cT ?_
 exact z _ _ (k + 1) Za ⟨rfl, trivial⟩ ⟨hB, a, Om, (fE hq (OK (x := (l.getD k ⟨⟨0, 0⟩, 0⟩)) f g h)), trivial⟩ Zo
 refine dt <| y _ _ <| Zr <| Zw (.bool true) rfl <| cT <| Zt <| dL (v := .bool true) rfl ⟨hB, ?_⟩
 obtain rfl : k = l.length := by omega
 exact EL (mv.2 hq)
theorem wB (xa : Value) (l : List Rw) (n out : Int) (w : World) (hl : dO gK 3 w xa l) (hlb : l.length ≤ 2000000) (hlr : ik l) :
    Fn Tryz.prog 90 #[xa, .int .i64 n, .int .i64 out] w fun v w' => v = if wC l n out = true then .tuple #[eM (mj l n.toNat out.toNat l.length), .int .i64 0] else .tuple #[eM 0, .int .i64 1] := by
 refine dr (n := 56) Tryz.func90 rfl rfl (Nat.le_of_ble_eq_true rfl) ?_
 have hB : Below w.heap.size w w := Below.refl _ _
 refine Zr <| Zy (dp eJ rfl fun E W3 y N a => ?_)
 have g := ZO y hB
 clear y
 replace hB := Ze hB N
 replace a : At W3 E #[wv 0 0, wv 0 1, wv 0 2, wv 0 3] 49 := a
 refine Zw (.int .i64 0) rfl <| cT <| cY fun K6 O => Zr <| Zi rfl <| Zv (dP rfl rfl) <| ZX rfl (fun P => ?_) fun P => ?_
 refine Zs <| Zs <| Zw (.bool true) rfl <| Zw (.bool true) rfl <| Zs <| Zs <| Zw (.bool true) rfl <| Zw (.bool true) rfl <| Zs <| Zs <| Zw (.bool true) rfl <| cT <| dz rfl <| Zr ?_
 refine Zv (v := eM 0) (gv ) <| Zy (df rfl rfl db rfl a rfl rfl fun az Q R => ?_)
 replace hB := Zg hB Q g
 replace a := R
 refine Zw (.int .i64 1) rfl <| cT <| Zt <| fj rfl db a rfl (v1 := .int .i64 1) rfl ⟨hB, ?_⟩
 rw [if_neg (t5 (by omega))]
 refine Zi rfl <| Zv (i4 rfl rfl) <| Zb rfl <| ZX rfl (fun S => ?_) fun S => ?_
 refine Zs <| Zs <| Zw (.bool true) rfl <| Zw (.bool true) rfl <| Zs <| Zs <| Zw (.bool true) rfl <| cT <| dz rfl <| Zr <| Zv (v := eM 0) (gv ) <| Zy (df rfl rfl db rfl a rfl rfl fun aA T U => ?_)
 replace hB := Zg hB T g
 replace a := U
 refine Zw (.int .i64 1) rfl <| cT <| Zt <| fj rfl db a rfl (v1 := .int .i64 1) rfl ⟨hB, ?_⟩
 rw [if_neg (t5 (by omega))]
 refine Zi rfl <| Zv (dP rfl rfl) <| Zb rfl <| ZX rfl (fun V => ?_) fun V => ?_
 refine Zs <| Zs <| Zw (.bool true) rfl <| cT <| dz rfl <| Zr <| Zv (v := eM 0) (gv ) <| Zy (df rfl rfl db rfl a rfl rfl fun aB X Y => ?_)
 replace hB := Zg hB X g
 replace a := Y
 refine Zw (.int .i64 1) rfl <| cT <| Zt <| fj rfl db a rfl (v1 := .int .i64 1) rfl ⟨hB, ?_⟩
 rw [if_neg (t5 (by omega))]
 refine Zi rfl <| Zv (ol rfl rfl) <| Zb rfl <| cT <| ZQ rfl (fun Z => ?_) fun Z => ?_
 refine Zr <| Zv (v := eM 0) (gv ) <| Zy (df rfl rfl db rfl a rfl rfl fun aC aa ab => ?_)
 replace hB := Zg hB aa g
 replace a := ab
 refine Zw (.int .i64 1) rfl <| cT <| Zt <| fj rfl db a rfl (v1 := .int .i64 1) rfl ⟨hB, ?_⟩
 rw [if_neg (t5 (by omega))]
 refine c7 <| O _ _ <| Zr <| Zy (dp eJ rfl fun F ac z G b => ?_)
 have ad := ZO z hB
 have A := Zn z a.lt
 clear z
 replace hB := Ze hB G
 replace a := G.at a
 replace b : At ac F #[wv 0 0, wv 0 1, wv 0 2, wv 0 3] 49 := b
 refine cT <| cY fun aD ae => Zr <| Zw xa rfl <| Zv (dB (v := xa) rfl (Below.slT hB hl) dV) <| Zw (.int .i64 0) rfl <| cT <| c9 ?_
 refine dy (σ := (Nat)) [7, 10, 11, 12, 30, 31, 32, 33, 34, 35, 36, 37, 38, 39, 40, 41, 42, 43, 44, 45, 46, 47, 48, 49, 50, 51, 52, 53, 54] (fun k => [(30, .int .i64 (k : Int))]) (fun k W => (Below w.heap.size w W) ∧ (At W E _ 49) ∧ (At W F #[wv (mj l n.toNat out.toNat k) 0, wv (mj l n.toNat out.toNat k) 1, wv (mj l n.toNat out.toNat k) 2, wv (mj l n.toNat out.toNat k) 3] 49) ∧ (k ≤ l.length) ∧ (∀ q, q < k → d9 (l.getD q ⟨⟨0, 0⟩, 0⟩).c.m (l.getD q ⟨⟨0, 0⟩, 0⟩).c.v n = true) ∧ (True)) (fun k => l.length - k) (0) ⟨rfl, trivial⟩ ⟨hB, a, b, (Nat.zero_le _), fX, trivial⟩ ?_
 clear hB a b
 rintro k aE aF ⟨hB, a, b, hk, hq, _⟩ aG H
 refine Zr <| Zv (dP rfl rfl) <| cT <| cY fun aH af => ZQ rfl (fun ag => ?_) fun ag => ?_
 refine c7 <| af _ _ <| cY fun aI I => c9 ?_
 obtain ⟨ah, ai, aJ⟩ := hlr.get (k := k) (by omega)
 have y : (l.getD k ⟨⟨0, 0⟩, 0⟩).o / 2 ^ out.toNat ≤ (l.getD k ⟨⟨0, 0⟩, 0⟩).o := Nat.div_le_self _ _
 refine Zr <| Zv (dM (v := xa) rfl (Below.slT hB hl) rfl dV Om Ol31_0) <| Zv (lM rfl ez (dO.cell (Below.slT hB hl) eI ⟨⟨0, 0⟩, 0⟩ Om Ol31_0 0 rfl) (dO.cell (Below.slT hB hl) eI ⟨⟨0, 0⟩, 0⟩ Om Ol31_0 1 rfl) (dO.cell (Below.slT hB hl) eI ⟨⟨0, 0⟩, 0⟩ Om Ol31_0 2 rfl)) <| Zy (dp kL rfl fun aK aL J B d => ?_)
 have aj := ZO J hB
 clear J
 replace hB := Ze hB B
 replace a := B.at a
 replace b := B.at b
 refine Zy (df rfl rfl ez rfl d rfl rfl fun aM C ak => ?_)
 replace hB := Zg hB C aj
 replace a := At.grownAt a d C Dd
 replace b := At.grownAt b d C Dd
 replace d := ak
 refine cT <| Zr <| Zf rfl g6 <| Zv (iJ rfl dR (At.cell d rfl) (At.cell d rfl)) <| Zi rfl <| ZC (vs := [.agg #[_, _], .int .i64 _]) yT (kR _ _ _ _ ah ai) rfl fun aN aO p al => ?_
 replace hB := Ze hB p
 replace a := p.at a
 replace b := p.at b
 replace d := p.at d
 obtain ⟨sa, er, rfl, hhP7_3⟩ := sE al
 refine Zw (.tuple #[.agg #[_, _, _, _], .int .i64 _]) rfl <| Zv (dF rfl) <| Zv (dG rfl) <| Zy (dp eJ rfl fun ao ap r s f => ?_)
 have aq := ZO r hB
 have K := Zn r a.lt
 have L := Zn r b.lt
 clear r
 replace hB := Ze hB s
 replace a := s.at a
 replace b := s.at b
 replace d := s.at d
 replace f : At ap ao #[wv 0 0, wv 0 1, wv 0 2, wv 0 3] 49 := f
 refine Zy (df rfl rfl db rfl f rfl rfl fun aP t ar => ?_)
 replace hB := Zg hB t aq
 replace a := At.grownNe a K t
 replace b := At.grownNe b L t
 replace d := At.grownAt d f t Dd
 replace f := ar
 refine Zi rfl <| cT <| cY fun aQ au => Zr <| Zi rfl <| Zv (fC rfl rfl) <| cT <| ZQ rfl (fun D => ?_) fun D => ?_
 refine Zr <| Zv (v := eM 0) (gv ) <| Zi rfl <| Zy (df rfl rfl db rfl a rfl rfl fun aR u av => ?_)
 replace hB := Zg hB u g
 replace b := At.grownNe b (Ne.symm A) u
 replace d := At.grownAt d a u Dd
 replace f := At.grownNe f (Ne.symm K) u
 replace a := av
 refine Zi rfl <| cT <| Zt <| fj rfl db a rfl (v1 := .int .i64 _) rfl ⟨hB, ?_⟩
 obtain ⟨hrr, her⟩ := hhP7_3.resolve_left (fun h => D h.2.2)
 rw [if_neg (LP (k := k) (by omega) hrr), her]
 refine c7 <| au _ _ ?_
 obtain ⟨hrr, hsa, _⟩ := hhP7_3.resolve_right (fun h => D (fun e => by rw [h.2] at e; cases e))
 subst hsa
 refine Zr <| Zf rfl fZ <| Zl rfl ey d rfl <| Zi rfl <| Zv (rx rfl rfl Om (by simp only [IntKind.bits]; omega)) <| Zv (ng (n := 1) rfl rfl rfl (by show (l.getD k ⟨⟨0, 0⟩, 0⟩).o / 2 ^ out.toNat < 256; omega) Dd) <| Zv (eq rfl rfl) <| cT <| ZQ rfl (fun i => ?_) fun i => ?_
 refine cZ <| Zv (da rfl db rfl b) <| Zv (da rfl db rfl f) <| ZC (vs := [.agg #[_, _, _, _], .agg #[_, _, _, _]]) qX (rb _ _ _) rfl fun aS aT j aw => ?_
 replace hB := Ze hB j
 replace a := j.at a
 replace b := j.at b
 replace d := j.at d
 replace f := j.at f
 obtain rfl := aw
 refine Zy (df rfl rfl db rfl b rfl rfl fun aU x ax => ?_)
 replace hB := Zg hB x ad
 replace a := At.grownNe a A x
 replace d := At.grownAt d b x Dd
 replace f := At.grownNe f (Ne.symm L) x
 replace b := ax
 refine cT <| I _ _ <| cZ <| Zv (dq rfl rfl Om Om) <| Zi rfl <| cT ?_
 exact H _ _ (k + 1) Za ⟨rfl, trivial⟩ ⟨hB, a, (by first | (rw [← HO (l := l) (k := k) (Aw i)]; exact b) | (rw [← Ik (l := l) (k := k) (A6 i)]; exact b)), Om, (fE hq hrr), trivial⟩ Zo
 refine c7 <| I _ _ <| cZ <| Zv (dq rfl rfl Om Om) <| Zi rfl <| cT ?_
 exact H _ _ (k + 1) Za ⟨rfl, trivial⟩ ⟨hB, a, (by first | (rw [← HO (l := l) (k := k) (Aw i)]; exact b) | (rw [← Ik (l := l) (k := k) (A6 i)]; exact b)), Om, (fE hq hrr), trivial⟩ Zo
 refine dt <| ae _ _ <| Zr <| Zv (da rfl db rfl b) <| Zy (df rfl rfl db rfl a rfl rfl fun aV M ay => ?_)
 replace hB := Zg hB M g
 replace b := At.grownNe b (Ne.symm A) M
 replace a := ay
 refine Zw (.int .i64 0) rfl <| cT <| Zt <| fj rfl db a rfl (v1 := .int .i64 0) rfl ⟨hB, ?_⟩
 obtain rfl : k = l.length := by omega
 rw [if_pos (rj.2 ⟨by omega, hq⟩)]
theorem qm (S : Sp) (onV mayV : Value) (xa : Value) (l : List Rw) (w : World) (hon : dO gr 4 w onV S.on) (hmay : dO gr 4 w mayV S.may) (hl : dO gK 3 w xa l) (hlb : l.length ≤ 2000000) (hlr : ik l) (h4 : S.on.length ≤ 20) :
    Fn Tryz.prog 48 #[.agg #[.int .i64 S.n, onV, mayV], xa] w fun v w' => v = .bool (ko S l) := by
 refine dr (n := 49) Tryz.func48 rfl rfl (Nat.le_of_ble_eq_true rfl) ?_
 have hB : Below w.heap.size w w := Below.refl _ _
 refine Zr <| Zy (dW (c := #[_, _, _]) rfl rfl fun E W3 y F a => ?_)
 have af := ZO y hB
 clear y
 replace hB := Ze hB F
 refine Zw (.bool false) rfl <| cT <| cY fun K6 G => Zr <| Zv (da rfl eT rfl a) <| ZC (vs := [.agg #[_, _, _]]) pp (hU S _ _  _ (Below.slT hB hon) (Below.slT hB hmay) ) rfl fun ag ah z H => ?_
 replace hB := Ze hB z
 replace a := z.at a
 obtain rfl := H
 refine Zv (fJ rfl) <| ZX rfl (fun j => ?_) fun j => ?_
 refine Zs <| Zs <| Zs <| Zs <| Zw (.bool true) rfl <| cT <| dz rfl <| Zr <| Zw (.bool false) rfl <| cT <| Zt <| dL (v := .bool false) rfl ⟨hB, ?_⟩
 exact NC (ja j)
 refine Zv (da rfl eT rfl a) <| Zw xa rfl <| ZC (vs := [.agg #[_, _, _], xa]) MZ (B3 S _ _ _ l _ (Below.slT hB hon) (Below.slT hB hmay) (Below.slT hB hl) hlb hlr h4) rfl fun ai aj A I => ?_
 replace hB := Ze hB A
 replace a := A.at a
 obtain rfl := I
 refine Zv (fJ rfl) <| Zb rfl <| cT <| ZQ rfl (fun m => ?_) fun m => ?_
 refine Zr <| Zw (.bool false) rfl <| cT <| Zt <| dL (v := .bool false) rfl ⟨hB, ?_⟩
 exact M2 (ja m)
 refine c7 <| G _ _ <| cY fun ak J => ?_
 have hr : dJ S = true := jX j
 have hm : pw S l = true := jX m
 obtain ⟨h0, h8, h1, h5, h6, _⟩ := dY.1 hr
 refine Zr <| Zf rfl f4 <| ZL onV rfl eK a rfl <| Zv (dB (v := onV) rfl (Below.slT hB hon) ej) <| Zw (.int .i64 0) rfl <| cT <| c9 ?_
 refine dy (σ := (Nat)) [4, 5, 6, 7, 8, 21, 22, 23, 24, 25, 26, 27, 28, 29, 30, 31, 32, 33, 34, 35, 36, 37, 38, 39, 40, 41, 42, 43, 44, 45, 46, 47, 48] (fun k => [(21, .int .i64 (k : Int))]) (fun k W => (Below w.heap.size w W) ∧ (At W E _ 24) ∧ (k ≤ S.on.length) ∧ (∀ q, q < k → xP S l q = true) ∧ (True)) (fun k => S.on.length - k) (0) ⟨rfl, trivial⟩ ⟨hB, a, (Nat.zero_le _), fX, trivial⟩ ?_
 clear hB a
 rintro k al ao ⟨hB, a, hk, hq, _⟩ ap K
 refine Zr <| Zv (dP rfl rfl) <| cT <| cY fun aq L => ZQ rfl (fun M => ?_) fun M => ?_
 refine c7 <| L _ _ <| cY fun ar N => c9 <| Zr <| Zi rfl <| Zv (dM (v := onV) rfl (Below.slT hB hon) rfl ej Om Ol31_0) <| Zv (ft rfl db (dO.cell (Below.slT hB hon) dI 0 Om Ol31_0 0 rfl) (dO.cell (Below.slT hB hon) dI 0 Om Ol31_0 1 rfl) (dO.cell (Below.slT hB hon) dI 0 Om Ol31_0 2 rfl) (dO.cell (Below.slT hB hon) dI 0 Om Ol31_0 3 rfl)) <| Zy (dp eJ rfl fun O P B C b => ?_)
 have Q := ZO B hB
 clear B
 replace hB := Ze hB C
 replace a := C.at a
 replace b : At P O #[wv 0 0, wv 0 1, wv 0 2, wv 0 3] 49 := b
 refine Zi rfl <| Zy (df rfl rfl db rfl b rfl rfl fun au D R => ?_)
 replace hB := Zg hB D Q
 replace a := At.grownAt a b D Dd
 replace b := R
 refine cT <| Zr <| Zw xa rfl <| Zf rfl gm <| Zl rfl dC a rfl <| Zi rfl <| ZC NO (wB _ l S.n (k : Int) _ (Below.slT hB hl) hlb hlr) rfl fun av aw p T => ?_
 replace hB := Ze hB p
 replace a := p.at a
 replace b := p.at b
 obtain ⟨sa, er, rfl, hhP6_4⟩ := KF T
 refine Zw (.tuple #[.agg #[_, _, _, _], .int .i64 _]) rfl <| Zv (dF rfl) <| Zv (dG rfl) <| Zy (dp eJ rfl fun U V r s d => ?_)
 have X := ZO r hB
 have Y := Zn r b.lt
 clear r
 replace hB := Ze hB s
 replace a := s.at a
 replace b := s.at b
 replace d : At V U #[wv 0 0, wv 0 1, wv 0 2, wv 0 3] 49 := d
 refine Zy (df rfl rfl db rfl d rfl rfl fun ax t Z => ?_)
 replace hB := Zg hB t X
 replace a := At.grownAt a d t Dd
 replace b := At.grownNe b Y t
 replace d := Z
 refine Zi rfl <| cT ?_
 obtain ⟨_, hsa, _⟩ := hhP6_4.resolve_right (fun h => by have h2 := Kk (l := l) hr hm (show k < S.on.length by omega); rw [h.1] at h2; cases h2)
 rw [Int.toNat_natCast] at hsa
 subst hsa
 refine Zd eo fun aa i => ?_
 replace hB := Ze hB i
 replace a := i.at a
 replace b := i.at b
 replace d := i.at d
 have hS := eo.refl aa
 refine Tk 0 rfl (fun _ hq => da rfl db rfl (hq.at b)) hS <| Tk 1 rfl (fun _ hq => da rfl db rfl (hq.at d)) hS <| To 2 rfl (TC (vs := [.agg #[_, _, _, _], .agg #[_, _, _, _]]) oX (ib _ _ _) rfl fun ay az e ab => ⟨.inl (hS.trans e), ?_⟩)
 have g := hB
 have ac := a
 have ad := d
 replace hB := Ze hB e
 replace a := e.at a
 replace b := e.at b
 replace d := e.at d
 replace hS := hS.trans e
 obtain rfl := ab
 refine Tk 3 rfl (fun _ _ => fJ rfl) hS <| Tx 4 rfl (fun _ _ => lf (v := .bool _) rfl) hS (fun u => ?_) fun u => ?_
 refine Tp 5 rfl hS <| Tp 6 rfl hS <| Tp 7 rfl hS <| Tp 8 rfl hS <| Tp 9 rfl hS <| Tp 10 rfl hS <| Tp 11 rfl hS <| Tp 12 rfl hS <| Tw 13 (.bool true) rfl rfl hS <| Td <| dz rfl <| Zr <| Zw (.bool false) rfl <| cT ?_
 refine Zt <| dL (v := .bool false) rfl ⟨hB, ?_⟩
 exact NL (o := k) Om (ja u)
 refine Tk 5 rfl (fun _ hq => da rfl db rfl (hq.at ad)) hS <| Tf 6 rfl rfl f7 hS <| Tk 7 rfl (fun _ hq => dm (v := mayV) rfl eK (At.cell (hq.at ac) rfl)) hS <| Ti 8 rfl rfl hS <| Tk 9 rfl (fun _ hq => dM (v := mayV) rfl (hq.slT (Below.slT g hmay)) rfl ej Om Ol31_0) hS <| Tk 10 rfl (fun _ hq => ft rfl db (dO.cell (hq.slT (Below.slT g hmay)) dI 0 Om Ol31_0 0 rfl) (dO.cell (hq.slT (Below.slT g hmay)) dI 0 Om Ol31_0 1 rfl) (dO.cell (hq.slT (Below.slT g hmay)) dI 0 Om Ol31_0 2 rfl) (dO.cell (hq.slT (Below.slT g hmay)) dI 0 Om Ol31_0 3 rfl)) hS <| To 11 rfl (TC (vs := [.agg #[_, _, _, _], .agg #[_, _, _, _]]) oX (ib _ _ _) rfl fun aA aB f ae => ⟨.inl (hS.trans f), ?_⟩)
 replace hB := Ze hB f
 replace a := f.at a
 replace b := f.at b
 replace d := f.at d
 replace hS := hS.trans f
 obtain rfl := ae
 refine Tk 12 rfl (fun _ _ => fJ rfl) hS <| Ty 13 rfl rfl hS <| Td <| ZQ rfl (fun x => ?_) fun x => ?_
 refine Zr <| Zw (.bool false) rfl <| cT <| Zt <| dL (v := .bool false) rfl ⟨hB, ?_⟩
 exact M1 (o := k) Om (ja x)
 refine c7 <| N _ _ <| cZ <| Zv (dq rfl rfl Om Om) <| Zi rfl <| cT ?_
 exact K _ _ (k + 1) Za ⟨rfl, trivial⟩ ⟨hB, a, Om, (fE hq (GH (jX u) (jX x))), trivial⟩ Zo
 refine dt <| J _ _ <| Zr <| Zw (.bool true) rfl <| cT <| Zt <| dL (v := .bool true) rfl ⟨hB, ?_⟩
 obtain rfl : k = S.on.length := by omega
 exact EL (iN.2 ⟨hr, hm, hq⟩)
end
end Go.Proofs.YteimkklmmanncaaGreat
