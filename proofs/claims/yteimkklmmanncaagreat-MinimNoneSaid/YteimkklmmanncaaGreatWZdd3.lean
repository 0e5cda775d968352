/- The walk of the search. The walks of arenas and diagrams: nodes, levels, halves. The walks of deeds with two families. The walk of joining. -/
import Derived.Test.YteimkklmmanncaaGreatFew
namespace Go.Proofs.YteimkklmmanncaaGreat
set_option linter.unusedVariables false
set_option linter.unusedSimpArgs false
section
open Go Go.RowKit
theorem Or : dC Tryz.prog 79 = true := by kernel_rfl
theorem E3 : eL Tryz.prog 122 = some (.agg #[.int .i64 0, .slice none 0 0, .slice none 0 0]) := by kernel_rfl
theorem Fl : (Tryz.prog.info? 77).map (·.size) = some 2 := by kernel_rfl
theorem Gk : (Tryz.prog.info? 80).map (·.size) = some 1 := by kernel_rfl
theorem lF {f : Nat → Value} {w : World} {d : Option Nat} {ty : TypeId} {ps : String} {af : Array Edge} {g : Option (Nat × Bool)} {x0 x1 : Operand} {c0_0 c0_1 c1_0 : Value} (h0 : dO f x0 = .agg #[c0_0, c0_1]) (h1 : dO f x1 = c1_0) (k1 : c1_0.cells = #[c1_0]) :
    (execOp (dO f) ⟨d, .build 122 #[(0, x0), (1, x1)], ty, ps, af, g⟩).run Tryz.prog w = .ok (.value (.agg #[c0_0, c0_1, c1_0])) w := by
  obtain ⟨i0, hi0, hz0⟩ := Option.bind_eq_some_iff.1 (show (Tryz.prog.info? 122).bind (·.zero) = _ from E3)
  obtain ⟨j77, hj77, hs77⟩ := Option.map_eq_some_iff.1 Fl
  obtain ⟨j80, hj80, hs80⟩ := Option.map_eq_some_iff.1 Gk
  simp [execOp, h0, h1, k1, Instr.build, zeroValue, typeInfo, sizeOf, hi0, hz0, run_underlying Tryz.underlying122, Instr.fill, eW, hj77, hs77, hj80, hs80]
theorem lk : fO Tryz.prog 123 = some (122, 3, 56) := by kernel_rfl
theorem uR : (eL Tryz.prog 122).map (fun z => z.cells.size) = some 3 := by kernel_rfl
theorem Ay : kY Tryz.prog 122 = some 3 := by kernel_rfl
theorem wH : fx Tryz.prog 122 0 = some 0 := by kernel_rfl
theorem I7 : dC Tryz.prog 44 = true := by kernel_rfl
theorem DA : fx Tryz.prog 122 1 = some 2 := by kernel_rfl
theorem NX : dC Tryz.prog 81 = true := by kernel_rfl
theorem Nt : dC Tryz.prog 83 = true := by kernel_rfl
set_option maxHeartbeats 2000000 in
theorem t6 (n : Int) (rv : Value) (vs : List Value) (L : ML) (b : Int) (w : World) (hrv : dh encV 1 80 w 0 rv vs) (hLO : LO 3 0 w vs L) (hr : dX n L = true) (hLb : L.length ≤ 1000000) (hfu : i5 L L.length = true) (hb : 0 ≤ b ∧ b ≤ 1000000) :
    Fn Tryz.prog 45 #[.agg #[.int .i64 n, rv], .int .i64 b] w fun v w' => (∃ tv X s, v = .tuple #[tv, .int .i64 s, .int .i64 0] ∧ dh d9 1 3 w' w.heap.size tv X ∧ Kt L n X ∧ X.length ≤ 4000 ∧ 0 ≤ s ∧ s ≤ b) ∨ (v = .tuple #[.slice none 0 0, .int .i64 b, .int .i64 6] ∧ b.toNat + 1 < 2 ^ cnt L) := by
 refine dq (n := 110) Tryz.func45 rfl rfl (Nat.le_of_ble_eq_true rfl) ?_
 have hB : Below w.heap.size w w := Below.refl _ _
 have hll := hLO.ll
 have hvl := hll.len
 refine Zr <| Zy (dU (c := #[_, _]) rfl rfl fun aC W3 ag aD d => ?_)
 have bq := ZO ag hB
 clear ag
 replace hB := Ze hB aD
 refine Zw (.slice none 0 0) rfl <| Zw (.int .i64 0) rfl <| Zw (.int .i64 0) rfl <| cT <| Zr <| Zv (db rfl dH rfl d) <| ZC (vs := [.agg #[_, _]]) Or (t4 n _ _ _ _ (dh.mono (Below.ow hB hrv) (Nat.zero_le _)) (LO.mono (LO.below hB hLO) (Nat.zero_le _)) hr hLb hfu) rfl fun br W8 ah aE => ?_
 have aF := (Below.size hB)
 replace hB := Ze hB ah
 replace d := ah.at d
 obtain ⟨tv1_1, T1_1, rfl, hk1_1, hT1_1, hTl1_1⟩ := aE
 replace hk1_1 := dh.mono hk1_1 aF
 refine Zw (.tuple #[tv1_1, .int .i64 0]) rfl <| Zv (dI rfl) <| Zv (dK rfl) <| Zw tv1_1 rfl <| Zw (.int .i64 0) rfl <| cT <| cY fun bs aG => Zr <| Zw (.int .i64 0) rfl <| Zv (f7 rfl rfl) <| cT <| ZQ rfl (fun ai => ?_) fun ai => ?_
 exact absurd rfl ai
 refine c9 <| aG _ _ <| Zr <| Zi rfl <| Zv (OD rfl rfl) <| Zi rfl <| cT ?_
 have hmx : max 0 b = b := by omega
 refine Zr <| Zv (db rfl dH rfl d) <| Zv (lF (h0 := rfl) (h1 := rfl) (k1 := rfl) (c1_0 := .slice none 0 0)) <| Zy (fc (u := .agg #[_, _, _]) rfl lk uR rfl Dd Dd fun aj bt ak U al => ?_)
 have aH := ZO ak hB
 clear ak
 replace hB := Ze hB U
 replace d := U.at d
 replace hk1_1 := U.ow hk1_1
 refine Zw (.slice (some ⟨aj, 0, none⟩) 1 1) rfl <| cT <| Zr <| Zw (.int .i64 0) rfl <| cT <| cY fun bu aI => c7 ?_
 refine dw (σ := (Value) × (List Bn) × (List C1) × (Value) × (List Int) × (Int)) [4, 5, 6, 7, 9, 10, 11, 12, 13, 14, 15, 16, 30, 31, 32, 33, 34, 35, 36, 37, 38, 39, 40, 41, 42, 43, 44, 45, 46, 47, 48, 49, 50, 51, 52, 53, 54, 55, 56, 57, 58, 59, 60, 61, 62, 63, 64, 65, 66, 67, 68, 69, 70, 71, 72, 73, 74, 75, 76, 77, 78, 79, 80, 81, 82, 83, 84, 85, 86, 87, 88, 89, 90, 91, 92, 93, 94, 95, 96, 97, 98, 99, 100, 101, 102, 103, 104] (fun (v9, xs, st, v7, best, steps) => [(9, v9), (7, v7), (10, .int .i64 steps)]) (fun sg W => match sg with | (v9, xs, st, v7, best, steps) => (Below w.heap.size w W) ∧ (At W aC _ 77) ∧ (dh CP 3 122 W w.heap.size v9 xs) ∧ (dh d9 1 3 W w.heap.size v7 (best)) ∧ (gM 80 3 W xs st) ∧ (mO n L b xs st best steps) ∧ (True)) (fun (v9, xs, st, v7, best, steps) => zR st) ((.slice (some ⟨aj, 0, none⟩) 1 1, [⟨n, rv, .slice none 0 0⟩], [(L, [])], tv1_1, T1_1, 0)) ⟨rfl, rfl, rfl, trivial⟩ ⟨hB, d, (ix (enc := CP) (a := ⟨n, rv, .slice none 0 0⟩) al rfl rfl aH), hk1_1, (gM.one (Below.ow hB hrv) (LO.below hB hLO) dh.nil), (mO.start hr hLb hT1_1 hTl1_1 hb.1), trivial⟩ ?_
 clear hB d hk1_1 al
 rintro ⟨v9, xs, st, v7, best, steps⟩ bv bw ⟨hB, d, hst, hbest, hch, hfw, _⟩ bx M
 refine cY fun bz aJ => Zr <| Zw v9 rfl <| Zv (dA (v := v9) rfl hst.sl lk) <| Zv (iQ rfl rfl) <| cT <| ZQ rfl (fun aK => ?_) fun aK => ?_
 refine c9 <| aJ _ _ <| c7 ?_
 have hpos : 0 < xs.length := by omega
 obtain ⟨k, hk1⟩ : ∃ k, xs.length = k + 1 := ⟨xs.length - 1, by omega⟩
 have hks : st.length = k + 1 := by rw [← hfw.len]; exact hk1
 have hxl := hfw.sl.len
 have hxr := hfw.sl.r k (by omega)
 have hxl2 := hfw.sl.l k (by omega)
 have hxt := hfw.sl.t k (by omega)
 obtain ⟨vx, hkx, hLx⟩ := hch.mx k (by omega)
 have hcx := hch.ch k (by omega)
 refine Zr <| Zw v9 rfl <| Zw v9 rfl <| Zv (dA (v := v9) rfl hst.sl lk) <| Zv (GS rfl rfl (show (xs.length : Int) - 1 = (k : Int) by omega) Om) <| Zv (dJ (v := v9) rfl hst.sl rfl lk Om Om) <| Zv (k8 rfl Ay (dM.cell hst.sl r7 zm Om Om 0 rfl) (dM.cell hst.sl r7 zm Om Om 1 rfl) (dM.cell hst.sl r7 zm Om Om 2 rfl)) <| Zy (dt E3 rfl fun aL bA V H f => ?_)
 have aM := ZO V hB
 have aN := dh.neB (b := aL) hst (Nat.le_of_eq V.symm)
 clear V
 replace hB := Ze hB H
 replace d := H.at d
 replace hst := H.ow hst
 replace hbest := H.ow hbest
 replace hch := gM.ext H hch
 replace hkx := H.ow hkx
 replace hLx := LO.ext H hLx
 replace hcx := H.ow hcx
 refine Zy (dg rfl rfl Ay rfl f rfl (by exact MM (dh.one hkx) (dh.one hcx)) fun bB I aO => ?_)
 replace hB := Zg hB I aM
 replace d := At.grownAt d f I Dd
 replace hst := dh.grownAtNe hst aN I
 replace hbest := dh.grownAt hbest f I Dd
 replace hch := gM.grownAt hch f I Dd Dd
 replace hkx := dh.grownAt hkx f I Dd
 replace hLx := LO.grownAt hLx f I Dd
 replace hcx := dh.grownAt hcx f I Dd
 replace f := aO
 refine cT ?_
 have hC9 : xs.length ≤ iU v9 := (Sl.eqv hst.sl).2.1
 refine Zr <| Zw v9 rfl <| Zw v9 rfl <| Zv (dA (v := v9) rfl hst.sl lk) <| Zv (GS rfl rfl (show (xs.length : Int) - 1 = (k : Int) by omega) Om) <| Zv (FM (v := v9) rfl hst.sl lk rfl Om Om) ?_
 replace hst := dh.hi hst r7 (k := k) Om
 refine Zw (fV 3 v9 0 k (iU v9)) rfl <| cT <| cY fun bC aP => Zr <| Zf rfl wH <| Zv (ig rfl dH (At.cell f rfl) (At.cell f rfl)) <| ZC (vs := [.agg #[_, _]]) GR (m3 _ _ _ _ _ (dh.mono hkx (Nat.zero_le _)) (LO.mono hLx (Nat.zero_le _)) hxl2) rfl fun bD bE E aQ => ?_
 replace hB := Ze hB E
 replace d := E.at d
 replace hst := E.ow hst
 replace hbest := E.ow hbest
 replace hch := gM.ext E hch
 replace hkx := E.ow hkx
 replace hLx := LO.ext E hLx
 replace hcx := E.ow hcx
 replace f := E.at f
 obtain rfl := aQ
 refine Zv (fy rfl) <| cT <| ZQ rfl (fun Y => ?_) fun Y => ?_
 refine dr ?_
 exact M _ _ ((fV 3 v9 0 k (iU v9), xs.take k, st.take k, v7, best, steps)) Za ⟨rfl, rfl, rfl, trivial⟩ ⟨hB, d, hst, (by exact hbest), (gM.take hch k), (mO.none hfw hks Y), trivial⟩ (by first | exact mO.phi_lt hks | exact mO.phi_br hks hrd11_2 D hcin)
 refine c9 <| aP _ _ ?_
 have hfl : i5 (st.getD k lC).1 (st.getD k lC).1.length = true := by simpa using Y
 refine Zr <| Zf rfl wH <| Zv (ig rfl dH (At.cell f rfl) (At.cell f rfl)) <| ZC (vs := [.agg #[_, _]]) I7 (oQ _ _ _ _ _ (dh.mono hkx (Nat.zero_le _)) (LO.mono hLx (Nat.zero_le _)) hxr hxl2) rfl fun bF bG F aR => ?_
 have aS := dh.lt2 hbest
 have aT := dh.lt2 hcx
 have aU := (Below.size hB)
 replace hB := Ze hB F
 replace d := F.at d
 replace hst := F.ow hst
 replace hbest := F.ow hbest
 replace hch := gM.ext F hch
 replace hkx := F.ow hkx
 replace hLx := LO.ext F hLx
 replace hcx := F.ow hcx
 replace f := F.at f
 obtain ⟨tv11_2, T11_2, rv11_2, aV, L11_2, rfl, ht11_2, hk11_2, hLO11_2, hrd11_2, D, hln11_2, hTl11_2⟩ := aR
 skip
 have bH := eO.new aS ht11_2
 have bI := eO.new aT ht11_2
 replace ht11_2 := dh.mono ht11_2 aU
 refine Zw (.tuple #[tv11_2, .agg #[.int .i64 _, rv11_2], .int .i64 0]) rfl <| Zv (mz rfl) <| Zv (sF rfl) <| Zv (sN rfl) <| Zy (dt ia rfl fun bJ bK Z B p => ?_)
 have aW := ZO Z hB
 have aX := Zn Z d.lt
 clear Z
 replace hB := Ze hB B
 replace d := B.at d
 replace hst := B.ow hst
 replace hbest := B.ow hbest
 replace hch := gM.ext B hch
 replace hkx := B.ow hkx
 replace hLx := LO.ext B hLx
 replace hcx := B.ow hcx
 replace f := B.at f
 replace ht11_2 := B.ow ht11_2
 replace hk11_2 := B.ow hk11_2
 replace hLO11_2 := LO.ext B hLO11_2
 refine Zw tv11_2 rfl <| Zy (dg rfl rfl dH rfl p rfl (by exact ib (dh.one hk11_2)) fun ao C aY => ?_)
 replace hB := Zg hB C aW
 replace d := At.grownNe d aX C
 replace hst := dh.grownAt hst p C Dd
 replace hbest := dh.grownAt hbest p C Dd
 replace hch := gM.grownAt hch p C Dd Dd
 replace hkx := dh.grownAt hkx p C Dd
 replace hLx := LO.grownAt hLx p C Dd
 replace hcx := dh.grownAt hcx p C Dd
 replace f := At.grownAt f p C Dd
 replace ht11_2 := dh.grownAt ht11_2 p C Dd
 replace hk11_2 := dh.grownAt hk11_2 p C Dd
 replace hLO11_2 := LO.grownAt hLO11_2 p C Dd
 replace p := aY
 refine Zw (.int .i64 0) rfl <| cT ?_
 have N := Below.ow hB hrv
 have O := LO.below hB hLO
 have z := hB
 replace hB := Below.refl ao.heap.size ao
 have hvl11 := hLO11_2.len
 have hT4 : T11_2.length ≤ 4000 := by have q := (fl.1 hxr).2.1; omega
 refine Zr <| Zy (zg du fun aZ bL ap a2 a3 => ?_)
 have a4 := ZO ap hB
 clear ap
 replace hB := Ze hB a2
 have aa := sy (enc := d9) (sz := 1) a3 a4
 refine Zf rfl DA <| ZL ((xs.getD k zm).tv) rfl iO (Below.atI hB f) rfl <| Zy (ez (v := .slice (some ⟨aZ, 0, none⟩) 0 0) (v2 := (xs.getD k zm).tv) rfl rfl du fv Dd aa ((Below.ow hB hcx)).sl (ku) (by have := Below.size hB; omega) (by have hz : ([] : List Int).length = 0 := rfl; omega) (by have hz : ([] : List Int).length = 0 := rfl; omega) fun a5 bM a6 K => ?_)
 replace K := dh.app (enc := d9) rfl rfl rfl rfl K
 replace hB := ZG hB a6 aa
 clear aa
 rw [List.nil_append] at K
 refine Zw tv11_2 rfl <| Zy (ez (v := a5) (v2 := tv11_2) rfl rfl du fv Dd K ((Below.ow hB ht11_2)).sl (ku) (by have := Below.size hB; omega) Om Om fun x bN a7 o => ?_)
 replace o := dh.app (enc := d9) rfl rfl rfl rfl o
 replace hB := ZG hB a7 K
 clear K
 refine Zw x rfl <| cT <| cY fun bO a8 => Zr <| Zf rfl eq <| ZL rv11_2 rfl fk (Below.atI hB p) rfl <| Zv (dA (v := rv11_2) rfl ((Below.ow hB hk11_2)).sl eb) <| Zv (eB rfl rfl) <| cT <| ZQ rfl (fun a9 => ?_) fun a9 => ?_
 refine cY fun bP aq => Zr <| Zw x rfl <| Zv (dA (v := x) rfl o.sl du) <| Zw v7 rfl <| Zv (dA (v := v7) rfl ((Below.ow hB hbest)).sl du) <| Zv (dL rfl rfl) <| cT <| ZQ rfl (fun ba => ?_) fun ba => ?_
 refine cZ <| Zw x rfl <| Zw x rfl <| cT <| aq _ _ <| dr ?_
 try clear N
 try clear O
 replace d := Below.atI hB d
 replace hst := Below.ow hB hst
 replace hbest := Below.ow hB hbest
 replace hch := gM.below hB hch
 replace hkx := Below.ow hB hkx
 replace hLx := LO.below hB hLx
 replace hcx := Below.ow hB hcx
 replace f := Below.atI hB f
 replace ht11_2 := Below.ow hB ht11_2
 replace hk11_2 := Below.ow hB hk11_2
 replace hLO11_2 := LO.below hB hLO11_2
 replace p := Below.atI hB p
 have hzs := Nat.le_trans (Nat.le_refl _) (Below.size z)
 replace o := dh.mono o hzs
 replace hB := Below.trans z (Below.mono hB hzs)
 clear z hzs
 exact M _ _ ((fV 3 v9 0 k (iU v9), xs.take k, st.take k, x, ((st.getD k lC).2 ++ T11_2), steps)) Za ⟨rfl, rfl, rfl, trivial⟩ ⟨hB, d, hst, (by exact o), (gM.take hch k), (mO.leaf hfw hks hrd11_2 Om Om), trivial⟩ (by first | exact mO.phi_lt hks | exact mO.phi_br hks hrd11_2 D hcin)
 refine c9 <| aq _ _ <| dr ?_
 try clear N
 try clear O
 replace d := Below.atI hB d
 replace hst := Below.ow hB hst
 replace hbest := Below.ow hB hbest
 replace hch := gM.below hB hch
 replace hkx := Below.ow hB hkx
 replace hLx := LO.below hB hLx
 replace hcx := Below.ow hB hcx
 replace f := Below.atI hB f
 replace ht11_2 := Below.ow hB ht11_2
 replace hk11_2 := Below.ow hB hk11_2
 replace hLO11_2 := LO.below hB hLO11_2
 replace p := Below.atI hB p
 have hzs := Nat.le_trans (Nat.le_refl _) (Below.size z)
 replace o := dh.mono o hzs
 replace hB := Below.trans z (Below.mono hB hzs)
 clear z hzs
 exact M _ _ ((fV 3 v9 0 k (iU v9), xs.take k, st.take k, v7, best, steps)) Za ⟨rfl, rfl, rfl, trivial⟩ ⟨hB, d, hst, (by exact hbest), (gM.take hch k), (mO.leaf0 hfw hks hrd11_2 Om), trivial⟩ (by first | exact mO.phi_lt hks | exact mO.phi_br hks hrd11_2 D hcin)
 refine c9 <| a8 _ _ <| cY fun bQ bb => ?_
 have hbn := Dg L11_2 L11_2.length
 have hol : ((st.getD k lC).2 ++ T11_2).length ≤ 16008000 := by rw [List.length_append]; omega
 refine Zr <| Zw x rfl <| Zv (dA (v := x) rfl o.sl du) <| Zv (db rfl dH rfl (Below.atI hB p)) <| ZC (vs := [.agg #[_, _]]) NX (ws _ _ _ L11_2 _ (dh.mono (Below.ow hB hk11_2) (Nat.zero_le _)) (LO.mono (LO.below hB hLO11_2) (Nat.zero_le _)) D Om) rfl fun bR bS ar bc => ?_
 replace hB := Ze hB ar
 replace o := ar.ow o
 obtain rfl := bc
 refine Zv (dp rfl rfl Om Om) <| Zw v7 rfl <| Zv (dA (v := v7) rfl ((Below.ow hB hbest)).sl du) <| Zv (nJ rfl rfl) <| cT <| ZQ rfl (fun bd => ?_) fun bd => ?_
 refine dr ?_
 try clear N
 try clear O
 replace d := Below.atI hB d
 replace hst := Below.ow hB hst
 replace hbest := Below.ow hB hbest
 replace hch := gM.below hB hch
 replace hkx := Below.ow hB hkx
 replace hLx := LO.below hB hLx
 replace hcx := Below.ow hB hcx
 replace f := Below.atI hB f
 replace ht11_2 := Below.ow hB ht11_2
 replace hk11_2 := Below.ow hB hk11_2
 replace hLO11_2 := LO.below hB hLO11_2
 replace p := Below.atI hB p
 have hzs := Nat.le_trans (Nat.le_refl _) (Below.size z)
 replace o := dh.mono o hzs
 replace hB := Below.trans z (Below.mono hB hzs)
 clear z hzs
 exact M _ _ ((fV 3 v9 0 k (iU v9), xs.take k, st.take k, v7, best, steps)) Za ⟨rfl, rfl, rfl, trivial⟩ ⟨hB, d, hst, (by exact hbest), (gM.take hch k), (mO.prune hfw hks hrd11_2 Om), trivial⟩ (by first | exact mO.phi_lt hks | exact mO.phi_br hks hrd11_2 D hcin)
 refine c9 <| bb _ _ <| cY fun bT bf => ?_
 have bU := hfw.s0
 have hsb := hfw.sb
 refine Zr <| Zi rfl <| Zi rfl <| Zv (eB rfl rfl) <| cT <| ZQ rfl (fun bg => ?_) fun bg => ?_
 refine Zr <| Zi rfl <| Zw (.slice none 0 0) rfl <| Zi rfl <| Zw (.int .i64 6) rfl <| cT ?_
 refine vW ?_
 try clear N
 try clear O
 replace d := Below.atI hB d
 replace hst := Below.ow hB hst
 replace hbest := Below.ow hB hbest
 replace hch := gM.below hB hch
 replace hkx := Below.ow hB hkx
 replace hLx := LO.below hB hLx
 replace hcx := Below.ow hB hcx
 replace f := Below.atI hB f
 replace ht11_2 := Below.ow hB ht11_2
 replace hk11_2 := Below.ow hB hk11_2
 replace hLO11_2 := LO.below hB hLO11_2
 replace p := Below.atI hB p
 have hzs := Nat.le_trans (Nat.le_refl _) (Below.size z)
 replace o := dh.mono o hzs
 replace hB := Below.trans z (Below.mono hB hzs)
 clear z hzs
 repeat (first | refine j6 ?_ | refine jp ?_)
 refine DX (v := .slice none 0 0) rfl (v1 := .int .i64 _) rfl (v2 := .int .i64 6) rfl ⟨hB, ?_⟩
 exact .inr ⟨by rw [hmx], by obtain ⟨ci, hci⟩ := Lg hxr hfl hrd11_2 Om; exact mO.out hfw hks hrd11_2 D hci Om⟩
 refine c9 <| bf _ _ <| Zr <| Zi rfl <| Zv (dp rfl rfl Om Om) <| Zi rfl <| cT <| Zr <| Zv (db rfl dH rfl (Below.atI hB p)) <| ZC (vs := [.agg #[_, _]]) Hy (nB _ _ _ L11_2 _ (dh.mono (Below.ow hB hk11_2) (Nat.zero_le _)) (LO.mono (LO.below hB hLO11_2) (Nat.zero_le _)) D Om) rfl fun bV bW au bh => ?_
 replace hB := Ze hB au
 replace o := au.ow o
 obtain ⟨c20_1, rfl, bi⟩ := bh
 refine Zw (.int .i64 c20_1) rfl <| cT ?_
 have hcin := bi ⟨0, by omega, E7 hxr hfl hrd11_2 _ (dS (by omega))⟩
 refine gx eo im (fun ab av => ?_)
 replace hB := Ze hB av
 replace o := av.ow o
 have hS := eo.refl ab
 refine Tw 0 (fV 3 v9 0 k (iU v9)) rfl rfl hS <| Tk 1 rfl (fun _ hq => db rfl dH rfl (hq.at (Below.atI hB p))) hS <| Tw 2 (.int .i64 c20_1) rfl rfl hS <| Tw 4 x rfl rfl hS <| Tk 6 rfl (fun _ hq => db rfl dH rfl (hq.at (Below.atI hB p))) hS <| Tw 7 (.int .i64 c20_1) rfl rfl hS <| Tw 10 x rfl rfl hS <| Tw 12 (.int .i64 c20_1) rfl rfl hS ?_
 have hrwX := (dh.mono (Below.ow hB hk11_2) (Nat.zero_le _))
 have hlwX := (LO.mono (LO.below hB hLO11_2) (Nat.zero_le _))
 have hovX := o
 refine Ki (m := 8) (A := [3, 5, 8, 9, 11, 13, 14, 15]) (L1 := #[true, true, true, true, true, true, true, true, true, true, true, true, true, true, true, true, false, false, false]) (T := [90, 92, 95, 96, 98, 100, 101, 102]) (fun L g W => ir 80 3 ab (xs.getD k zm).n c20_1 L11_2 (rg undef (fun k => !decide (c20_1 ∈ L11_2.getD k [])) aV L11_2.length) x ((st.getD k lC).2 ++ T11_2) (L.getD 3 false) (L.getD 5 false) (L.getD 8 false) (L.getD 9 false) (L.getD 11 false) (L.getD 13 false) (L.getD 14 false) (L.getD 15 false) (g 90) (g 92) (g 95) (g 96) (g 98) (g 100) (g 101) (g 102) W) (by kernel_rfl) (ir.start _) ?_ ?_
 rintro i hi L g W hlt hrd hI
 have hi2 : i = 3 ∨ i = 5 ∨ i = 8 ∨ i = 9 ∨ i = 11 ∨ i = 13 ∨ i = 14 ∨ i = 15 := by simpa using hi
 rcases hi2 with rfl | rfl | rfl | rfl | rfl | rfl | rfl | rfl
 refine ⟨_, 90, rfl, rfl, rfl, rfl, rfl, ?_⟩
 refine Yd.call (ug Nt (v0 := .agg #[_, _]) rfl (v1 := .int .i64 c20_1) rfl) (w9 _ _ _ L11_2 c20_1 _ (hI.s.ow hrwX) (LO.ext hI.s hlwX) D Om) (fun v W' hE hP => ?_)
 obtain ⟨r, vs, rfl, h1, h2⟩ := hP
 have k := hI.p3 (kK hrd) hE h1 h2
 exact ⟨.inl k.s, ir.cast k (pC hlt) (ek hlt Dd) (ek hlt Dd) (ek hlt Dd) (ek hlt Dd) (ek hlt Dd) (ek hlt Dd) (ek hlt Dd)⟩
 refine ⟨_, 92, rfl, rfl, rfl, rfl, rfl, ?_⟩
 have n3 := jX (j := 3) hrd rfl
 obtain ⟨r, vs, e, _⟩ := hI.o3 n3
 refine Yd.val (lF (h0 := e) (h1 := rfl) (k1 := dM.cells hovX.sl) (c1_0 := x)) ?_
 have k := hI.p5 n3 e
 exact ⟨.inl k.s, ir.cast k (ek hlt Dd) (pC hlt) (ek hlt Dd) (ek hlt Dd) (ek hlt Dd) (ek hlt Dd) (ek hlt Dd) (ek hlt Dd)⟩
 refine ⟨_, 95, rfl, rfl, rfl, rfl, rfl, ?_⟩
 refine Yd.call (ug Ih (v0 := .agg #[_, _]) rfl (v1 := .int .i64 c20_1) rfl) (nS _ _ _ L11_2 c20_1 _ (hI.s.ow hrwX) (LO.ext hI.s hlwX) D Om) (fun v W' hE hP => ?_)
 obtain ⟨r, rfl, h1⟩ := hP
 have k := hI.p8 (jX (j := 3) hrd rfl) (kK hrd) hE h1
 exact ⟨.inl k.s, ir.cast k (ek hlt Dd) (ek hlt Dd) (pC hlt) (ek hlt Dd) (ek hlt Dd) (ek hlt Dd) (ek hlt Dd) (ek hlt Dd)⟩
 refine ⟨_, 96, rfl, rfl, rfl, rfl, rfl, ?_⟩
 refine zg du (fun b W' hb hE hm => ?_)
 have k := hI.p9 (kK hrd) hb hE hm
 exact ⟨.inl k.s, ir.cast k (ek hlt Dd) (ek hlt Dd) (ek hlt Dd) (pC hlt) (ek hlt Dd) (ek hlt Dd) (ek hlt Dd) (ek hlt Dd)⟩
 refine ⟨_, 98, rfl, rfl, rfl, rfl, rfl, ?_⟩
 have n9 := jX (j := 9) hrd rfl
 have h9 := hI.o9 n9 (kK hrd)
 have hsX : dM d9 1 W x ((st.getD k lC).2 ++ T11_2) := (hI.s.ow hovX).sl
 have hzX : (([] : List Int).length + (((st.getD k lC).2 ++ T11_2)).length) * 8 ≤ 140737488355328 := by have hz : ([] : List Int).length = 0 := rfl; omega
 have hzY : (([] : List Int).length + (((st.getD k lC).2 ++ T11_2)).length) ≤ 9223372036854775807 := by have hz : ([] : List Int).length = 0 := rfl; omega
 refine jr (v := g 96) (v2 := x) rfl rfl du fv Dd h9 hsX ku (eo.size hI.s) hzX hzY (fun v' W' hG hO hob => ?_)
 replace hO := dh.app (enc := d9) (l := []) (l2 := ((st.getD k lC).2 ++ T11_2)) rfl rfl rfl rfl hO
 rw [List.nil_append] at hO
 have k := hI.p11 (by decide) (kK hrd) (jX (j := 8) hrd rfl) n9 hG hO hob
 exact ⟨.inl k.s, ir.cast k (ek hlt Dd) (ek hlt Dd) (ek hlt Dd) (ek hlt Dd) (pC hlt) (ek hlt Dd) (ek hlt Dd) (ek hlt Dd)⟩
 refine ⟨_, 100, rfl, rfl, rfl, rfl, rfl, ?_⟩
 refine fc (u := .int .i64 c20_1) rfl du fv rfl Dd Dd (fun b W' hb hE hm => ?_)
 have k := hI.p13 (kK hrd) hE (ix (enc := d9) (a := c20_1) hm rfl rfl (Nat.le_of_eq hb.symm))
 exact ⟨.inl k.s, ir.cast k (ek hlt Dd) (ek hlt Dd) (ek hlt Dd) (ek hlt Dd) (ek hlt Dd) (pC hlt) (ek hlt Dd) (ek hlt Dd)⟩
 refine ⟨_, 101, rfl, rfl, rfl, rfl, rfl, ?_⟩
 have n11 := jX (j := 11) hrd rfl
 have n13 := jX (j := 13) hrd rfl
 have n14 := kK hrd
 have h11 := hI.o11 n11 n14
 refine ez (v := g 98) (v2 := g 100) rfl rfl du fv Dd h11 (hI.o13 n13 n14).1.sl ku (eo.size hI.s) (by have hz : [c20_1].length = 1 := rfl; omega) (by have hz : [c20_1].length = 1 := rfl; omega) (fun v' W' hG hO => ?_)
 replace hO := dh.app (enc := d9) (l := ((st.getD k lC).2 ++ T11_2)) (l2 := [c20_1]) rfl rfl rfl rfl hO
 have k := hI.p14 (by decide) n14 n11 n13 hG hO
 exact ⟨.inl k.s, ir.cast k (ek hlt Dd) (ek hlt Dd) (ek hlt Dd) (ek hlt Dd) (ek hlt Dd) (ek hlt Dd) (pC hlt) (ek hlt Dd)⟩
 refine ⟨_, 102, rfl, rfl, rfl, rfl, rfl, ?_⟩
 have n14 := jX (j := 14) hrd rfl
 have n8 := jX (j := 8) hrd rfl
 obtain ⟨r, e, _⟩ := hI.o8 n8
 refine Yd.val (lF (h0 := e) (h1 := rfl) (k1 := dM.cells (hI.o14 n14).sl) (c1_0 := g 101)) ?_
 have k := hI.p15 n14 e
 exact ⟨.inl k.s, ir.cast k (ek hlt Dd) (ek hlt Dd) (ek hlt Dd) (ek hlt Dd) (ek hlt Dd) (ek hlt Dd) (ek hlt Dd) (pC hlt)⟩
 rintro bj bX hIX
 have hleX := (Below.size hB)
 obtain ⟨rv21_3, bY, aw, hk21_3, hLO21_3, _⟩ := hIX.o3 rfl
 obtain ⟨r5, e5, ax⟩ := hIX.o5 rfl
 obtain rfl : rv21_3 = r5 := by rw [aw] at e5; simpa using e5
 obtain ⟨rv21_8, ay, hk21_8⟩ := hIX.o8 rfl
 have G := dh.mono (hIX.o14 rfl) hleX
 obtain ⟨r15, e15, ac⟩ := hIX.o15 rfl
 obtain rfl : rv21_8 = r15 := by rw [ay] at e15; simpa using e15
 obtain ⟨P, az⟩ : ∃ u, bj 101 = u := ⟨_, rfl⟩
 rw [az] at ac G
 have hXs := hIX.s
 clear hIX e5 e15 aw ay hrwX hlwX hleX hovX
 refine Iq (FH [(92, .agg #[.int .i64 (xs.getD k zm).n, rv21_3, x]), (102, .agg #[.int .i64 (xs.getD k zm).n, rv21_8, P])] ⟨ax, ac, trivial⟩) ?_
 clear ax ac az
 replace hB := Ze hB hXs
 replace o := hXs.ow o
 replace hS := hS.trans hXs
 clear hXs
 refine To 16 rfl (Cx (u0 := .agg #[.int .i64 (xs.getD k zm).n, rv21_3, x]) (u1 := .agg #[.int .i64 (xs.getD k zm).n, rv21_8, P]) rfl rfl lk uR rfl rfl Dd Dd fun ad bZ ae J bk => ⟨.inl (hS.trans J), ?_⟩)
 have bm := ZO ae hB
 have bn := Nat.le_trans (eo.size hS) (Nat.le_of_eq ae.symm)
 clear ae
 replace hB := Ze hB J
 replace o := J.ow o
 replace hk21_3 := J.ow hk21_3
 replace hLO21_3 := LO.ext J hLO21_3
 replace hk21_8 := J.ow hk21_8
 replace G := J.ow G
 replace hS := hS.trans J
 have R := wz (enc := CP) (sz := 3) (a0 := ⟨(xs.getD k zm).n, rv21_3, x⟩) (a1 := ⟨(xs.getD k zm).n, rv21_8, P⟩) bk rfl rfl rfl rfl bm
 have b0 : ∀ j, Value.ownBlock (.slice (some ⟨ad, 0, none⟩) 2 2) = some j → ab.heap.size ≤ j := fun j e => by have e2 : ad = j := Option.some.inj e; rw [← e2]; exact bn
 try clear N
 try clear O
 replace d := Below.atI hB d
 replace hst := Below.ow hB hst
 replace hbest := Below.ow hB hbest
 replace hch := gM.below hB hch
 replace hkx := Below.ow hB hkx
 replace hLx := LO.below hB hLx
 replace hcx := Below.ow hB hcx
 replace f := Below.atI hB f
 replace ht11_2 := Below.ow hB ht11_2
 replace hk11_2 := Below.ow hB hk11_2
 replace hLO11_2 := LO.below hB hLO11_2
 replace p := Below.atI hB p
 have hzs := Nat.le_trans (Nat.le_refl _) (Below.size z)
 replace o := dh.mono o hzs
 replace G := dh.mono G hzs
 replace R := dh.mono R hzs
 replace hB := Below.trans z (Below.mono hB hzs)
 clear z hzs
 refine To 17 rfl (ez (v := fV 3 v9 0 k (iU v9)) (v2 := .slice (some ⟨ad, 0, none⟩) 2 2) rfl rfl lk uR Dd hst R.sl ((KK (dh.one hk21_3) (dh.one o) (dh.one hk21_8) (dh.one G))) (by have := Below.size hB; omega) (by simp; omega) (by simp; omega) fun aA b1 y af => ⟨.inr (by kernel_rfl), ?_⟩)
 replace af := dh.app (enc := CP) rfl rfl rfl rfl af
 replace hB := ZG hB y hst
 replace d := At.grownOw d hst y Dd
 replace hbest := dh.grownOw hbest hst y Dd
 replace hch := gM.grownOw hch hst y Dd Dd
 replace hkx := dh.grownOw hkx hst y Dd
 replace hLx := LO.grownOw hLx hst y Dd
 replace hcx := dh.grownOw hcx hst y Dd
 replace ht11_2 := dh.grownOw ht11_2 hst y Dd
 replace hk11_2 := dh.grownOw hk11_2 hst y Dd
 replace hLO11_2 := LO.grownOw hLO11_2 hst y Dd
 replace p := At.grownOw p hst y Dd
 replace o := dh.grownOw o hst y Dd
 replace hk21_3 := dh.grownOw hk21_3 hst y Dd
 replace hLO21_3 := LO.grownOw hLO21_3 hst y Dd
 replace hk21_8 := dh.grownOw hk21_8 hst y Dd
 replace G := dh.grownOw G hst y Dd
 clear R hst
 refine q8 (dd := some 9) 18 (by kernel_rfl) rfl rfl rfl rfl (Yd.val (A2 (v := aA) rfl) ⟨.inr (by kernel_rfl), ?_⟩)
 refine Td ?_
 exact M _ _ ((aA, xs.take k ++ [⟨(xs.getD k zm).n, rv21_3, x⟩, ⟨(xs.getD k zm).n, rv21_8, P⟩], st.take k ++ [(oa L11_2 c20_1, ((st.getD k lC).2 ++ T11_2)), (qK L11_2 c20_1, ((st.getD k lC).2 ++ T11_2) ++ [c20_1])], v7, best, steps + 1)) Za ⟨rfl, rfl, rfl, trivial⟩ ⟨hB, d, af, (by exact hbest), (gM.two (x1 := ⟨(xs.getD k zm).n, rv21_3, x⟩) (x2 := ⟨(xs.getD k zm).n, rv21_8, P⟩) (y1 := (oa L11_2 c20_1, ((st.getD k lC).2 ++ T11_2))) (y2 := (qK L11_2 c20_1, ((st.getD k lC).2 ++ T11_2) ++ [c20_1])) (gM.take hch k) hk21_3 hLO21_3 (dh.mono o (Nat.zero_le _)) hk21_8 (by have h := LO.kp hLO11_2 (fun k => !decide (c20_1 ∈ L11_2.getD k [])) L11_2.length (Nat.le_refl _); rw [JG] at h; exact h) (dh.mono G (Nat.zero_le _))), (mO.branch hfw hks hrd11_2 D hT4 Om hcin Om rfl rfl), trivial⟩ (by first | exact mO.phi_lt hks | exact mO.phi_br hks hrd11_2 D hcin)
 refine dr <| aI _ _ ?_
 have hbl := hfw.bl
 refine Zr <| Zw v7 rfl <| Zf rfl iy <| Zl rfl dB d rfl <| ZC GG (oO _ best n _ hbest.sl Om (by have q := fl.1 hr; exact ⟨q.1, q.2.1⟩)) rfl fun aB b2 Q S => ?_
 have bo := dh.lt2 hbest
 have bp := (Below.size hB)
 replace hB := Ze hB Q
 replace d := Q.at d
 replace hst := Q.ow hst
 replace hbest := Q.ow hbest
 replace hch := gM.ext Q hch
 have b3 := eO.new bo S
 replace S := dh.mono S bp
 refine Zi rfl <| Zw aB rfl <| Zi rfl <| Zw (.int .i64 0) rfl <| cT <| Zt <| DX (v := aB) rfl (v1 := .int .i64 _) rfl (v2 := .int .i64 0) rfl ⟨hB, ?_⟩
 have hfin := hfw.fin hr (by omega)
 have hrl := lx best n.toNat
 have hn4 := (fl.1 hr).2.1
 exact .inl ⟨_, _, _, rfl, S, hfin, by omega, hfw.s0, hfw.sb⟩
end
section
open Go Go.RowKit
theorem iJ : fx Tryz.prog 163 1 = some 1 := by kernel_rfl
theorem kl : fp Tryz.prog 161 = true := by kernel_rfl
theorem kw : fO Tryz.prog 161 = some (188, 3, 24) := by kernel_rfl
theorem oL : fx Tryz.prog 188 0 = some 0 := by kernel_rfl
theorem EN : dC Tryz.prog 138 = true := by kernel_rfl
theorem DK : dC Tryz.prog 139 = true := by kernel_rfl
theorem yA : eL Tryz.prog 188 = some (.agg #[.int .i64 0, .int .i64 0, .int .i64 0]) := by kernel_rfl
theorem rW {f : Nat → Value} {w : World} {d : Option Nat} {ty : TypeId} {ps : String} {af : Array Edge} {g : Option (Nat × Bool)} {x0 x1 x2 : Operand} {c0_0 c1_0 c2_0 : Value} (h0 : dO f x0 = c0_0) (k0 : c0_0.cells = #[c0_0]) (h1 : dO f x1 = c1_0) (k1 : c1_0.cells = #[c1_0]) (h2 : dO f x2 = c2_0) (k2 : c2_0.cells = #[c2_0]) :
    (execOp (dO f) ⟨d, .build 188 #[(0, x0), (1, x1), (2, x2)], ty, ps, af, g⟩).run Tryz.prog w = .ok (.value (.agg #[c0_0, c1_0, c2_0])) w := by
  obtain ⟨i0, hi0, hz0⟩ := Option.bind_eq_some_iff.1 (show (Tryz.prog.info? 188).bind (·.zero) = _ from yA)
  obtain ⟨j3, hj3, hs3⟩ := Option.map_eq_some_iff.1 ik
  simp [execOp, h0, k0, h1, k1, h2, k2, Instr.build, zeroValue, typeInfo, sizeOf, hi0, hz0, run_underlying Tryz.underlying188, Instr.fill, eW, hj3, hs3]
theorem nM : kY Tryz.prog 188 = some 3 := by kernel_rfl
theorem qV : fx Tryz.prog 163 2 = some 2 := by kernel_rfl
theorem wE : fp Tryz.prog 160 = true := by kernel_rfl
theorem uQ : lK Tryz.prog 160 = some (188, 3) := by kernel_rfl
theorem HC {f : Nat → Value} {w : World} {d : Option Nat} {ty t2 : TypeId} {ps : String} {af : Array Edge} {g : Option (Nat × Bool)} {x y : Operand} {a0 a1 a2 b0 b1 b2 : Int} (hx : dO f x = .agg #[.int .i64 a0, .int .i64 a1, .int .i64 a2]) (hy : dO f y = .agg #[.int .i64 b0, .int .i64 b1, .int .i64 b2]) :
    (execOp (dO f) ⟨d, .binOp .eql 188 x y t2, ty, ps, af, g⟩).run Tryz.prog w = .ok (.value (.bool (decide ((a0 = b0 ∧ a1 = b1 ∧ a2 = b2))))) w := by
  have hg : Tryz.prog.eqGuardType Tryz.prog.depth 188 = false := by kernel_rfl
  have hp188 : Tryz.prog.stoodInHeld 188 = false := by kernel_rfl
  have hu188 : Tryz.prog.underlying 188 = some (.struct (Tryz.prog.fieldsOf 188)) := by kernel_rfl
  simp only [execOp, hx, hy, Sem.run_bind, run_eqGuard_agg _ _ _ _ _ _ _ hg, Result.andThen_ok, run_eql_struct, run_equalIn_agg _ 9999 188 _ _ hu188 hp188]
  simp only [Program.fieldsOf, Tryz.underlying188]
  simp [Op.eqFields, part, isAgg, run_equalIn_int _ 9998 3 _ _ _ _ Tryz.underlying3, run_underlying Tryz.underlying3]
  by_cases q0 : a0 = b0 <;> by_cases q1 : a1 = b1 <;> by_cases q2 : a2 = b2 <;> simp [q0, q1, q2]
theorem x7 : oS Tryz.prog 188 (fun v => ∃ a : Nd, v = tk a) := by
  refine nG Tryz.underlying188 ?_ ?_ ?_ ?_
  · rintro w _ _ ⟨a, rfl⟩ ⟨c, rfl⟩
    have hg : Tryz.prog.eqGuardType Tryz.prog.depth 188 = false := by kernel_rfl
    exact ⟨_, ql hg (HC rfl rfl), by rw [decide_eq_true_eq]; constructor <;> intro h <;> simpa [tk] using h⟩
  · rintro _ _ ⟨a, rfl⟩ ⟨c, rfl⟩
    exact .inl rfl
  · rintro w em _ ⟨a, rfl⟩
    have h2 : ∀ k, (Instr.checkKey em (k + 1 + 1 + 1) 188 (tk a)).run Tryz.prog w = .ok () w := fun k => by
      simp [tk, Instr.checkKey, part, isAgg, run_underlying Tryz.underlying188, run_underlying Tryz.underlying3]
    exact h2 9997
  · rintro _ ⟨a, rfl⟩
    simp [tk, Instr.sameBits]
theorem C4 : fx Tryz.prog 163 0 = some 0 := by kernel_rfl
theorem Ao : (eL Tryz.prog 188).map (fun z => z.cells.size) = some 3 := by kernel_rfl
theorem CA : fx Tryz.prog 188 1 = some 1 := by kernel_rfl
theorem Dm : fx Tryz.prog 188 2 = some 2 := by kernel_rfl
theorem ra : fx Tryz.prog 141 0 = some 0 := by kernel_rfl
theorem vF : fp Tryz.prog 137 = true := by kernel_rfl
theorem Eg : dC Tryz.prog 136 = true := by kernel_rfl
theorem zH : dC Tryz.prog 133 = true := by kernel_rfl
theorem LS : dC Tryz.prog 137 = true := by kernel_rfl
theorem km (N ba bm R : Nat) (ns : List Nd) (id : Int) (w : World) (hD : fD 163 188 N ba bm R w ns) (hid : id ≤ 9223372036854775807) :
    Fn Tryz.prog 138 #[.pointer (some ⟨ba, 0, none⟩), .int .i64 id] w fun v w' => v = .bool (ic ns id) := by
 refine dq (n := 29) Tryz.func138 rfl rfl (Nat.le_of_ble_eq_true rfl) ?_
 have hB : Below w.heap.size w w := Below.refl _ _
 obtain ⟨nv, hha, hno⟩ := hD.out
 have hmp := hD.hm
 have hwf := hD.wf
 have hroom := hD.room
 have htop := hD.top
 have hla := hD.la
 have hlm := hD.lm
 refine Zr <| Zw (.bool false) rfl <| cT <| Zr <| Zi rfl <| Zv (nJ rfl rfl) <| ZX rfl (fun a => ?_) fun a => ?_
 refine Zi rfl <| Zv (kU rfl rfl Om Om) <| Zp rfl <| Zc rfl <| Zf rfl iJ <| ZL nv rfl kl (Below.atI hB hha) rfl <| Zv (dA (v := nv) rfl ((Below.ow hB hno)).sl kw) <| Zv (dL rfl rfl) <| Zb rfl <| ZX rfl (fun b => ?_) fun b => ?_
 refine Zp rfl <| Zc rfl <| Zf rfl iJ <| ZL nv rfl kl (Below.atI hB hha) rfl <| Zi rfl <| Zv (kU rfl rfl Om Om) <| Zv (dJ (v := nv) rfl ((Below.ow hB hno)).sl rfl kw Om Om) <| Zf rfl oL <| Zv (dk (v := .int .i64 _) rfl dB (dM.cell ((Below.ow hB hno)).sl nF mP Om Om 0 rfl)) <| Zv (f7 rfl rfl) <| Zb rfl <| Zb rfl <| cT <| Zt ?_
 refine dE (v := .bool _) rfl ⟨hB, ?_⟩
 first | exact Jd a | exact I2 b | exact Oy a b
 refine Zs <| Zs <| Zs <| Zs <| Zs <| Zs <| Zs <| Zs <| Zs <| Zs <| Zw (.bool false) rfl <| Zw (.bool false) rfl <| cT <| Zt ?_
 refine dE (v := .bool false) rfl ⟨hB, ?_⟩
 first | exact Jd a | exact I2 b | exact Oy a b
 refine Zs <| Zs <| Zs <| Zs <| Zs <| Zs <| Zs <| Zs <| Zw (.bool false) rfl <| Zw (.bool false) rfl <| Zs <| Zs <| Zs <| Zs ?_
 refine Zs <| Zs <| Zs <| Zs <| Zs <| Zs <| Zw (.bool false) rfl <| Zw (.bool false) rfl <| cT <| Zt <| dE (v := .bool false) rfl ⟨hB, ?_⟩
 first | exact Jd a | exact I2 b | exact Oy a b
theorem kf (N ba bm R : Nat) (ns : List Nd) (id : Nat) (w : World) (hD : fD 163 188 N ba bm R w ns) (hid : id < ns.length + 2) :
    Fn Tryz.prog 139 #[.pointer (some ⟨ba, 0, none⟩), .int .i64 (id : Int)] w fun v w' => v = .int .i64 ((d8 ns id : Nat) : Int) := by
 refine dq (n := 25) Tryz.func139 rfl rfl (Nat.le_of_ble_eq_true rfl) ?_
 have hB : Below w.heap.size w w := Below.refl _ _
 obtain ⟨nv, hha, hno⟩ := hD.out
 have hmp := hD.hm
 have hwf := hD.wf
 have hroom := hD.room
 have htop := hD.top
 have hla := hD.la
 have hlm := hD.lm
 refine Zr <| Zw (.int .i64 0) rfl <| cT <| cY fun K3 f => c7 <| Zr <| Zi rfl <| Zv (eB rfl rfl) <| ZX rfl (fun a => ?_) fun a => ?_
 refine Zs <| Zs <| Zw (.bool true) rfl <| Zw (.bool true) rfl <| cT <| dz rfl <| Zr <| Zw (.int .i64 24) rfl <| cT <| Zt <| dE (v := .int .i64 24) rfl ⟨hB, ?_⟩
 exact P5 (.inl a)
 refine Zi rfl <| Zv (eB rfl rfl) <| Zb rfl <| Zb rfl <| cT <| ZQ rfl (fun b => ?_) fun b => ?_
 refine Zr <| Zw (.int .i64 24) rfl <| cT <| Zt <| dE (v := .int .i64 24) rfl ⟨hB, ?_⟩
 exact P5 (.inr b)
 refine Zr <| Zp rfl <| Zi rfl <| ZC EN (km _ _ _ _ _ _ _ (fD.below hB hD) (by first | assumption | omega)) rfl fun g h d e => ?_
 replace hB := Ze hB d
 obtain rfl := e
 refine Zb rfl <| cT <| ZQ rfl (fun c => ?_) fun c => ?_
 have hth := nx.1 c
 refine Zr <| Zp rfl <| Zc rfl <| Zf rfl iJ <| ZL nv rfl kl (Below.atI hB hha) rfl <| Zi rfl <| Zv (kU rfl rfl Om Om) <| Zv (dJ (v := nv) rfl ((Below.ow hB hno)).sl rfl kw Om Om) <| Zf rfl oL <| Zv (dk (v := .int .i64 _) rfl dB (dM.cell ((Below.ow hB hno)).sl nF mP Om Om 0 rfl)) <| Zi rfl <| cT <| Zt <| dE (v := .int .i64 _) rfl ?_
 refine ⟨hB, ?_⟩
 exact QQ a b
 exact (N3 hid a b c).elim
theorem o6 (N ba bm R : Nat) (ns : List Nd) (l lo hi : Nat) (w : World) (hN0 : N ≤ w.heap.size) (hD : fD 163 188 N ba bm R w ns) (hlo : lo < ns.length + 2) (hhi : hi < ns.length + 2) (h0 : hi ≠ 0) (l1 : l < d8 ns lo) (l2 : l < d8 ns hi) (h24 : l < 24) :
    qJ Tryz.prog 137 #[.pointer (some ⟨ba, 0, none⟩), .int .i64 (l : Int), .int .i64 (lo : Int), .int .i64 (hi : Int)] w fun v w' => PO 163 188 N ba bm R w ns (1) (l) (up l (M ns lo) (M ns hi)) v w' := by
 refine eX (n := 112) Tryz.func137 rfl rfl (Nat.le_of_ble_eq_true rfl) ?_
 have hB : Below N w w := Below.refl _ _
 obtain ⟨nv, hha, hno⟩ := hD.out
 have hmp := hD.hm
 have hwf := hD.wf
 have hroom := hD.room
 have htop := hD.top
 have hla := hD.la
 have hlm := hD.lm
 have hX : Dx 188 N [ba, bm] w w := Dx.refl
 have hil := Gs ns
 have e := hB
 replace hB := Below.refl w.heap.size w
 refine Zr <| Zw (.int .i64 0) rfl <| Zw (.int .i64 0) rfl <| cT <| cY fun K4 F => Zr <| Zp rfl <| Zv (pu rfl rfl Tryz.underlying137) <| Zw (.bool false) rfl <| Zi rfl <| Zv (dL rfl rfl) <| Zb rfl <| ZX rfl (fun z => ?_) fun z => ?_
 exact absurd z Om
 refine Zp rfl <| Zi rfl <| ZC DK (kf _ _ _ _ _ _ _ (fD.below hB hD) (by first | assumption | omega)) rfl fun al W8 G H => ?_
 replace hB := Ze hB G
 obtain rfl := H
 refine Zi rfl <| Zv (yi rfl rfl) <| Zb rfl <| ZX rfl (fun A => ?_) fun A => ?_
 exact absurd A Om
 refine Zp rfl <| Zi rfl <| ZC DK (kf _ _ _ _ _ _ _ (fD.below hB hD) (by first | assumption | omega)) rfl fun ao ap I J => ?_
 replace hB := Ze hB I
 obtain rfl := J
 refine Zi rfl <| Zv (yi rfl rfl) <| Zb rfl <| cT <| ZQ rfl (fun B => ?_) fun B => ?_
 exact absurd B Om
 refine c9 <| F _ _ <| Zr <| Zi rfl <| Zi rfl <| Zi rfl <| Zv (rW (h0 := rfl) (k0 := rfl) (h1 := rfl) (k1 := rfl) (h2 := rfl) (k2 := rfl) (c0_0 := .int .i64 _) (c1_0 := .int .i64 _) (c2_0 := .int .i64 _)) <| Zy (dt yA rfl fun C aq s K c => ?_)
 have g := ZO s hB
 have L := dh.neB (b := C) (Below.ow hB hno) (Nat.le_of_eq s.symm)
 clear s
 replace hB := Ze hB K
 refine Zy (dg rfl rfl nM rfl c rfl rfl fun ar O P => ?_)
 replace hB := Zg hB O g
 replace c := P
 refine cT <| cY fun au Q => Zd eo fun S D => ?_
 replace hB := Ze hB D
 replace c := D.at c
 have hS := eo.refl S
 refine Tq 0 rfl rfl hS <| Tc 1 rfl rfl hS <| Tf 2 rfl rfl qV hS <| Tk 3 rfl (fun _ hq => dk (v := .map (some bm)) rfl wE (At.cell (hq.at (Below.atI hB hha)) rfl)) hS <| Tk 4 rfl (fun _ hq => db rfl nM rfl (hq.at c)) hS <| Tk 5 rfl (fun _ hq => xV (enc := tk) (encV := eK) (v0 := 0) (k := ⟨l, lo, hi⟩) rfl rfl uQ x7 (fun a => ⟨a, rfl⟩) Bs tN rfl (hq.mapT (Below.mapI hB hmp))) hS <| Tw 6 (.tuple #[.int .i64 _, .bool _]) rfl rfl hS <| Tk 7 rfl (fun _ _ => dI rfl) hS <| Tk 8 rfl (fun _ _ => dK rfl) hS <| Ti 9 rfl rfl hS <| Ty 10 rfl rfl hS <| Td <| Zr <| Zb rfl ?_
 refine cT <| ZQ rfl (fun t => ?_) fun t => ?_
 refine Zr <| Zi rfl <| Zi rfl <| Zw (.int .i64 0) rfl <| cT ?_
 refine vW ?_
 replace hha := Below.atI hB hha
 replace hno := Below.ow hB hno
 replace hmp := Below.mapI hB hmp
 clear hD
 replace hX := Dx.trans hX (Dx.below hB)
 have hzs := Nat.le_trans hN0 (Below.size e)
 replace g := Nat.le_trans hzs g
 replace hB := Below.trans e (Below.mono hB hzs)
 clear e hzs
 repeat (first | refine j6 ?_ | refine jp ?_)
 refine dZ (v := .int .i64 _) rfl (v1 := .int .i64 0) rfl ?_
 obtain ⟨i, hi2, hn, he⟩ := NY hwf t
 rw [he]
 exact ⟨ns, i + 2, 0, rfl, hX, ⟨⟨nv, hha, hno⟩, hmp, hla, hlm, hwf, hroom, htop⟩, O6 hwf hi2 hn⟩
 refine c9 <| Q _ _ <| cY fun av T => ?_
 have hnew := NO t
 refine Zd eo fun U E => ?_
 replace hB := Ze hB E
 replace c := E.at c
 have hS := eo.refl U
 refine Tq 0 rfl rfl hS <| Tc 1 rfl rfl hS <| Tf 2 rfl rfl qV hS <| Tk 3 rfl (fun _ hq => dk (v := .map (some bm)) rfl wE (At.cell (hq.at (Below.atI hB hha)) rfl)) hS <| Tk 4 rfl (fun _ hq => IZ rfl uQ (hq.mapT (Below.mapI hB hmp))) hS <| Tq 5 rfl rfl hS <| Tc 6 rfl rfl hS <| Tf 7 rfl rfl C4 hS <| Tk 8 rfl (fun _ hq => dk (v := .int .i64 _) rfl dB (At.cell (hq.at (Below.atI hB hha)) rfl)) hS <| Tk 9 rfl (fun _ _ => nJ rfl rfl) hS <| Td <| ZQ rfl (fun V => ?_) fun V => ?_
 refine Zr <| Zw (.int .i64 0) rfl <| Zw (.int .i64 5) rfl <| cT ?_
 refine vW ?_
 replace hha := Below.atI hB hha
 replace hno := Below.ow hB hno
 replace hmp := Below.mapI hB hmp
 clear hD
 replace hX := Dx.trans hX (Dx.below hB)
 have hzs := Nat.le_trans hN0 (Below.size e)
 replace g := Nat.le_trans hzs g
 replace hB := Below.trans e (Below.mono hB hzs)
 clear e hzs
 repeat (first | refine j6 ?_ | refine jp ?_)
 refine dZ (v := .int .i64 0) rfl (v1 := .int .i64 5) rfl ?_
 exact ⟨ns, 0, 5, rfl, hX, ⟨⟨nv, hha, hno⟩, hmp, hla, hlm, hwf, hroom, htop⟩, LH Om⟩
 refine c9 <| T _ _ <| Zr <| Zw (.int .i64 0) rfl <| cT <| cY fun aw X => c7 ?_
 refine dw (σ := (Nat)) [13, 59, 60, 61, 62, 63, 64, 65, 66, 67, 68, 69, 70, 71, 72, 73, 74, 75, 76, 77, 78] (fun i => [(13, .int .i64 (i : Int))]) (fun i W => (Below w.heap.size w W) ∧ (At W C _ 188) ∧ (i ≤ ns.length) ∧ (True)) (fun i => ns.length - i) (0) ⟨rfl, trivial⟩ ⟨hB, c, (Nat.zero_le _), trivial⟩ ?_
 clear hB c
 rintro i ax ay ⟨hB, c, hi2, _⟩ az Y
 refine cY fun aA Z => Zr <| Zi rfl <| Zp rfl <| Zc rfl <| Zf rfl iJ <| ZL nv rfl kl (Below.atI hB hha) rfl <| Zv (dA (v := nv) rfl ((Below.ow hB hno)).sl kw) <| Zv (dL rfl rfl) <| ZX rfl (fun aa => ?_) fun aa => ?_
 refine Zp rfl <| Zc rfl <| Zf rfl iJ <| ZL nv rfl kl (Below.atI hB hha) rfl <| Zi rfl <| Zv (dJ (v := nv) rfl ((Below.ow hB hno)).sl rfl kw Om Om) <| Zf rfl oL <| Zv (dk (v := .int .i64 _) rfl dB (dM.cell ((Below.ow hB hno)).sl nF mP Om Om 0 rfl)) <| Zv (f7 rfl rfl) <| Zb rfl <| cT <| ZQ rfl (fun ab => ?_) fun ab => ?_
 refine c9 <| Z _ _ <| c7 <| cZ <| Zi rfl <| Zv (dp rfl rfl Om Om) <| Zi rfl <| cT ?_
 exact Y _ _ (i + 1) Za ⟨rfl, trivial⟩ ⟨hB, c, Om, trivial⟩ Zo
 omega
 refine Zs <| Zs <| Zs <| Zs <| Zs <| Zs <| Zs <| Zs <| Zs <| Zw (.bool false) rfl <| cT <| d4 rfl <| dr <| X _ _ ?_
 refine cY fun aB ac => ?_
 obtain rfl : i = ns.length := by omega
 refine Zr <| Zi rfl <| Zp rfl <| Zc rfl <| Zf rfl iJ <| ZL nv rfl kl (Below.atI hB hha) rfl <| Zv (dA (v := nv) rfl ((Below.ow hB hno)).sl kw) <| Zv (eB rfl rfl) <| cT <| ZQ rfl (fun ad => ?_) fun ad => ?_
 replace hha := Below.atI hB hha
 replace hno := Below.ow hB hno
 replace hmp := Below.mapI hB hmp
 clear hD
 replace hX := Dx.trans hX (Dx.below hB)
 have hzs := Nat.le_trans hN0 (Below.size e)
 replace g := Nat.le_trans hzs g
 replace hB := Below.trans e (Below.mono hB hzs)
 clear e hzs
 refine gx (fun a b => a.grownBy b nv.ownBlock) im (fun ae m => ?_)
 replace hha := m.at hha
 replace hno := m.ow hno
 replace hmp := m.mapT hmp
 replace hX := Dx.trans hX (Dx.ext m)
 replace hB := dF hB m hN0
 replace c := m.at c
 have af := hno
 have hS := World.grownBy.refl ae nv.ownBlock
 refine Tq 0 rfl rfl hS <| Tq 1 rfl rfl hS <| Tc 2 rfl rfl hS <| Tf 3 rfl rfl iJ hS <| Tk 4 rfl (fun _ hq => dk (v := nv) rfl kl (At.cell (At.grownOw hha af hq Dd) rfl)) hS ?_
 refine q8 (dd := some 91) 5 (by kernel_rfl) rfl rfl rfl rfl (Yd.val (db rfl nM rfl c) ⟨.inl hS, ?_⟩)
 refine To 6 rfl (fc (u := .agg #[_, _, _]) rfl kw Ao rfl Dd Dd fun y aC r f ag => ⟨.inl (dD hS (eo.grown f nv.ownBlock)), ?_⟩)
 have aD : N ≤ y := r ▸ (Nat.le_trans hN0 (Below.size hB))
 have aE := dh.neB (b := y) hno (Nat.le_of_eq r.symm)
 have aF := Zn r c.lt
 clear r
 replace hha := f.at hha
 replace hno := f.ow hno
 replace hmp := f.mapT hmp
 replace hX := Dx.trans hX (Dx.ext f)
 replace hB := dF hB f hN0
 replace c := f.at c
 replace hS := dD hS (eo.grown f nv.ownBlock)
 refine To 7 rfl (ez (v := nv) (v2 := .slice (some ⟨y, 0, none⟩) 1 1) rfl rfl kw Ao Dd hno (fG ag rfl) rfl (by have := Below.size hB; omega) (by first | omega | (simp; omega)) (by first | omega | (simp; omega)) fun ah aG h d => ⟨.inl (dD hS h), ?_⟩)
 replace hS := dD hS h
 replace d := dh.snoc (enc := OY) (x := ⟨l, lo, hi⟩) rfl rfl rfl rfl d
 replace hha := At.grownOw hha hno h Dd
 replace hmp := dR.grownOw hmp hno h
 replace hX := Dx.trans hX (Dx.row hno h)
 replace hB := dy hB h hN0 (fun j hj => (dh.lt hno j hj))
 replace c := At.grownOwNe c L h
 clear hno
 refine Tc 8 rfl rfl hS <| Tf 9 rfl rfl iJ hS <| To 10 rfl (eC (v := ah) rfl rfl kl (dM.one d.sl) hha (by simp) fun aH o ai => ⟨.inr (by kernel_rfl), ?_⟩)
 replace hmp := dR.grownAt hmp hha o
 replace hX := Dx.trans hX (Dx.grown o (by simp) hla)
 replace hB := dy hB o hN0 (fun j hj => by cases hj; exact hla)
 replace c := At.grownAt c hha o Dd
 replace d := dh.grownAt d hha o Dd
 clear o hha
 replace hha := ai
 replace hha : At _ _ #[_, _, _] _ := hha
 refine Td <| ac _ _ <| Zd eo fun aj p => ?_
 replace hha := p.at hha
 replace hmp := p.mapT hmp
 replace hX := Dx.trans hX (Dx.ext p)
 replace hB := dF hB p hN0
 replace c := p.at c
 replace d := p.ow d
 have hS := eo.refl aj
 refine Tq 0 rfl rfl hS <| Tc 1 rfl rfl hS <| Tf 2 rfl rfl qV hS <| Tk 3 rfl (fun _ hq => dk (v := .map (some bm)) rfl wE (At.cell (hq.at hha) rfl)) hS <| Tk 4 rfl (fun _ hq => db rfl nM rfl (hq.at c)) hS <| Ti 5 rfl rfl hS <| Tk 6 rfl (fun _ _ => dp rfl rfl Om Om) hS <| To 7 rfl (fI (enc := tk) (encV := eK) (k := ⟨l, lo, hi⟩) (v := ((ns.length + 2 : Nat) : Int)) rfl rfl rfl uQ x7 (fun a => ⟨a, rfl⟩) Bs hmp fun aI q ak => ⟨.inr (by kernel_rfl), ?_⟩)
 replace hha := At.grownMap hha hmp q
 replace hX := Dx.trans hX (Dx.grown q (by simp) hlm)
 replace hB := dy hB q hN0 (fun j hj => by cases hj; exact hlm)
 replace c := At.grownMap c hmp q
 replace d := dh.grownMap d hmp q
 clear q hmp
 replace hmp := ak
 rw [JF hnew] at hmp
 refine Td <| Zr <| Zi rfl <| Zv (dp rfl rfl Om Om) <| Zi rfl <| Zw (.int .i64 0) rfl <| cT <| Zt <| dZ (v := .int .i64 _) rfl (v1 := .int .i64 0) rfl ?_
 exact ⟨ns ++ [⟨l, lo, hi⟩], ns.length + 2, 0, rfl, hX, ⟨⟨_, hha, d⟩, hmp, hla, hlm, hwf.snoc hnew hlo hhi h0 l1 l2 h24, (by simp; omega), htop⟩, Nv hlo hhi⟩
 omega
theorem kG (N ba bm R : Nat) (ns : List Nd) (id : Int) (w : World) (hD : fD 163 188 N ba bm R w ns) (hid : id ≤ 9223372036854775807) :
    Fn Tryz.prog 136 #[.pointer (some ⟨ba, 0, none⟩), .int .i64 id] w fun v w' => v = .tuple #[.int .i64 ((lI ns id).l : Int), .int .i64 ((lI ns id).lo : Int), .int .i64 ((lI ns id).hi : Int), .bool (ic ns id)] := by
 refine dq (n := 31) Tryz.func136 rfl rfl (Nat.le_of_ble_eq_true rfl) ?_
 have hB : Below w.heap.size w w := Below.refl _ _
 obtain ⟨nv, hha, hno⟩ := hD.out
 have hmp := hD.hm
 have hwf := hD.wf
 have hroom := hD.room
 have htop := hD.top
 have hla := hD.la
 have hlm := hD.lm
 refine Zr <| Zw (.int .i64 0) rfl <| Zw (.int .i64 0) rfl <| Zw (.int .i64 0) rfl <| Zw (.bool false) rfl <| cT <| cY fun K3 f => Zr <| Zp rfl <| Zv (pu rfl rfl Tryz.underlying137) <| Zw (.bool false) rfl <| Zp rfl <| Zi rfl <| ZC EN (km _ _ _ _ _ _ _ (fD.below hB hD) (by first | assumption | omega)) rfl fun q W7 g h => ?_
 replace hB := Ze hB g
 obtain rfl := h
 refine Zv (fy rfl) <| Zb rfl <| cT <| ZQ rfl (fun c => ?_) fun c => ?_
 refine Zr <| Zw (.int .i64 0) rfl <| Zw (.int .i64 0) rfl <| Zw (.int .i64 0) rfl <| Zw (.bool false) rfl <| cT <| Zt <| zW (v := .int .i64 0) rfl (v1 := .int .i64 0) rfl (v2 := .int .i64 0) rfl (v3 := .bool false) rfl ⟨hB, ?_⟩
 obtain ⟨ht, hn⟩ := Ma c
 rw [ht, hn]
 rfl
 refine c9 <| f _ _ ?_
 obtain ⟨ht, hn⟩ := J8 c
 have hth := nx.1 ht
 refine Zr <| Zp rfl <| Zc rfl <| Zf rfl iJ <| ZL nv rfl kl (Below.atI hB hha) rfl <| Zi rfl <| Zv (kU rfl rfl Om Om) <| Zv (dJ (v := nv) rfl ((Below.ow hB hno)).sl rfl kw Om Om) <| Zv (k8 rfl nM (dM.cell ((Below.ow hB hno)).sl nF mP Om Om 0 rfl) (dM.cell ((Below.ow hB hno)).sl nF mP Om Om 1 rfl) (dM.cell ((Below.ow hB hno)).sl nF mP Om Om 2 rfl)) <| Zy (dt yA rfl fun i r d j a => ?_)
 have k := ZO d hB
 have s := dh.neB (b := i) (Below.ow hB hno) (Nat.le_of_eq d.symm)
 clear d
 replace hB := Ze hB j
 refine Zy (dg rfl rfl nM rfl a rfl rfl fun t m o => ?_)
 replace hB := Zg hB m k
 replace a := o
 refine cT <| Zd eo fun p e => ?_
 replace hB := Ze hB e
 replace a := e.at a
 have hS := eo.refl p
 refine Tf 0 rfl rfl oL hS <| Tk 1 rfl (fun _ hq => dk (v := .int .i64 _) rfl dB (At.cell (hq.at a) rfl)) hS <| Tf 2 rfl rfl CA hS <| Tk 3 rfl (fun _ hq => dk (v := .int .i64 _) rfl dB (At.cell (hq.at a) rfl)) hS <| Tf 4 rfl rfl Dm hS <| Tk 5 rfl (fun _ hq => dk (v := .int .i64 _) rfl dB (At.cell (hq.at a) rfl)) hS <| Ti 6 rfl rfl hS <| Ti 7 rfl rfl hS <| Ti 8 rfl rfl hS <| Tw 9 (.bool true) rfl rfl hS <| Td <| Zt <| zW (v := .int .i64 _) rfl (v1 := .int .i64 _) rfl (v2 := .int .i64 _) rfl (v3 := .bool true) rfl ⟨hB, ?_⟩
 rw [ht, hn]
theorem jW (N ba bm bz R : Nat) (ns : List Nd) (id : Int) (w : World) (hz : At w bz #[.pointer (some ⟨ba, 0, none⟩)] 141) (hD : fD 163 188 N ba bm R w ns) (hid : id ≤ 9223372036854775807) :
    Fn Tryz.prog 133 #[.pointer (some ⟨bz, 0, none⟩), .int .i64 id] w fun v w' => v = .int .i64 (rB ns id) := by
 refine dq (n := 28) Tryz.func133 rfl rfl (Nat.le_of_ble_eq_true rfl) ?_
 have hB : Below w.heap.size w w := Below.refl _ _
 refine Zr <| Zw (.int .i64 0) rfl <| cT <| cY fun K3 d => Zr <| Zi rfl <| Zv (eB rfl rfl) <| ZX rfl (fun a => ?_) fun a => ?_
 refine Zs <| Zs <| Zw (.bool true) rfl <| cT <| dz rfl <| Zr <| Zw (.int .i64 24) rfl <| cT <| Zt <| dE (v := .int .i64 24) rfl ⟨hB, ?_⟩
 exact Pn (.inl a)
 refine Zi rfl <| Zv (eB rfl rfl) <| Zb rfl <| cT <| ZQ rfl (fun b => ?_) fun b => ?_
 refine Zr <| Zw (.int .i64 24) rfl <| cT <| Zt <| dE (v := .int .i64 24) rfl ⟨hB, ?_⟩
 exact Pn (.inr b)
 refine c9 <| d _ _ <| cY fun h e => Zr <| Zp rfl <| Zc rfl <| Zf rfl ra <| ZL (.pointer (some ⟨ba, 0, none⟩)) rfl vF (Below.atI hB hz) rfl <| Zi rfl <| ZC Eg (kG _ _ _ _ _ _ _ (fD.below hB hD) (by first | assumption | omega)) rfl fun i j f g => ?_
 replace hB := Ze hB f
 obtain rfl := g
 refine Zw (.tuple #[.int .i64 _, .int .i64 _, .int .i64 _, .bool _]) rfl <| Zv (z7 rfl) <| Zv (Aa rfl) <| Zv (Bl rfl) <| Zv (Av rfl) <| Zi rfl <| Zi rfl <| Zi rfl <| Zb rfl <| cT <| Zr <| Zb rfl <| cT <| ZQ rfl (fun c => ?_) fun c => ?_
 refine Zr <| Zi rfl <| Zi rfl <| cT <| Zt <| dE (v := .int .i64 _) rfl ⟨hB, ?_⟩
 exact Qu c
 refine c9 <| e _ _ <| Zr <| Zi rfl <| cT <| Zt <| dE (v := .int .i64 _) rfl ⟨hB, ?_⟩
 exact QF a b c
theorem q4 (N ba bm bz R : Nat) (ns : List Nd) (xi : Value) (li : List Int) (w : World) (hz : At w bz #[.pointer (some ⟨ba, 0, none⟩)] 141) (hD : fD 163 188 N ba bm R w ns) (hli : dM d9 1 w xi li) (hlb : li.length ≤ 1000) (hmx : ∀ x, x ∈ li → x ≤ 9223372036854775807) :
    Fn Tryz.prog 131 #[.pointer (some ⟨bz, 0, none⟩), xi] w fun v w' => v = .bool (li.all (nt ns)) := by
 refine dq (n := 20) Tryz.func131 rfl rfl (Nat.le_of_ble_eq_true rfl) ?_
 have hB : Below w.heap.size w w := Below.refl _ _
 refine Zr <| Zw (.bool false) rfl <| cT <| cY fun K3 b => Zr <| Zp rfl <| Zv (pu rfl rfl Tryz.underlying102) <| cT <| d4 rfl <| c9 <| b _ _ <| cY fun K7 c => Zr <| Zw xi rfl ?_
 refine Zv (dA (v := xi) rfl (Below.slT hB hli) du) <| Zw (.int .i64 0) rfl <| cT <| c7 ?_
 refine dw (σ := (Nat)) [4, 6, 11, 12, 13, 14, 15, 16, 17, 18, 19] (fun k => [(11, .int .i64 (k : Int))]) (fun k W => (Below w.heap.size w W) ∧ (k ≤ li.length) ∧ (∀ q, q < k → nt ns (li.getD q 0) = true) ∧ (True)) (fun k => li.length - k) (0) ⟨rfl, trivial⟩ ⟨hB, (Nat.zero_le _), ff, trivial⟩ ?_
 clear hB
 rintro k j l ⟨hB, hk, hq, _⟩ m d
 refine Zr <| Zv (dL rfl rfl) <| cT <| cY fun o e => ZQ rfl (fun f => ?_) fun f => ?_
 refine c9 <| e _ _ <| cY fun p g => c7 <| Zr <| Zv (dJ (v := xi) rfl (Below.slT hB hli) rfl du Om Om) <| Zv (dk (v := .int .i64 _) rfl dB (dM.cell (Below.slT hB hli) eD 0 Om Om 0 rfl)) <| Zi rfl <| cT ?_
 have hmk := hmx (li.getD k 0) (dS (by omega))
 refine Zr <| Zp rfl <| Zi rfl <| ZC zH (jW _ _ _ _ _ _ _ _ (Below.atI hB hz) (fD.below hB hD) (by first | assumption | omega)) rfl fun r s h i => ?_
 replace hB := Ze hB h
 obtain rfl := i
 refine Zv (dL rfl rfl) <| cT <| ZQ rfl (fun a => ?_) fun a => ?_
 refine Zr <| Zw (.bool false) rfl <| cT <| Zt <| dE (v := .bool false) rfl ⟨hB, ?_⟩
 exact L3 (k := k) Om a
 refine c9 <| g _ _ <| cZ <| Zv (dp rfl rfl Om Om) <| Zi rfl <| cT ?_
 exact d _ _ (k + 1) Za ⟨rfl, trivial⟩ ⟨hB, Om, (ey hq (MQ a)), trivial⟩ Zo
 refine dr <| c _ _ <| Zr <| Zw (.bool true) rfl <| cT <| Zt <| dE (v := .bool true) rfl ⟨hB, ?_⟩
 exact JV (k := k) Om hq
theorem m0 (N ba bm bz R : Nat) (ns : List Nd) (l lo hi : Nat) (w : World) (hN0 : N ≤ w.heap.size) (hz : At w bz #[.pointer (some ⟨ba, 0, none⟩)] 141) (hD : fD 163 188 N ba bm R w ns) (hlo : lo < ns.length + 2) (hhi : hi < ns.length + 2) (l1 : l < d8 ns lo) (l2 : l < d8 ns hi) (h24 : l < 24) :
    qJ Tryz.prog 135 #[.pointer (some ⟨bz, 0, none⟩), .int .i64 (l : Int), .int .i64 (lo : Int), .int .i64 (hi : Int)] w fun v w' => PO 163 188 N ba bm R w ns (min hi 1) (l) (up l (M ns lo) (M ns hi)) v w' := by
 refine eX (n := 23) Tryz.func135 rfl rfl (Nat.le_of_ble_eq_true rfl) ?_
 have hB : Below N w w := Below.refl _ _
 have hX : Dx 188 N [ba, bm] w w := Dx.refl
 refine Zr <| Zw (.int .i64 0) rfl <| Zw (.int .i64 0) rfl <| cT <| cY fun K3 c => Zr <| Zi rfl <| Zv (eB rfl rfl) <| cT <| ZQ rfl (fun b => ?_) fun b => ?_
 refine Zr <| Zi rfl <| Zi rfl <| Zw (.int .i64 0) rfl <| cT <| Zt <| dZ (v := .int .i64 _) rfl (v1 := .int .i64 0) rfl ?_
 exact ⟨ns, lo, 0, rfl, hX, hD, jv.same hlo (Nat.le_of_lt l1) (FL b)⟩
 refine c9 <| c _ _ <| Zr <| Zp rfl <| Zc rfl <| Zf rfl ra <| ZL (.pointer (some ⟨ba, 0, none⟩)) rfl vF hz rfl <| Zi rfl <| Zi rfl <| Zi rfl <| ZH LS (o6 N ba bm R ns l lo hi _ hN0 hD hlo hhi Om l1 l2 h24) rfl fun g h d => ?_
 obtain ⟨i, j, k, rfl, a, e, f⟩ := d
 replace hz := At.dx hD a hz Dd Dd
 replace hX := Dx.trans hX (a)
 replace hB := Below.dx hB (Nat.le_refl _) hN0 a
 replace hD := e
 refine Zv (dI rfl) <| Zv (dK rfl) <| Zi rfl <| Zi rfl <| cT <| Zt <| dZ (v := .int .i64 _) rfl (v1 := .int .i64 _) rfl ?_
 exact ⟨_, _, _, rfl, hX, hD, f.weak (show 1 ≤ min hi 1 by omega) (fun _ => Iff.rfl)⟩
theorem lH (N ba bm bz R : Nat) (ns : List Nd) (f l : Nat) (w : World) (hz : At w bz #[.pointer (some ⟨ba, 0, none⟩)] 141) (hD : fD 163 188 N ba bm R w ns) (hf : f < ns.length + 2) :
    Fn Tryz.prog 134 #[.pointer (some ⟨bz, 0, none⟩), .int .i64 (f : Int), .int .i64 (l : Int)] w fun v w' => v = .tuple #[.int .i64 ((dV ns f l : Nat) : Int), .int .i64 ((ee ns f l : Nat) : Int)] := by
 refine dq (n := 32) Tryz.func134 rfl rfl (Nat.le_of_ble_eq_true rfl) ?_
 have hB : Below w.heap.size w w := Below.refl _ _
 have hroom := hD.room
 have htop := hD.top
 refine Zr <| Zw (.int .i64 0) rfl <| Zw (.int .i64 0) rfl <| cT <| cY fun K3 c => Zr <| Zp rfl <| Zc rfl <| Zf rfl ra <| ZL (.pointer (some ⟨ba, 0, none⟩)) rfl vF (Below.atI hB hz) rfl <| Zi rfl <| ZC Eg (kG _ _ _ _ _ _ _ (fD.below hB hD) (by first | assumption | omega)) rfl fun g W7 d e => ?_
 replace hB := Ze hB d
 obtain rfl := e
 refine Zw (.tuple #[.int .i64 _, .int .i64 _, .int .i64 _, .bool _]) rfl <| Zv (z7 rfl) <| Zv (Aa rfl) <| Zv (Bl rfl) <| Zv (Av rfl) <| Zi rfl <| Zi rfl <| Zi rfl <| Zb rfl <| cT <| Zr <| Zb rfl <| ZX rfl (fun a => ?_) fun a => ?_
 refine Zi rfl <| Zi rfl <| Zv (eB rfl rfl) <| Zb rfl <| cT <| ZQ rfl (fun b => ?_) fun b => ?_
 refine Zr <| Zi rfl <| Zi rfl <| Zi rfl <| Zi rfl <| cT <| Zt <| dZ (v := .int .i64 _) rfl (v1 := .int .i64 _) rfl ⟨hB, ?_⟩
 exact QD a b
 refine c9 <| c _ _ <| Zr <| Zi rfl <| Zi rfl <| Zw (.int .i64 0) rfl <| cT <| Zt <| dZ (v := .int .i64 _) rfl (v1 := .int .i64 0) rfl ⟨hB, ?_⟩
 exact PL hf (fun h => b h.2)
 refine Zs <| Zs <| Zs <| Zw (.bool false) rfl <| cT <| d4 rfl <| c9 <| c _ _ <| Zr <| Zi rfl <| Zi rfl <| Zw (.int .i64 0) rfl <| cT <| Zt ?_
 refine dZ (v := .int .i64 _) rfl (v1 := .int .i64 0) rfl ⟨hB, ?_⟩
 exact PL hf (fun h => by rw [a] at h; cases h.1)
end
section
open Go Go.RowKit
theorem LY : eL Tryz.prog 174 = some (.agg #[.pointer none, .nilFunc, .nilFunc, .map none]) := by kernel_rfl
theorem wm : (Tryz.prog.info? 102).map (·.size) = some 1 := by kernel_rfl
theorem B7 : (Tryz.prog.info? 167).map (·.size) = some 1 := by kernel_rfl
theorem Ck : (Tryz.prog.info? 168).map (·.size) = some 1 := by kernel_rfl
theorem CW : (Tryz.prog.info? 172).map (·.size) = some 1 := by kernel_rfl
theorem qy {f : Nat → Value} {w : World} {d : Option Nat} {ty : TypeId} {ps : String} {af : Array Edge} {g : Option (Nat × Bool)} {x0 x1 x2 x3 : Operand} {c0_0 c1_0 c2_0 c3_0 : Value} (h0 : dO f x0 = c0_0) (k0 : c0_0.cells = #[c0_0]) (h1 : dO f x1 = c1_0) (k1 : c1_0.cells = #[c1_0]) (h2 : dO f x2 = c2_0) (k2 : c2_0.cells = #[c2_0]) (h3 : dO f x3 = c3_0) (k3 : c3_0.cells = #[c3_0]) :
    (execOp (dO f) ⟨d, .build 174 #[(0, x0), (1, x1), (2, x2), (3, x3)], ty, ps, af, g⟩).run Tryz.prog w = .ok (.value (.agg #[c0_0, c1_0, c2_0, c3_0])) w := by
  obtain ⟨i0, hi0, hz0⟩ := Option.bind_eq_some_iff.1 (show (Tryz.prog.info? 174).bind (·.zero) = _ from LY)
  obtain ⟨j102, hj102, hs102⟩ := Option.map_eq_some_iff.1 wm
  obtain ⟨j167, hj167, hs167⟩ := Option.map_eq_some_iff.1 B7
  obtain ⟨j168, hj168, hs168⟩ := Option.map_eq_some_iff.1 Ck
  obtain ⟨j172, hj172, hs172⟩ := Option.map_eq_some_iff.1 CW
  simp [execOp, h0, k0, h1, k1, h2, k2, h3, k3, Instr.build, zeroValue, typeInfo, sizeOf, hi0, hz0, run_underlying Tryz.underlying174, Instr.fill, eW, hj102, hs102, hj167, hs167, hj168, hs168, hj172, hs172]
theorem gP : Gg Tryz.prog 170 = some (2, 1) := by kernel_rfl
theorem uD : dC Tryz.prog 124 = true := by kernel_rfl
theorem Cr : fx Tryz.prog 174 1 = some 1 := by kernel_rfl
theorem I1 : fp Tryz.prog 167 = true := by kernel_rfl
theorem vz : fx Tryz.prog 174 3 = some 3 := by kernel_rfl
theorem AH : fp Tryz.prog 172 = true := by kernel_rfl
theorem uB : eL Tryz.prog 170 = some (.agg #[.int .i64 0, .int .i64 0]) := by kernel_rfl
theorem iT {f : Nat → Value} {w : World} {d : Option Nat} {ty : TypeId} {ps : String} {af : Array Edge} {g : Option (Nat × Bool)} {x0 x1 : Operand} {c0_0 c1_0 : Value} (h0 : dO f x0 = c0_0) (k0 : c0_0.cells = #[c0_0]) (h1 : dO f x1 = c1_0) (k1 : c1_0.cells = #[c1_0]) :
    (execOp (dO f) ⟨d, .build 170 #[(0, x0), (1, x1)], ty, ps, af, g⟩).run Tryz.prog w = .ok (.value (.agg #[c0_0, c1_0])) w := by
  obtain ⟨i0, hi0, hz0⟩ := Option.bind_eq_some_iff.1 (show (Tryz.prog.info? 170).bind (·.zero) = _ from uB)
  obtain ⟨j3, hj3, hs3⟩ := Option.map_eq_some_iff.1 ik
  simp [execOp, h0, k0, h1, k1, Instr.build, zeroValue, typeInfo, sizeOf, hi0, hz0, run_underlying Tryz.underlying170, Instr.fill, eW, hj3, hs3]
theorem zX : lK Tryz.prog 172 = some (170, 3) := by kernel_rfl
theorem HX {f : Nat → Value} {w : World} {d : Option Nat} {ty t2 : TypeId} {ps : String} {af : Array Edge} {g : Option (Nat × Bool)} {x y : Operand} {a0 a1 b0 b1 : Int} (hx : dO f x = .agg #[.int .i64 a0, .int .i64 a1]) (hy : dO f y = .agg #[.int .i64 b0, .int .i64 b1]) :
    (execOp (dO f) ⟨d, .binOp .eql 170 x y t2, ty, ps, af, g⟩).run Tryz.prog w = .ok (.value (.bool (decide ((a0 = b0 ∧ a1 = b1))))) w := by
  have hg : Tryz.prog.eqGuardType Tryz.prog.depth 170 = false := by kernel_rfl
  have ha := oP (P := Tryz.prog) w 9999 2 170 3 #[.int .i64 a0, .int .i64 a1] #[.int .i64 b0, .int .i64 b1]
    (fun i => .int .i64 ([a0, a1].getD i 0)) (fun i => .int .i64 ([b0, b1].getD i 0)) (fun i => [a0, a1].getD i 0 == [b0, b1].getD i 0) Tryz.underlying170 (by kernel_rfl) (by simp [isAgg, run_underlying Tryz.underlying3])
    (fun i hi => by
      have : i = 0 ∨ i = 1 := by omega
      rcases this with rfl | rfl <;> rfl)
    (fun i hi => by
      have : i = 0 ∨ i = 1 := by omega
      rcases this with rfl | rfl <;> rfl)
    (fun i hi => run_equalIn_int w 9998 3 .i64 .i64 _ _ Tryz.underlying3)
  simp only [execOp, hx, hy, Sem.run_bind, run_eqGuard_agg _ _ _ _ _ _ _ hg, Result.andThen_ok, run_eql_struct, ha]
  simp [List.range, List.range.loop]
  by_cases q0 : a0 = b0 <;> by_cases q1 : a1 = b1 <;> simp [q0, q1]
theorem xE : oS Tryz.prog 170 (fun v => ∃ a : (Nat × Nat), v = ob a) := by
  refine nG Tryz.underlying170 ?_ ?_ ?_ ?_
  · rintro w _ _ ⟨a, rfl⟩ ⟨c, rfl⟩
    have hg : Tryz.prog.eqGuardType Tryz.prog.depth 170 = false := by kernel_rfl
    refine ⟨_, ql hg (HX rfl rfl), ?_⟩
    rw [decide_eq_true_eq]
    constructor
    · rintro ⟨h1, h2⟩
      exact congrArg _ (Prod.ext (by omega) (by omega))
    · intro h
      rw [ww _ _ h]
      exact ⟨rfl, rfl⟩
  · rintro _ _ ⟨a, rfl⟩ ⟨c, rfl⟩
    exact .inl rfl
  · rintro w em _ ⟨a, rfl⟩
    obtain ⟨j0, hj0, hs0⟩ := Option.map_eq_some_iff.1 (show (Tryz.prog.info? 3).map (·.size) = some 1 by kernel_rfl)
    have h2 : ∀ k, (Instr.checkKey em (k + 1 + 1) 170 (ob a)).run Tryz.prog w = .ok () w := fun k => by
      simp [ob, Instr.checkKey, part, isAgg, sizeOf, typeInfo, hj0, hs0, run_underlying Tryz.underlying170, run_underlying Tryz.underlying3, List.range']
    exact h2 9998
  · rintro _ ⟨a, rfl⟩
    simp [ob, Instr.sameBits]
theorem kX : fx Tryz.prog 174 0 = some 0 := by kernel_rfl
theorem ii : fp Tryz.prog 102 = true := by kernel_rfl
theorem EE : dC Tryz.prog 134 = true := by kernel_rfl
theorem C7 : fx Tryz.prog 174 2 = some 2 := by kernel_rfl
theorem Jf : fp Tryz.prog 168 = true := by kernel_rfl
theorem vE : kY Tryz.prog 170 = some 2 := by kernel_rfl
theorem EA : dC Tryz.prog 135 = true := by kernel_rfl
theorem Lj : dC Tryz.prog 131 = true := by kernel_rfl
theorem La : dC Tryz.prog 132 = true := by kernel_rfl
theorem LC : dC Tryz.prog 126 = true := by kernel_rfl
theorem DH : dC Tryz.prog 121 = true := by kernel_rfl
theorem yG : dC Tryz.prog 119 = true := by kernel_rfl
theorem Ld : dC Tryz.prog 120 = true := by kernel_rfl
theorem pR (f g : Nat) (w : World) :
    Fn Tryz.prog 126 #[.int .i64 (f : Int), .int .i64 (g : Int)] w fun v w' => v = .tuple #[.int .i64 ((nI.ends f g).1 : Int), .bool (nI.ends f g).2] := by
 refine dq (n := 17) Tryz.func126 rfl rfl (Nat.le_of_ble_eq_true rfl) ?_
 have hB : Below w.heap.size w w := Below.refl _ _
 refine Zr <| Zw (.int .i64 0) rfl <| Zw (.bool false) rfl <| cT <| cY fun K3 c => Zr <| Zi rfl <| Zv (eB rfl rfl) <| ZX rfl (fun a => ?_) fun a => ?_
 refine Zs <| Zs <| Zs <| Zw (.bool true) rfl <| cT <| dz rfl <| Zr <| Zi rfl <| Zi rfl <| Zw (.bool true) rfl <| cT <| Zt <| dZ (v := .int .i64 _) rfl (v1 := .bool true) rfl ⟨hB, ?_⟩
 first | exact F2 (.inl a) | exact F2 (.inr b) | exact NP a b
 refine Zi rfl <| Zi rfl <| Zv (eB rfl rfl) <| Zb rfl <| cT <| ZQ rfl (fun b => ?_) fun b => ?_
 refine Zr <| Zi rfl <| Zi rfl <| Zw (.bool true) rfl <| cT <| Zt <| dZ (v := .int .i64 _) rfl (v1 := .bool true) rfl ⟨hB, ?_⟩
 first | exact F2 (.inl a) | exact F2 (.inr b) | exact NP a b
 refine c9 <| c _ _ <| Zr <| Zi rfl <| Zi rfl <| Zv (eB rfl rfl) <| Zi rfl <| Zb rfl <| cT <| Zt <| dZ (v := .int .i64 _) rfl (v1 := .bool _) rfl ⟨hB, ?_⟩
 first | exact F2 (.inl a) | exact F2 (.inr b) | exact NP a b
theorem qE (f g : Nat) (w : World) :
    Fn Tryz.prog 120 #[.int .i64 (f : Int), .int .i64 (g : Int)] w fun v w' => v = .tuple #[.int .i64 ((sQ.ends f g).1 : Int), .bool (sQ.ends f g).2] := by
 refine dq (n := 16) Tryz.func120 rfl rfl (Nat.le_of_ble_eq_true rfl) ?_
 have hB : Below w.heap.size w w := Below.refl _ _
 refine Zr <| Zw (.int .i64 0) rfl <| Zw (.bool false) rfl <| cT <| cY fun K3 c => Zr <| Zi rfl <| Zv (eB rfl rfl) <| ZX rfl (fun a => ?_) fun a => ?_
 refine Zs <| Zs <| Zs <| Zw (.bool true) rfl <| cT <| dz rfl <| Zr <| Zw (.int .i64 0) rfl <| Zw (.bool true) rfl <| cT <| Zt <| dZ (v := .int .i64 0) rfl (v1 := .bool true) rfl ⟨hB, ?_⟩
 first | exact FE (.inl a) | exact FE (.inr b) | exact Oh a b
 refine Zi rfl <| Zi rfl <| Zv (eB rfl rfl) <| Zb rfl <| cT <| ZQ rfl (fun b => ?_) fun b => ?_
 refine Zr <| Zw (.int .i64 0) rfl <| Zw (.bool true) rfl <| cT <| Zt <| dZ (v := .int .i64 0) rfl (v1 := .bool true) rfl ⟨hB, ?_⟩
 first | exact FE (.inl a) | exact FE (.inr b) | exact Oh a b
 refine c9 <| c _ _ <| Zr <| Zi rfl <| Zi rfl <| Zv (eB rfl rfl) <| Zi rfl <| Zb rfl <| cT <| Zt <| dZ (v := .int .i64 _) rfl (v1 := .bool _) rfl ⟨hB, ?_⟩
 first | exact FE (.inl a) | exact FE (.inr b) | exact Oh a b
theorem qF (f g : Nat) (w : World) :
    Fn Tryz.prog 122 #[.int .i64 (f : Int), .int .i64 (g : Int)] w fun v w' => v = .tuple #[.int .i64 ((qa.ends f g).1 : Int), .bool (qa.ends f g).2] := by
 refine dq (n := 20) Tryz.func122 rfl rfl (Nat.le_of_ble_eq_true rfl) ?_
 have hB : Below w.heap.size w w := Below.refl _ _
 refine Zr <| Zw (.int .i64 0) rfl <| Zw (.bool false) rfl <| cT <| cY fun K3 d => c7 <| Zr <| Zi rfl <| Zv (eB rfl rfl) <| ZX rfl (fun a => ?_) fun a => ?_
 refine Zs <| Zs <| Zw (.bool true) rfl <| Zw (.bool true) rfl <| cT <| dz rfl <| Zr <| Zw (.int .i64 0) rfl <| Zw (.bool true) rfl <| cT <| Zt <| dZ (v := .int .i64 0) rfl (v1 := .bool true) rfl ⟨hB, ?_⟩
 first | exact zV (.inl a) | exact zV (.inr b) | exact Lo a b c | exact K1 a b c
 refine Zi rfl <| Zv (eB rfl rfl) <| Zb rfl <| Zb rfl <| cT <| ZQ rfl (fun b => ?_) fun b => ?_
 refine Zr <| Zw (.int .i64 0) rfl <| Zw (.bool true) rfl <| cT <| Zt <| dZ (v := .int .i64 0) rfl (v1 := .bool true) rfl ⟨hB, ?_⟩
 first | exact zV (.inl a) | exact zV (.inr b) | exact Lo a b c | exact K1 a b c
 refine Zr <| Zi rfl <| Zv (eB rfl rfl) <| Zb rfl <| cT <| ZQ rfl (fun c => ?_) fun c => ?_
 refine Zr <| Zi rfl <| Zi rfl <| Zw (.bool true) rfl <| cT <| Zt <| dZ (v := .int .i64 _) rfl (v1 := .bool true) rfl ⟨hB, ?_⟩
 first | exact zV (.inl a) | exact zV (.inr b) | exact Lo a b c | exact K1 a b c
 refine c9 <| d _ _ <| Zr <| Zi rfl <| Zi rfl <| Zv (eB rfl rfl) <| Zi rfl <| Zb rfl <| cT <| Zt <| dZ (v := .int .i64 _) rfl (v1 := .bool _) rfl ⟨hB, ?_⟩
 first | exact zV (.inl a) | exact zV (.inr b) | exact Lo a b c | exact K1 a b c
def Pv (ge : Nat) (o : Op) : Prop := ∀ (f g : Nat) (w : World), Fn Tryz.prog ge #[.int .i64 (f : Int), .int .i64 (g : Int)] w fun v w' => v = .tuple #[.int .i64 ((o.ends f g).1 : Int), .bool (o.ends f g).2]
def yS (ge gh : Nat) (o : Op) (n : Nat) : Prop := ∀ (N ba bm bz bd bx R : Nat) (ns : List Nd) (dl : List ((Nat × Nat) × Int)) (f g : Nat) (w : World), N ≤ w.heap.size → At w bz #[.pointer (some ⟨ba, 0, none⟩)] 141 → At w bd #[.pointer (some ⟨bz, 0, none⟩), .func (.func ge) #[] #[], .func (.func gh) #[] #[], .map (some bx)] 174 → fD 163 188 N ba bm R w ns → dR ob eK w bx dl → qz o.res ns dl → N ≤ bx → bx ≠ bm → f < ns.length + 2 → g < ns.length + 2 → 25 - min (d8 ns f) (d8 ns g) ≤ n →
  qJ Tryz.prog 124 #[.pointer (some ⟨bd, 0, none⟩), .int .i64 (f : Int), .int .i64 (g : Int)] w fun v w' => PD 163 188 N ba bm R bx o.res w ns (o.cst ns f g) (min (d8 ns f) (d8 ns g)) (o.res (M ns f) (M ns g)) v w'
def Qk (ge gh : Nat) (o : Op) (n : Nat) : Prop := ∀ (N ba bm bz bd bx R : Nat) (ns : List Nd) (dl : List ((Nat × Nat) × Int)) (f0 f1 g0 g1 l : Nat) (w : World), N ≤ w.heap.size → At w bz #[.pointer (some ⟨ba, 0, none⟩)] 141 → At w bd #[.pointer (some ⟨bz, 0, none⟩), .func (.func ge) #[] #[], .func (.func gh) #[] #[], .map (some bx)] 174 → fD 163 188 N ba bm R w ns → dR ob eK w bx dl → qz o.res ns dl → N ≤ bx → bx ≠ bm → f0 < ns.length + 2 → f1 < ns.length + 2 → g0 < ns.length + 2 → g1 < ns.length + 2 → l < d8 ns f0 → l < d8 ns f1 → l < d8 ns g0 → l < d8 ns g1 → l < 24 → 24 - l ≤ n →
  qJ Tryz.prog gh #[.pointer (some ⟨bd, 0, none⟩), .agg #[.int .i64 (f0 : Int), .int .i64 (f1 : Int)], .agg #[.int .i64 (g0 : Int), .int .i64 (g1 : Int)]] w fun v w' => PD 163 188 N ba bm R bx o.res w ns (o.hcst ns l f0 f1 g0 g1) (l + 1) (o.resH (M ns f0) (M ns f1) (M ns g0) (M ns g1)) v w'
theorem sG (bz ge gh : Nat) (w : World) :
    Fn Tryz.prog 132 #[.pointer (some ⟨bz, 0, none⟩), .func (.func ge) #[] #[], .func (.func gh) #[] #[]] w fun v w' => ∃ bd bx, v = .func (.func 124) #[.pointer (some ⟨bd, 0, none⟩)] #[] ∧ At w' bd #[.pointer (some ⟨bz, 0, none⟩), .func (.func ge) #[] #[], .func (.func gh) #[] #[], .map (some bx)] 174 ∧ dR ob eK w' bx ([] : List ((Nat × Nat) × Int)) ∧ w.heap.size ≤ bd ∧ w.heap.size ≤ bx := by
 refine dq (n := 16) Tryz.func132 rfl rfl (Nat.le_of_ble_eq_true rfl) ?_
 have hB : Below w.heap.size w w := Below.refl _ _
 refine Zr <| Zw _ rfl <| cT <| Zr <| Zp rfl <| Zw (.func _ _ _) rfl <| Zw (.func _ _ _) rfl <| Zy (gE (enc := ob) (encV := eK) fun g W5 d h a => ?_)
 have i := ZO d hB
 clear d
 replace hB := Ze hB h
 refine Zv (qy (h0 := rfl) (k0 := rfl) (h1 := rfl) (k1 := rfl) (h2 := rfl) (k2 := rfl) (h3 := rfl) (k3 := rfl) (c0_0 := .pointer (some ⟨bz, 0, none⟩)) (c1_0 := .func _ _ _) (c2_0 := .func _ _ _) (c3_0 := .map (some g))) <| Zy (dU (c := #[_, _, _, _]) rfl rfl fun b W8 e f j => ?_)
 have k := ZO e hB
 clear e
 replace hB := Ze hB f
 replace a := f.mapT a
 refine Zp rfl <| cT <| Zr <| Zp rfl <| Zv (BO (v := .pointer (some ⟨b, 0, none⟩)) rfl) <| Zw (.func (.func 124) #[.pointer (some ⟨b, 0, none⟩)] #[]) rfl <| cT <| Zt <| dE (v := .func (.func 124) #[.pointer (some ⟨b, 0, none⟩)] #[]) rfl ⟨hB, ?_⟩
 exact ⟨_, _, rfl, j, a, k, i⟩
theorem Es (ge n : Nat) (o : Op) (N ba bm bz bd bx R : Nat) (ns : List Nd) (dl : List ((Nat × Nat) × Int)) (f0 f1 g0 g1 l : Nat) (w : World) (hoh : ∀ ns l f0 f1 g0 g1, o.hcst ns l f0 f1 g0 g1 = o.cst ns f1 g1) (hor : ∀ A0 A1 B0 B1, o.resH A0 A1 B0 B1 = o.res A1 B1) (ih : yS ge 121 o n) (hN0 : N ≤ w.heap.size) (hz : At w bz #[.pointer (some ⟨ba, 0, none⟩)] 141) (hbd : At w bd #[.pointer (some ⟨bz, 0, none⟩), .func (.func ge) #[] #[], .func (.func 121) #[] #[], .map (some bx)] 174) (hD : fD 163 188 N ba bm R w ns) (hdn : dR ob eK w bx dl) (hdone : qz o.res ns dl) (lox : N ≤ bx) (hxm : bx ≠ bm) (v0 : f0 < ns.length + 2) (v1 : f1 < ns.length + 2) (v2 : g0 < ns.length + 2) (v3 : g1 < ns.length + 2) (k0 : l < d8 ns f0) (k1 : l < d8 ns f1) (k2 : l < d8 ns g0) (k3 : l < d8 ns g1) (h24 : l < 24) (hn : 24 - l ≤ n) :
    qJ Tryz.prog 121 #[.pointer (some ⟨bd, 0, none⟩), .agg #[.int .i64 (f0 : Int), .int .i64 (f1 : Int)], .agg #[.int .i64 (g0 : Int), .int .i64 (g1 : Int)]] w fun v w' => PD 163 188 N ba bm R bx o.res w ns (o.hcst ns l f0 f1 g0 g1) (l + 1) (o.resH (M ns f0) (M ns f1) (M ns g0) (M ns g1)) v w' := by
 refine eX (n := 16) Tryz.func121 rfl rfl (Nat.le_of_ble_eq_true rfl) ?_
 have hB : Below N w w := Below.refl _ _
 have hX : Dx 188 N [bx, ba, bm] w w := Dx.refl
 refine Zr <| Zy (dU (c := #[_, _]) rfl rfl fun i W3 h b d => ?_)
 have q : N ≤ i := h ▸ (Nat.le_trans hN0 (Below.size hB))
 clear h
 replace hz := b.at hz
 replace hbd := b.at hbd
 replace hD := fD.ext b hD
 replace hdn := b.mapT hdn
 replace hX := Dx.trans hX (Dx.ext b)
 replace hB := dF hB b hN0
 refine Zy (dU (c := #[_, _]) rfl rfl fun j W6 f a g => ?_)
 have r : N ≤ j := f ▸ (Nat.le_trans hN0 (Below.size hB))
 have s := Zn f d.lt
 clear f
 replace hz := a.at hz
 replace hbd := a.at hbd
 replace hD := fD.ext a hD
 replace hdn := a.mapT hdn
 replace hX := Dx.trans hX (Dx.ext a)
 replace hB := dF hB a hN0
 replace d := a.at d
 refine Zw (.int .i64 0) rfl <| Zw (.int .i64 0) rfl <| cT <| Zr <| Zp rfl <| Zv (e7 rfl rfl gP Om Om) <| Zl rfl dB d rfl <| Zv (e7 rfl rfl gP Om Om) <| Zl rfl dB g rfl <| ZH uD (ih N ba bm bz bd bx R ns dl f1 g1 _ (Nat.le_trans hN0 (Below.size hB)) hz hbd hD hdn hdone lox hxm v1 v3 Om) rfl fun t u k => ?_
 obtain ⟨x, y, z, dl1_5, rfl, e, m, p, hdn1_5, hdone1_5⟩ := k
 replace hz := At.dxm hD hdn e hz Dd Dd
 replace hbd := At.dxm hD hdn e hbd Dd Dd
 replace hX := Dx.trans hX e
 replace hB := Below.dx hB (Nat.le_refl _) hN0 e
 replace d := At.dxm hD hdn e d Dd Dd
 replace g := At.dxm hD hdn e g Dd Dd
 replace hD := m
 replace hdn := hdn1_5
 replace hdone := hdone1_5
 refine Zv (dI rfl) <| Zv (dK rfl) <| Zi rfl <| Zi rfl <| cT <| Zt <| dZ (v := .int .i64 _) rfl (v1 := .int .i64 _) rfl ?_
 rw [hor, hoh]
 exact ⟨_, _, _, _, rfl, hX, hD, p.low Om, hdn, hdone⟩
set_option maxRecDepth 10000 in
theorem Qw (ge gh n : Nat) (o : Op) (N ba bm bz bd bx R : Nat) (ns : List Nd) (dl : List ((Nat × Nat) × Int)) (f g : Nat) (w : World) (hO : FN o) (hE : Pv ge o) (hcE : dC Tryz.prog ge = true) (hcH : dC Tryz.prog gh = true) (ih : yS ge gh o n) (hH : Qk ge gh o n) (hN0 : N ≤ w.heap.size) (hz : At w bz #[.pointer (some ⟨ba, 0, none⟩)] 141) (hbd : At w bd #[.pointer (some ⟨bz, 0, none⟩), .func (.func ge) #[] #[], .func (.func gh) #[] #[], .map (some bx)] 174) (hD : fD 163 188 N ba bm R w ns) (hdn : dR ob eK w bx dl) (hdone : qz o.res ns dl) (lox : N ≤ bx) (hxm : bx ≠ bm) (hf : f < ns.length + 2) (hg : g < ns.length + 2) (hn : 25 - min (d8 ns f) (d8 ns g) ≤ n + 1) :
    qJ Tryz.prog 124 #[.pointer (some ⟨bd, 0, none⟩), .int .i64 (f : Int), .int .i64 (g : Int)] w fun v w' => PD 163 188 N ba bm R bx o.res w ns (o.cst ns f g) (min (d8 ns f) (d8 ns g)) (o.res (M ns f) (M ns g)) v w' := by
 refine eX (n := 130) Tryz.func124 rfl rfl (Nat.le_of_ble_eq_true rfl) ?_
 have hB : Below N w w := Below.refl _ _
 have hX : Dx 188 N [bx, ba, bm] w w := Dx.refl
 have hwf := hD.wf
 have hroom := hD.room
 have htop := hD.top
 refine Zr <| Zw (.int .i64 0) rfl <| Zw (.int .i64 0) rfl <| cT <| cY fun K3 af => Zr <| Zp rfl <| Zc rfl <| Zf rfl Cr <| ZL (.func (.func ge) #[] #[]) rfl I1 hbd rfl <| Zi rfl <| Zi rfl ?_
 refine qp (dd := some 26) rfl rfl rfl (vQ (q := ge) rfl hcE (v0 := .int .i64 _) rfl (v1 := .int .i64 _) rfl) (hE _ _ _) (fun aF W7 p ag => ?_)
 replace hz := p.at hz
 replace hbd := p.at hbd
 replace hD := fD.ext p hD
 replace hdn := p.mapT hdn
 replace hX := Dx.trans hX (Dx.ext p)
 replace hB := dF hB p hN0
 obtain rfl := ag
 refine Zw (.tuple #[.int .i64 _, .bool _]) rfl <| Zv (dI rfl) <| Zv (dK rfl) <| Zi rfl <| Zb rfl <| cT <| Zr <| Zb rfl <| cT <| ZQ rfl (fun u => ?_) fun u => ?_
 refine Zr <| Zi rfl <| Zi rfl <| Zw (.int .i64 0) rfl <| cT <| Zt <| dZ (v := .int .i64 _) rfl (v1 := .int .i64 0) rfl ?_
 obtain ⟨e1, e2, e3⟩ := hO.endT ns f g hwf hf hg u
 exact ⟨ns, _, 0, dl, rfl, hX, hD, jv.same e1 e2 e3, hdn, hdone⟩
 refine c9 <| af _ _ <| cY fun aG ah => Zr <| Zp rfl <| Zc rfl <| Zf rfl vz <| ZL (.map (some bx)) rfl AH hbd rfl <| Zi rfl <| Zi rfl <| Zv (iT (h0 := rfl) (k0 := rfl) (h1 := rfl) (k1 := rfl) (c0_0 := .int .i64 _) (c1_0 := .int .i64 _)) <| Zv (xV (enc := ob) (encV := eK) (v0 := 0) (k := (f, g)) rfl rfl zX xE (fun a => ⟨a, rfl⟩) ww tN rfl hdn) <| Zw (.tuple #[.int .i64 _, .bool _]) rfl <| Zv (dI rfl) ?_
 refine Zv (dK rfl) <| Zi rfl <| Zb rfl <| cT <| Zr <| Zb rfl <| cT <| ZQ rfl (fun J => ?_) fun J => ?_
 refine Zr <| Zi rfl <| Zi rfl <| Zw (.int .i64 0) rfl <| cT <| Zt <| dZ (v := .int .i64 _) rfl (v1 := .int .i64 0) rfl ?_
 obtain ⟨id, he, i1, i2, i3⟩ := Gz hdone J
 rw [he]
 exact ⟨ns, id, 0, dl, rfl, hX, hD, jv.same i1 i2 i3, hdn, hdone⟩
 refine c9 <| ah _ _ ?_
 have A := hB
 replace hB := Below.refl W7.heap.size W7
 obtain ⟨f0, g0, fg⟩ := hO.endF f g u
 have hlf := mE hwf hf
 have hlg := mE hwf hg
 have h24' : min (d8 ns f) (d8 ns g) < 24 := by
   by_cases q : 2 ≤ f
   · have := np hwf hf q; omega
   · have := np hwf hg (by omega); omega
 refine Zd eo fun ai aj => ?_
 replace hB := Ze hB aj
 have hS := eo.refl ai
 refine Tq 0 rfl rfl hS <| Tc 1 rfl rfl hS <| Tf 2 rfl rfl kX hS <| Tk 3 rfl (fun _ hq => dk (v := .pointer (some ⟨bz, 0, none⟩)) rfl ii (At.cell (hq.at (Below.atI hB hbd)) rfl)) hS <| Ti 4 rfl rfl hS <| Tq 6 rfl rfl hS <| Tc 7 rfl rfl hS <| Tf 8 rfl rfl kX hS <| Tk 9 rfl (fun _ hq => dk (v := .pointer (some ⟨bz, 0, none⟩)) rfl ii (At.cell (hq.at (Below.atI hB hbd)) rfl)) hS <| Ti 10 rfl rfl hS <| To 5 rfl (TC zH (jW _ _ _ _ _ _ _ _ (Below.atI hB hz) (fD.below hB hD) (by first | assumption | omega)) rfl fun aH aI B K => ⟨.inl (hS.trans B), ?_⟩)
 replace hB := Ze hB B
 replace hS := hS.trans B
 rw [AX hf] at K
 obtain rfl := K
 refine To 11 rfl (TC zH (jW _ _ _ _ _ _ _ _ (Below.atI hB hz) (fD.below hB hD) (by first | assumption | omega)) rfl fun aJ aK C L => ⟨.inl (hS.trans C), ?_⟩)
 replace hB := Ze hB C
 replace hS := hS.trans C
 rw [AX hg] at L
 obtain rfl := L
 refine q8 (dd := some 56) 12 (by kernel_rfl) rfl rfl rfl rfl (Yd.val (MX rfl rfl) ⟨.inl hS, ?_⟩)
 refine Ti 13 rfl rfl hS <| Td ?_
 generalize hl : min (d8 ns f) (d8 ns g) = l at h24'
 have H1 := gZ hwf hf (l := l) (by omega) h24'
 have H2 := gZ hwf hg (l := l) (by omega) h24'
 have hn1 := List.length_pos_of_mem (iv hwf f hf f0).choose_spec
 have hn2 := List.length_pos_of_mem (iv hwf g hg g0).choose_spec
 have hla := mE hwf H1.va
 have hlb := mE hwf H2.va
 have vla := H1.la
 have vlb := H2.la
 have hco := hO.cost ns f g l hwf hf hg u hl.symm h24'
 refine Zr <| Zy (dt uB rfl fun aL aM O ak c => ?_)
 have x := ZO O hB
 clear O
 replace hB := Ze hB ak
 refine Zy (dt uB rfl fun aN aO D P d => ?_)
 have y := ZO D hB
 have z := Zn D c.lt
 clear D
 replace hB := Ze hB P
 replace c := P.at c
 refine cT <| Zr <| Zp rfl <| Zc rfl <| Zf rfl kX <| ZL (.pointer (some ⟨bz, 0, none⟩)) rfl ii (Below.atI hB hbd) rfl <| Zi rfl <| Zi rfl <| ZC EE (lH _ _ _ _ _ _ _ _ _ (Below.atI hB hz) (fD.below hB hD) (by first | assumption | omega)) rfl fun aP aQ E al => ?_
 replace hB := Ze hB E
 replace c := E.at c
 replace d := E.at d
 obtain rfl := al
 refine Zw (.tuple #[.int .i64 _, .int .i64 _]) rfl <| Zv (dI rfl) <| Zv (dK rfl) <| Zv (e7 rfl rfl gP Om Om) <| Zy (eC (v := .int .i64 _) rfl rfl dB rfl c (by show 0 < 2; decide) fun aR Q ao => ?_)
 replace hB := Zg hB Q x
 replace d := At.grownNe d (Ne.symm z) Q
 replace c := ao
 replace c : At _ _ #[_, _] _ := c
 refine Zv (e7 rfl rfl gP Om Om) <| Zy (eC (v := .int .i64 _) rfl rfl dB rfl c (by show 1 < 2; decide) fun aS S ap => ?_)
 replace hB := Zg hB S x
 replace d := At.grownNe d (Ne.symm z) S
 replace c := ap
 replace c : At _ _ #[_, _] _ := c
 refine cT <| Zr <| Zp rfl <| Zc rfl <| Zf rfl kX <| ZL (.pointer (some ⟨bz, 0, none⟩)) rfl ii (Below.atI hB hbd) rfl <| Zi rfl <| Zi rfl <| ZC EE (lH _ _ _ _ _ _ _ _ _ (Below.atI hB hz) (fD.below hB hD) (by first | assumption | omega)) rfl fun aT aU F aq => ?_
 replace hB := Ze hB F
 replace c := F.at c
 replace d := F.at d
 obtain rfl := aq
 refine Zw (.tuple #[.int .i64 _, .int .i64 _]) rfl <| Zv (dI rfl) <| Zv (dK rfl) <| Zv (e7 rfl rfl gP Om Om) <| Zy (eC (v := .int .i64 _) rfl rfl dB rfl d (by show 0 < 2; decide) fun aV T ar => ?_)
 replace hB := Zg hB T y
 replace c := At.grownNe c z T
 replace d := ar
 replace d : At _ _ #[_, _] _ := d
 refine Zv (e7 rfl rfl gP Om Om) <| Zy (eC (v := .int .i64 _) rfl rfl dB rfl d (by show 1 < 2; decide) fun aW U au => ?_)
 replace hB := Zg hB U y
 replace c := At.grownNe c z U
 replace d := au
 replace d : At _ _ #[_, _] _ := d
 refine cT ?_
 replace hz := Below.atI hB hz
 replace hbd := Below.atI hB hbd
 replace hD := fD.below hB hD
 replace hdn := Below.mapI hB hdn
 replace hX := Dx.trans hX (Dx.below hB)
 have hzs := Nat.le_trans hN0 (Below.size A)
 replace x := Nat.le_trans hzs x
 replace y := Nat.le_trans hzs y
 replace hB := Below.trans A (Below.mono hB hzs)
 clear A hzs
 refine Zr <| Zp rfl <| Zv (e7 rfl rfl gP Om Om) <| Zl rfl dB c rfl <| Zv (e7 rfl rfl gP Om Om) <| Zl rfl dB d rfl <| ZH uD (ih N ba bm bz bd bx R ns dl (dV ns f l) (dV ns g l) _ (Nat.le_trans hN0 (Below.size hB)) hz hbd hD hdn hdone lox hxm H1.va H2.va Om) rfl fun aX aY av => ?_
 obtain ⟨V, W, X, dl11_5, rfl, r, aw, e, hdn11_5, hdone11_5⟩ := av
 replace hz := At.dxm hD hdn r hz Dd Dd
 replace hbd := At.dxm hD hdn r hbd Dd Dd
 replace hX := Dx.trans hX r
 replace hB := Below.dx hB (Nat.le_refl _) hN0 r
 replace c := At.dxm hD hdn r c Dd Dd
 replace d := At.dxm hD hdn r d Dd Dd
 replace hD := aw
 replace hdn := hdn11_5
 replace hdone := hdone11_5
 refine Zw (.tuple #[.int .i64 (W : Int), .int .i64 X]) rfl <| Zv (dI rfl) <| Zv (dK rfl) <| Zi rfl <| Zi rfl <| cT <| cY fun aZ ax => Zr <| Zi rfl <| Zv (f7 rfl rfl) <| cT <| ZQ rfl (fun G => ?_) fun G => ?_
 refine Zr <| Zi rfl <| Zw (.int .i64 0) rfl <| Zi rfl <| cT <| Zt <| dZ (v := .int .i64 0) rfl (v1 := .int .i64 _) rfl ?_
 try rw [hl]
 exact ⟨_, 0, _, _, rfl, hX, hD, e.fail G Om, hdn, hdone⟩
 refine c9 <| ax _ _ ?_
 have he1 : X = 0 := Decidable.of_not_not G
 subst he1
 obtain ⟨a1, a2, a3⟩ := e.old H1.va
 obtain ⟨b1, b2, b3⟩ := e.old H1.vb
 obtain ⟨c1, c2, c3⟩ := e.old H2.va
 obtain ⟨d1, d2, d3⟩ := e.old H2.vb
 obtain ⟨o1, o2, _⟩ := e.ok rfl
 have vlc := H1.lb
 have vld := H2.lb
 refine Zd (fun a b => Dx 188 N [bx, ba, bm] a b) fun Y h => ?_
 replace hz := h.at hz
 replace hbd := h.at hbd
 replace hD := fD.ext h hD
 replace hdn := h.mapT hdn
 replace hX := Dx.trans hX (Dx.ext h)
 replace hB := dF hB h hN0
 replace c := h.at c
 replace d := h.at d
 have hS : Dx 188 N [bx, ba, bm] Y Y := Dx.refl
 refine Tq 0 rfl rfl hS <| Tc 1 rfl rfl hS <| Tf 2 rfl rfl C7 hS <| Tk 3 rfl (fun _ hq => dk (v := .func (.func gh) #[] #[]) rfl Jf (At.cell (At.dxm hD hdn hq hbd Dd Dd) rfl)) hS <| Tq 4 rfl rfl hS <| Tk 5 rfl (fun _ hq => db rfl vE rfl (At.dxm hD hdn hq c Dd Dd)) hS <| Tk 6 rfl (fun _ hq => db rfl vE rfl (At.dxm hD hdn hq d Dd Dd)) hS <| To 7 rfl (Yd.callG (jV (q := gh) (first := #[]) (cap := #[]) (vs := #[.pointer (some ⟨bd, 0, none⟩), .agg #[_, _], .agg #[_, _]]) rfl hcH (by simp only [List.map_toArray, List.map_cons, List.map_nil, List.append_toArray, List.nil_append, List.cons_append]; rfl)) (hH N ba bm bz bd bx R V dl11_5 (dV ns f l) (ee ns f l) (dV ns g l) (ee ns g l) l _ (Nat.le_trans hN0 (Below.size hB)) hz hbd hD hdn hdone lox hxm a1 b1 c1 d1 Om Om Om Om h24' Om) fun a0 a4 H => ⟨.inl (PD.dx H), ?_⟩)
 replace hS := PD.dx H
 obtain ⟨ay, Z, aa, dl14_7, rfl, s, az, t, hdn14_7, hdone14_7⟩ := H
 replace hz := At.dxm hD hdn s hz Dd Dd
 replace hbd := At.dxm hD hdn s hbd Dd Dd
 replace hX := Dx.trans hX s
 replace hB := Below.dx hB (Nat.le_refl _) hN0 s
 replace c := At.dxm hD hdn s c Dd Dd
 replace d := At.dxm hD hdn s d Dd Dd
 replace hD := az
 replace hdn := hdn14_7
 replace hdone := hdone14_7
 refine Tw 8 (.tuple #[.int .i64 (Z : Int), .int .i64 aa]) rfl rfl hS <| Tk 9 rfl (fun _ _ => dI rfl) hS <| Tk 10 rfl (fun _ _ => dK rfl) hS <| Ti 11 rfl rfl hS <| Ti 12 rfl rfl hS <| Td <| cY fun a5 aA => ?_
 rw [hO.hpre ns V l _ _ _ _ e.pre hwf H1.va H1.vb H2.va H2.vb] at t
 refine Zr <| Zi rfl <| Zv (f7 rfl rfl) <| cT <| ZQ rfl (fun I => ?_) fun I => ?_
 refine Zr <| Zi rfl <| Zw (.int .i64 0) rfl <| Zi rfl <| cT <| Zt <| dZ (v := .int .i64 0) rfl (v1 := .int .i64 _) rfl ?_
 try rw [hl]
 exact ⟨_, 0, _, _, rfl, hX, hD, e.fail2 t I Om, hdn, hdone⟩
 refine c9 <| aA _ _ ?_
 have he2 : aa = 0 := Decidable.of_not_not I
 subst he2
 obtain ⟨p1, p2, _⟩ := t.ok rfl
 obtain ⟨q1, _, q3⟩ := t.old o1
 refine Zr <| Zp rfl <| Zc rfl <| Zf rfl kX <| ZL (.pointer (some ⟨bz, 0, none⟩)) rfl ii hbd rfl <| Zi rfl <| Zi rfl <| Zi rfl <| ZH EA (m0 N ba bm bz R ay l W Z _ (Nat.le_trans hN0 (Below.size hB)) hz hD q1 p1 Om Om h24') rfl fun a6 a7 aB => ?_
 obtain ⟨a8, ab, aC, rfl, m, aD, ac⟩ := aB
 replace hz := At.dx hD m hz Dd Dd
 replace hbd := At.dx hD m hbd Dd Dd
 replace hdn := dR.dx hD m hdn hxm
 replace hX := Dx.trans hX (Dx.toX m)
 replace hB := Below.dx hB (Nat.le_refl _) hN0 m
 replace c := At.dx hD m c Dd Dd
 replace d := At.dx hD m d Dd Dd
 replace hD := aD
 refine Zw (.tuple #[.int .i64 (ab : Int), .int .i64 aC]) rfl <| Zv (dI rfl) <| Zv (dK rfl) <| Zi rfl <| Zi rfl <| cT <| cY fun a9 ad => ?_
 have hgot := NG hO hwf hf hg hl.symm h24' e t (ac.cheap (Nat.min_le_right _ _)) hco
 replace hdone := hdone.pre ac.pre
 refine Zr <| Zi rfl <| Zv (eB rfl rfl) <| cT <| ZQ rfl (fun ae => ?_) fun ae => ?_
 refine cZ <| Zp rfl <| Zc rfl <| Zf rfl vz <| ZL (.map (some bx)) rfl AH hbd rfl <| Zi rfl <| Zi rfl <| Zv (iT (h0 := rfl) (k0 := rfl) (h1 := rfl) (k1 := rfl) (c0_0 := .int .i64 _) (c1_0 := .int .i64 _)) <| Zi rfl ?_
 refine gS (dd := none) rfl rfl rfl (fI (enc := ob) (encV := eK) (k := (f, g)) (v := (ab : Int)) rfl rfl rfl zX xE (fun a => ⟨a, rfl⟩) ww hdn (fun bb i aE => ?_))
 replace hz := At.grownMap hz hdn i
 replace hbd := At.grownMap hbd hdn i
 replace hD := fD.grownMap hD hdn hxm i
 replace hX := Dx.trans hX (Dx.grown i (by simp) lox)
 replace hB := dy hB i hN0 (fun j hj => by cases hj; exact lox)
 replace c := At.grownMap c hdn i
 replace d := At.grownMap d hdn i
 clear i hdn
 replace hdn := aE
 refine cT <| ad _ _ <| Zr <| Zi rfl <| Zi rfl <| Zi rfl <| Zi rfl <| cT <| Zt <| dZ (v := .int .i64 _) rfl (v1 := .int .i64 _) rfl ?_
 try rw [hl]
 exact ⟨_, _, _, _, rfl, hX, hD, hgot, hdn, Il hdone hf hg hl hgot ae⟩
 refine c9 <| ad _ _ <| Zr <| Zi rfl <| Zi rfl <| Zi rfl <| Zi rfl <| cT <| Zt <| dZ (v := .int .i64 _) rfl (v1 := .int .i64 _) rfl ?_
 try rw [hl]
 exact ⟨_, _, _, _, rfl, hX, hD, hgot, hdn, hdone⟩
theorem uZ (ge gh : Nat) (o : Op) (hO : FN o) (hE : Pv ge o) (hcE : dC Tryz.prog ge = true) (hcH : dC Tryz.prog gh = true) (hH : ∀ n, yS ge gh o n → Qk ge gh o n) : ∀ n, yS ge gh o n
  | 0 => fun N ba bm bz bd bx R ns dl f g w _ _ _ hD _ _ _ _ hf _ hn => by
    have := mE hD.wf hf
    omega
  | n + 1 => fun N ba bm bz bd bx R ns dl f g w => Qw ge gh n o N ba bm bz bd bx R ns dl f g w hO hE hcE hcH (uZ ge gh o hO hE hcE hcH hH n) (hH n (uZ ge gh o hO hE hcE hcH hH n))
theorem kh (ge gh : Nat) (o : Op) (N ba bm bz R : Nat) (ns : List Nd) (f g : Nat) (w : World) (hN0 : N ≤ w.heap.size) (hz : At w bz #[.pointer (some ⟨ba, 0, none⟩)] 141) (hD : fD 163 188 N ba bm R w ns) (hf : f < ns.length + 2) (hg : g < ns.length + 2) (hDo : ∀ n, yS ge gh o n) :
    qJ Tryz.prog 119 #[.pointer (some ⟨bz, 0, none⟩), .int .i64 (f : Int), .int .i64 (g : Int), .func (.func ge) #[] #[], .func (.func gh) #[] #[]] w fun v w' => PO 163 188 N ba bm R w ns (o.cst ns f g) (min (d8 ns f) (d8 ns g)) (o.res (M ns f) (M ns g)) v w' := by
 refine eX (n := 27) Tryz.func119 rfl rfl (Nat.le_of_ble_eq_true rfl) ?_
 have hB : Below N w w := Below.refl _ _
 have hX : Dx 188 N [ba, bm] w w := Dx.refl
 have hroom := hD.room
 have htop := hD.top
 refine Zr <| Zw (.int .i64 0) rfl <| Zw (.int .i64 0) rfl <| cT <| cY fun K3 k => Zr <| Zp rfl <| Zi rfl <| Zi rfl <| Zy (Cx (u0 := .int .i64 _) (u1 := .int .i64 _) rfl rfl du fv rfl rfl Dd Dd fun l W7 h d m => ?_)
 have p : N ≤ l := h ▸ (Nat.le_trans hN0 (Below.size hB))
 clear h
 replace hz := d.at hz
 replace hD := fD.ext d hD
 replace hX := Dx.trans hX (Dx.ext d)
 replace hB := dF hB d hN0
 have a := wz (enc := d9) (sz := 1) (a0 := _) (a1 := _) m rfl rfl rfl rfl p
 refine ZC Lj (q4 N ba bm bz R ns _ [(f : Int), (g : Int)] _ hz hD a.sl (by simp) (by simp; omega)) rfl fun y z b r => ?_
 replace hz := b.at hz
 replace hD := fD.ext b hD
 replace hX := Dx.trans hX (Dx.ext b)
 replace hB := dF hB b hN0
 replace a := b.ow a
 obtain rfl := r
 refine Zv (fy rfl) <| cT <| ZQ rfl (fun i => ?_) fun i => ?_
 exact absurd (IH i) (by simp [nt]; omega)
 refine c9 <| k _ _ ?_
 have hbmlt := hD.hm.lt
 have hszb := Below.size hB
 have hNszb := Nat.le_trans hN0 hszb
 refine Zr <| Zp rfl <| Zw (.func _ _ _) rfl <| Zw (.func _ _ _) rfl <| ZC La (sG bz ge gh _) rfl fun A B c s => ?_
 replace hz := c.at hz
 replace hD := fD.ext c hD
 replace hX := Dx.trans hX (Dx.ext c)
 replace hB := dF hB c hN0
 replace a := c.ow a
 obtain ⟨bd3_3, bx3_3, rfl, hbd, hdn, lbd3_3, lbx3_3⟩ := s
 have lox : N ≤ bx3_3 := Nat.le_trans hNszb lbx3_3
 have hxm : bx3_3 ≠ bm := fun e => Nat.lt_irrefl _ (Nat.lt_of_lt_of_le hbmlt (e ▸ lbx3_3))
 have hXd := hX
 refine Zi rfl <| Zi rfl ?_
 refine mG (dd := some 24) rfl rfl rfl (jV (q := 124) (first := #[.pointer (some ⟨bd3_3, 0, none⟩)]) (cap := #[]) (vs := #[.pointer (some ⟨bd3_3, 0, none⟩), .int .i64 _, .int .i64 _]) rfl uD (by simp only [List.map_toArray, List.map_cons, List.map_nil, List.append_toArray, List.nil_append, List.cons_append]; rfl)) (hDo 25 N ba bm bz bd3_3 bx3_3 R ns [] f g _ (Nat.le_trans hN0 (Below.size hB)) hz hbd hD hdn qz.nil lox hxm hf hg Om) (fun C D t => ?_)
 obtain ⟨E, F, G, dl3_6, rfl, j, u, x, _, _⟩ := t
 try clear hz
 replace hX := Dx.new hX (Nat.le_trans hszb lbx3_3) j
 replace hB := Below.dx hB (Nat.le_refl _) hN0 j
 try clear a
 try clear hbd
 try clear hdn
 replace hD := u
 refine Zv (dI rfl) <| Zv (dK rfl) <| Zi rfl <| Zi rfl <| cT <| Zt <| dZ (v := .int .i64 _) rfl (v1 := .int .i64 _) rfl ?_
 exact ⟨_, _, _, rfl, hX, hD, x⟩
theorem QZ : ∀ n, yS 126 121 nI n := uZ _ _ nI Ce (fun f g w => pR f g w) LC DH fun n ih N ba bm bz bd bx R ns dl f0 f1 g0 g1 l w => Es _ n nI N ba bm bz bd bx R ns dl f0 f1 g0 g1 l w (fun _ _ _ _ _ _ => rfl) (fun _ _ _ _ => rfl) ih
theorem jT (N ba bm bz R : Nat) (ns : List Nd) (f g : Nat) (w : World) (hN0 : N ≤ w.heap.size) (hz : At w bz #[.pointer (some ⟨ba, 0, none⟩)] 141) (hD : fD 163 188 N ba bm R w ns) (hf : f < ns.length + 2) (hg : g < ns.length + 2) :
    qJ Tryz.prog 106 #[.pointer (some ⟨bz, 0, none⟩), .int .i64 (f : Int), .int .i64 (g : Int)] w fun v w' => PO 163 188 N ba bm R w ns (nI.cst ns f g) (min (d8 ns f) (d8 ns g)) (nI.res (M ns f) (M ns g)) v w' := by
 refine eX (n := 14) Tryz.func106 rfl rfl (Nat.le_of_ble_eq_true rfl) ?_
 have hB : Below N w w := Below.refl _ _
 have hX : Dx 188 N [ba, bm] w w := Dx.refl
 refine Zr <| Zw (.int .i64 0) rfl <| Zw (.int .i64 0) rfl <| cT <| Zr <| Zp rfl <| Zi rfl <| Zi rfl <| ZH yG (kh _ _ nI N ba bm bz R ns f g _ hN0 hz hD hf hg QZ) rfl fun e W5 b => ?_
 obtain ⟨h, i, j, rfl, a, c, d⟩ := b
 replace hz := At.dx hD a hz Dd Dd
 replace hX := Dx.trans hX (a)
 replace hB := Below.dx hB (Nat.le_refl _) hN0 a
 replace hD := c
 refine Zv (dI rfl) <| Zv (dK rfl) <| Zi rfl <| Zi rfl <| cT <| Zt <| dZ (v := .int .i64 _) rfl (v1 := .int .i64 _) rfl ?_
 exact ⟨_, _, _, rfl, hX, hD, d⟩
theorem Q4 : ∀ n, yS 120 121 sQ n := uZ _ _ sQ Cd (fun f g w => qE f g w) Ld DH fun n ih N ba bm bz bd bx R ns dl f0 f1 g0 g1 l w => Es _ n sQ N ba bm bz bd bx R ns dl f0 f1 g0 g1 l w (fun _ _ _ _ _ _ => rfl) (fun _ _ _ _ => rfl) ih
theorem m6 (N ba bm bz R : Nat) (ns : List Nd) (f g : Nat) (w : World) (hN0 : N ≤ w.heap.size) (hz : At w bz #[.pointer (some ⟨ba, 0, none⟩)] 141) (hD : fD 163 188 N ba bm R w ns) (hf : f < ns.length + 2) (hg : g < ns.length + 2) :
    qJ Tryz.prog 103 #[.pointer (some ⟨bz, 0, none⟩), .int .i64 (f : Int), .int .i64 (g : Int)] w fun v w' => PO 163 188 N ba bm R w ns (sQ.cst ns f g) (min (d8 ns f) (d8 ns g)) (sQ.res (M ns f) (M ns g)) v w' := by
 refine eX (n := 14) Tryz.func103 rfl rfl (Nat.le_of_ble_eq_true rfl) ?_
 have hB : Below N w w := Below.refl _ _
 have hX : Dx 188 N [ba, bm] w w := Dx.refl
 refine Zr <| Zw (.int .i64 0) rfl <| Zw (.int .i64 0) rfl <| cT <| Zr <| Zp rfl <| Zi rfl <| Zi rfl <| ZH yG (kh _ _ sQ N ba bm bz R ns f g _ hN0 hz hD hf hg Q4) rfl fun e W5 b => ?_
 obtain ⟨h, i, j, rfl, a, c, d⟩ := b
 replace hz := At.dx hD a hz Dd Dd
 replace hX := Dx.trans hX (a)
 replace hB := Below.dx hB (Nat.le_refl _) hN0 a
 replace hD := c
 refine Zv (dI rfl) <| Zv (dK rfl) <| Zi rfl <| Zi rfl <| cT <| Zt <| dZ (v := .int .i64 _) rfl (v1 := .int .i64 _) rfl ?_
 exact ⟨_, _, _, rfl, hX, hD, d⟩
end
section
open Go Go.RowKit
theorem L4 : eL Tryz.prog 171 = some (.agg #[.int .i64 0, .int .i64 0, .int .i64 0, .int .i64 0, .int .i64 0, .int .i64 0]) := by kernel_rfl
theorem Du : (Tryz.prog.info? 170).map (·.size) = some 2 := by kernel_rfl
theorem sm {f : Nat → Value} {w : World} {d : Option Nat} {ty : TypeId} {ps : String} {af : Array Edge} {g : Option (Nat × Bool)} {x0 x1 x2 : Operand} {c0_0 c0_1 c1_0 c1_1 c2_0 c2_1 : Value} (h0 : dO f x0 = .agg #[c0_0, c0_1]) (h1 : dO f x1 = .agg #[c1_0, c1_1]) (h2 : dO f x2 = .agg #[c2_0, c2_1]) :
    (execOp (dO f) ⟨d, .build 171 #[(0, x0), (1, x1), (2, x2)], ty, ps, af, g⟩).run Tryz.prog w = .ok (.value (.agg #[c0_0, c0_1, c1_0, c1_1, c2_0, c2_1])) w := by
  obtain ⟨i0, hi0, hz0⟩ := Option.bind_eq_some_iff.1 (show (Tryz.prog.info? 171).bind (·.zero) = _ from L4)
  obtain ⟨j170, hj170, hs170⟩ := Option.map_eq_some_iff.1 Du
  simp [execOp, h0, h1, h2, Instr.build, zeroValue, typeInfo, sizeOf, hi0, hz0, run_underlying Tryz.underlying171, Instr.fill, eW, hj170, hs170]
theorem y5 : dC Tryz.prog 106 = true := by kernel_rfl
theorem KX : dC Tryz.prog 122 = true := by kernel_rfl
theorem JX : dC Tryz.prog 123 = true := by kernel_rfl
theorem J3 {f0 f1 g0 g1 i : Nat} (hi : i < 3) (w : World) : (part 170 #[.int .i64 (f1 : Int), .int .i64 (g0 : Int), .int .i64 (f0 : Int), .int .i64 (g1 : Int), .int .i64 (f1 : Int), .int .i64 (g1 : Int)] (i * 2)).run Tryz.prog w = .ok (.agg #[.int .i64 ((zT f0 f1 i : Nat) : Int), .int .i64 ((zN g0 g1 i : Nat) : Int)]) w := by
  obtain ⟨j0, hj0, hs0⟩ := Option.map_eq_some_iff.1 (show (Tryz.prog.info? 170).map (·.size) = some 2 by kernel_rfl)
  have : i = 0 ∨ i = 1 ∨ i = 2 := by omega
  rcases this with rfl | rfl | rfl <;> simp [part, isAgg, sizeOf, typeInfo, hj0, hs0, run_underlying Tryz.underlying170] <;> exact ⟨rfl, rfl⟩
theorem Lz (w : World) : (sizeOf 170).run Tryz.prog w = .ok 2 w := by
  obtain ⟨j0, hj0, hs0⟩ := Option.map_eq_some_iff.1 (show (Tryz.prog.info? 170).map (·.size) = some 2 by kernel_rfl)
  simp [sizeOf, typeInfo, hj0, hs0]
set_option maxRecDepth 10000 in
theorem LE (ge gh n : Nat) (N ba bm bz bd bx R : Nat) (ns : List Nd) (dl : List ((Nat × Nat) × Int)) (f0 f1 g0 g1 l : Nat) (w : World) (ih : yS ge gh qa n) (hN0 : N ≤ w.heap.size) (hz : At w bz #[.pointer (some ⟨ba, 0, none⟩)] 141) (hbd : At w bd #[.pointer (some ⟨bz, 0, none⟩), .func (.func ge) #[] #[], .func (.func gh) #[] #[], .map (some bx)] 174) (hD : fD 163 188 N ba bm R w ns) (hdn : dR ob eK w bx dl) (hdone : qz qa.res ns dl) (lox : N ≤ bx) (hxm : bx ≠ bm) (v0 : f0 < ns.length + 2) (v1 : f1 < ns.length + 2) (v2 : g0 < ns.length + 2) (v3 : g1 < ns.length + 2) (k0 : l < d8 ns f0) (k1 : l < d8 ns f1) (k2 : l < d8 ns g0) (k3 : l < d8 ns g1) (h24 : l < 24) (hn : 24 - l ≤ n) :
    qJ Tryz.prog 123 #[.pointer (some ⟨bd, 0, none⟩), .agg #[.int .i64 (f0 : Int), .int .i64 (f1 : Int)], .agg #[.int .i64 (g0 : Int), .int .i64 (g1 : Int)]] w fun v w' => PD 163 188 N ba bm R bx qa.res w ns (qa.hcst ns l f0 f1 g0 g1) (l + 1) (qa.resH (M ns f0) (M ns f1) (M ns g0) (M ns g1)) v w' := by
 refine eX (n := 58) Tryz.func123 rfl rfl (Nat.le_of_ble_eq_true rfl) ?_
 have hB : Below N w w := Below.refl _ _
 have hX : Dx 188 N [bx, ba, bm] w w := Dx.refl
 have hwn := hD.wf
 refine Zr <| Zy (dU (c := #[_, _]) rfl rfl fun r W3 z o a => ?_)
 have aa : N ≤ r := z ▸ (Nat.le_trans hN0 (Below.size hB))
 clear z
 replace hz := o.at hz
 replace hbd := o.at hbd
 replace hD := fD.ext o hD
 replace hdn := o.mapT hdn
 replace hX := Dx.trans hX (Dx.ext o)
 replace hB := dF hB o hN0
 refine Zy (dU (c := #[_, _]) rfl rfl fun s W6 t g b => ?_)
 have ab : N ≤ s := t ▸ (Nat.le_trans hN0 (Below.size hB))
 have ac := Zn t a.lt
 clear t
 replace hz := g.at hz
 replace hbd := g.at hbd
 replace hD := fD.ext g hD
 replace hdn := g.mapT hdn
 replace hX := Dx.trans hX (Dx.ext g)
 replace hB := dF hB g hN0
 replace a := g.at a
 refine Zw (.int .i64 0) rfl <| Zw (.int .i64 0) rfl <| cT <| Zr <| Zw (.int .i64 0) rfl <| cT <| cY fun ad I => Zr <| Zv (e7 rfl rfl gP Om Om) <| Zl rfl dB a rfl <| Zv (e7 rfl rfl gP Om Om) <| Zl rfl dB b rfl <| Zv (iT (h0 := rfl) (k0 := rfl) (h1 := rfl) (k1 := rfl) (c0_0 := .int .i64 _) (c1_0 := .int .i64 _)) <| Zv (e7 rfl rfl gP Om Om) ?_
 refine Zl rfl dB a rfl <| Zv (e7 rfl rfl gP Om Om) <| Zl rfl dB b rfl <| Zv (iT (h0 := rfl) (k0 := rfl) (h1 := rfl) (k1 := rfl) (c0_0 := .int .i64 _) (c1_0 := .int .i64 _)) <| Zv (e7 rfl rfl gP Om Om) <| Zl rfl dB a rfl <| Zv (e7 rfl rfl gP Om Om) <| Zl rfl dB b rfl <| Zv (iT (h0 := rfl) (k0 := rfl) (h1 := rfl) (k1 := rfl) (c0_0 := .int .i64 _) (c1_0 := .int .i64 _)) <| Zv (sm (h0 := rfl) (h1 := rfl) (h2 := rfl) ) <| Zw (.int .i64 0) rfl <| cT <| c7 ?_
 refine dw (σ := (Nat) × (Nat) × (List Nd) × (List ((Nat × Nat) × Int))) [6, 7, 8, 10, 11, 12, 29, 30, 31, 32, 33, 34, 35, 36, 37, 38, 39, 40, 41, 42, 43, 44, 45, 46, 47, 48, 49, 50, 51, 52, 53, 54, 55, 56] (fun (i, out, nsc, dlc) => [(29, .int .i64 (i : Int)), (8, .int .i64 (out : Int))]) (fun sg W => match sg with | (i, out, nsc, dlc) => (At W bz _ 141) ∧ (At W bd _ 174) ∧ (Dx 188 N [bx, ba, bm] w W) ∧ (Below N w W) ∧ (At W r _ 170) ∧ (At W s _ 170) ∧ (fD 163 188 N ba bm R W nsc) ∧ (dR ob eK W bx dlc) ∧ (i ≤ 3) ∧ (qz qa.res nsc dlc) ∧ (jv ns nsc R (JR ns l f0 f1 g0 g1 i) (l + 1) (JU (M ns f0) (M ns f1) (M ns g0) (M ns g1) i) out 0) ∧ (True)) (fun (i, out, nsc, dlc) => 3 - i) ((0, 0, ns, dl)) ⟨rfl, rfl, trivial⟩ ⟨hz, hbd, hX, hB, a, b, hD, hdn, (Nat.zero_le _), hdone, (jv.same Om (by rw [LR]; omega) (QI _ _ _ _ ns)), trivial⟩ ?_
 clear hz hbd hD hdn hX hB a b
 rintro ⟨i, out, nsc, dlc⟩ ae A ⟨hz, hbd, hX, hB, a, b, hD, hdn, hi, hdone, hg, _⟩ af J
 refine Zr <| Zv (dL rfl rfl) <| cT <| cY fun ag K => ZQ rfl (fun L => ?_) fun L => ?_
 refine c9 <| K _ _ <| cY fun ah O => c7 ?_
 have u := hB
 replace hB := Below.refl A.heap.size A
 have hcw := hD.wf
 have hpx : zT f0 f1 i < ns.length + 2 := by rcases pg (show i < 3 by omega) f0 f1 with e | e <;> rw [e] <;> assumption
 have hpy : zN g0 g1 i < ns.length + 2 := by rcases pN (show i < 3 by omega) g0 g1 with e | e <;> rw [e] <;> assumption
 have klx : l < d8 ns (zT f0 f1 i) := by rcases pg (show i < 3 by omega) f0 f1 with e | e <;> rw [e] <;> assumption
 have kly : l < d8 ns (zN g0 g1 i) := by rcases pN (show i < 3 by omega) g0 g1 with e | e <;> rw [e] <;> assumption
 obtain ⟨x1, x2, x3⟩ := hg.old hpx
 obtain ⟨y1, y2, y3⟩ := hg.old hpy
 obtain ⟨o1, o2, o3⟩ := hg.ok rfl
 refine Zr <| Zv (Be rfl rfl Tryz.underlying171 Om (Lz _) (J3 Om _)) <| Zy (dt uB rfl fun B ai p P d => ?_)
 have x := ZO p hB
 have aj : r ≠ B := Nat.ne_of_lt (p ▸ (Below.atI hB a).lt)
 have ak : s ≠ B := Nat.ne_of_lt (p ▸ (Below.atI hB b).lt)
 clear p
 replace hB := Ze hB P
 refine Zy (dg rfl rfl vE rfl d rfl rfl fun al Q S => ?_)
 replace hB := Zg hB Q x
 replace d := S
 refine cT ?_
 replace hz := Below.atI hB hz
 replace hbd := Below.atI hB hbd
 replace hX := Dx.trans hX (Dx.below hB)
 replace a := Below.atI hB a
 replace b := Below.atI hB b
 replace hD := fD.below hB hD
 replace hdn := Below.mapI hB hdn
 have hzs := Nat.le_trans hN0 (Below.size u)
 replace x := Nat.le_trans hzs x
 replace hB := Below.trans u (Below.mono hB hzs)
 clear u hzs
 refine Zr <| Zp rfl <| Zv (e7 rfl rfl gP Om Om) <| Zl rfl dB d rfl <| Zv (e7 rfl rfl gP Om Om) <| Zl rfl dB d rfl <| ZH uD (ih N ba bm bz bd bx R nsc dlc (zT f0 f1 i) (zN g0 g1 i) _ (Nat.le_trans hN0 (Below.size hB)) hz hbd hD hdn hdone lox hxm x1 y1 (by rw [x3, y3]; omega)) rfl fun ao ap T => ?_
 obtain ⟨U, C, D, dl5_5, rfl, j, V, q, hdn5_5, hdone5_5⟩ := T
 replace hz := At.dxm hD hdn j hz Dd Dd
 replace hbd := At.dxm hD hdn j hbd Dd Dd
 replace hX := Dx.trans hX j
 replace hB := Below.dx hB (Nat.le_refl _) hN0 j
 replace a := At.dxm hD hdn j a Dd Dd
 replace b := At.dxm hD hdn j b Dd Dd
 replace d := At.dxm hD hdn j d Dd Dd
 replace hD := V
 replace hdn := hdn5_5
 replace hdone := hdone5_5
 refine Zw (.tuple #[.int .i64 (C : Int), .int .i64 D]) rfl <| Zv (dI rfl) <| Zv (dK rfl) <| Zi rfl <| Zi rfl <| cT <| cY fun aq E => Zr <| Zi rfl <| Zv (eB rfl rfl) <| cT <| ZQ rfl (fun y => ?_) fun y => ?_
 have he1 : D = 0 := y
 subst he1
 obtain ⟨d1, d2, d3⟩ := q.ok rfl
 obtain ⟨q1, q2, q3⟩ := q.old o1
 have hw1 := hD.wf
 refine cZ <| Zp rfl <| Zc rfl <| Zf rfl kX <| ZL (.pointer (some ⟨bz, 0, none⟩)) rfl ii hbd rfl <| Zi rfl <| Zi rfl <| ZH y5 (jT N ba bm bz R U out C _ (Nat.le_trans hN0 (Below.size hB)) hz hD q1 d1) rfl fun ar au X => ?_
 obtain ⟨Y, F, G, rfl, f, Z, H⟩ := X
 replace hz := At.dx hD f hz Dd Dd
 replace hbd := At.dx hD f hbd Dd Dd
 replace hX := Dx.trans hX (Dx.toX f)
 replace hB := Below.dx hB (Nat.le_refl _) hN0 f
 replace a := At.dx hD f a Dd Dd
 replace b := At.dx hD f b Dd Dd
 replace hdn := dR.dx hD f hdn hxm
 replace d := At.dx hD f d Dd Dd
 replace hD := Z
 have hgj := Ox hwn hcw hw1 (show i < 3 by omega) h24 v0 v1 v2 v3 k0 k1 k2 k3 hg q H
 replace hdone := hdone.pre H.pre
 refine Zw (.tuple #[.int .i64 (F : Int), .int .i64 G]) rfl <| Zv (dI rfl) <| Zv (dK rfl) <| Zi rfl <| Zi rfl <| cT <| E _ _ <| Zr <| Zi rfl <| Zv (f7 rfl rfl) <| cT <| ZQ rfl (fun m => ?_) fun m => ?_
 refine Zr <| Zi rfl <| Zw (.int .i64 0) rfl <| Zi rfl <| cT <| Zt <| dZ (v := .int .i64 0) rfl (v1 := .int .i64 _) rfl ?_
 exact ⟨_, 0, _, _, rfl, hX, hD, jv.fail (hgj) m (by exact Ms ns l f0 f1 g0 g1 (show i + 1 ≤ 3 by omega)), hdn, hdone⟩
 refine c9 <| O _ _ <| cZ <| Zv (dp rfl rfl Om Om) <| Zi rfl <| cT ?_
 exact J _ _ ((i + 1, F, Y, dl5_5)) Za ⟨rfl, rfl, trivial⟩ ⟨hz, hbd, hX, hB, a, b, hD, (by exact hdn), Om, hdone, (by have he2 : G = 0 := Decidable.of_not_not m; subst he2; exact hgj), trivial⟩ (by show 3 - (i + 1) < 3 - i; omega)
 refine c9 <| E _ _ <| Zr <| Zi rfl <| Zv (f7 rfl rfl) <| cT <| ZQ rfl (fun m => ?_) fun m => ?_
 refine Zr <| Zi rfl <| Zw (.int .i64 0) rfl <| Zi rfl <| cT <| Zt <| dZ (v := .int .i64 0) rfl (v1 := .int .i64 _) rfl ?_
 exact ⟨_, 0, _, _, rfl, hX, hD, hg.fail2 q m (by have e := rM hg.pre hwn hpx hpy; have k := PP (ns := ns) (l := l) (f0 := f0) (f1 := f1) (g0 := g0) (g1 := g1) (show i < 3 by omega); rw [← e] at k; exact k), hdn, hdone⟩
 exact absurd m (fun h => h y)
 refine dr <| I _ _ ?_
 obtain rfl : i = 3 := by omega
 refine Zr <| Zi rfl <| Zi rfl <| Zw (.int .i64 0) rfl <| cT <| Zt <| dZ (v := .int .i64 _) rfl (v1 := .int .i64 0) rfl ?_
 exact ⟨_, _, _, _, rfl, hX, hD, hg.weak (Nat.le_refl _) (QG _ _ _ _), hdn, hdone⟩
theorem QY : ∀ n, yS 122 123 qa n := uZ _ _ qa N8 (fun f g w => qF f g w) KX JX fun n ih N ba bm bz bd bx R ns dl f0 f1 g0 g1 l w => LE _ _ n N ba bm bz bd bx R ns dl f0 f1 g0 g1 l w ih
theorem ng (N ba bm bz R : Nat) (ns : List Nd) (f g : Nat) (w : World) (hN0 : N ≤ w.heap.size) (hz : At w bz #[.pointer (some ⟨ba, 0, none⟩)] 141) (hD : fD 163 188 N ba bm R w ns) (hf : f < ns.length + 2) (hg : g < ns.length + 2) :
    qJ Tryz.prog 104 #[.pointer (some ⟨bz, 0, none⟩), .int .i64 (f : Int), .int .i64 (g : Int)] w fun v w' => PO 163 188 N ba bm R w ns (qa.cst ns f g) (min (d8 ns f) (d8 ns g)) (qa.res (M ns f) (M ns g)) v w' := by
 refine eX (n := 14) Tryz.func104 rfl rfl (Nat.le_of_ble_eq_true rfl) ?_
 have hB : Below N w w := Below.refl _ _
 have hX : Dx 188 N [ba, bm] w w := Dx.refl
 refine Zr <| Zw (.int .i64 0) rfl <| Zw (.int .i64 0) rfl <| cT <| Zr <| Zp rfl <| Zi rfl <| Zi rfl <| ZH yG (kh _ _ qa N ba bm bz R ns f g _ hN0 hz hD hf hg QY) rfl fun e W5 b => ?_
 obtain ⟨h, i, j, rfl, a, c, d⟩ := b
 replace hz := At.dx hD a hz Dd Dd
 replace hX := Dx.trans hX (a)
 replace hB := Below.dx hB (Nat.le_refl _) hN0 a
 replace hD := c
 refine Zv (dI rfl) <| Zv (dK rfl) <| Zi rfl <| Zi rfl <| cT <| Zt <| dZ (v := .int .i64 _) rfl (v1 := .int .i64 _) rfl ?_
 exact ⟨_, _, _, rfl, hX, hD, d⟩
end
end Go.Proofs.YteimkklmmanncaaGreat
