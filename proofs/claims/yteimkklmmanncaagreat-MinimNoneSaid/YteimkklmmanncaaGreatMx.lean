/- The walks of package cover. Plain words for coverings made smaller, and for the fewest columns. No program in it. Steps of the walks of the document's coverings, and of the laws. No program in it. Coverings as values: rows of rows, what making them smaller and the search hold in memory. No program i -/
import Derived.Test.YteimkklmmanncaaGreatCover3
namespace Go.Proofs.YteimkklmmanncaaGreat
set_option linter.unusedVariables false
set_option linter.unusedSimpArgs false
section
open Go Go.RowKit
theorem Ol39_0 {p : Prop} (h : p := by first | omega | (simp only [cV, cW, cX, da, de]; omega)) : p := h
theorem eq : fx Tryz.prog 77 1 = some 1 := by kernel_rfl
theorem fj : fq Tryz.prog 75 = true := by kernel_rfl
theorem ea : fN Tryz.prog 75 = some (80, 1, 24) := by kernel_rfl
theorem iM : fq Tryz.prog 80 = true := by kernel_rfl
theorem iw : fx Tryz.prog 77 0 = some 0 := by kernel_rfl
theorem A3 : fN Tryz.prog 150 = some (5, 1, 1) := by kernel_rfl
theorem Ij : (eL Tryz.prog 5).map (fun z => z.cells.size) = some 1 := by kernel_rfl
theorem l6 : fq Tryz.prog 29 = true := by kernel_rfl
theorem N3 : dC Tryz.prog 70 = true := by kernel_rfl
theorem wu : fq Tryz.prog 108 = true := by kernel_rfl
theorem z6 : lQ Tryz.prog 108 = some (9, 4) := by kernel_rfl
theorem EC : oQ Tryz.prog 9 (fun v => ∃ a : List UInt8, v = mw a) := by
  refine nx Tryz.underlying9 ?_ ?_ ?_ ?_
  · rintro w _ _ ⟨a, rfl⟩ ⟨c, rfl⟩
    refine ⟨_, run_equalIn_string w 9999 9 _ _ Tryz.underlying9, by rw [beq_iff_eq, ByteArray.toList_eq]; simp [mw]⟩
  · rintro _ _ ⟨a, rfl⟩ ⟨c, rfl⟩
    exact .inr ⟨_, rfl, by rw [AQ]; simp [mw]⟩
  · rintro w em _ ⟨a, rfl⟩
    have h2 : ∀ k, (Instr.checkKey em (k + 1) 9 (mw a)).run Tryz.prog w = .ok () w := fun k => by
      simp [mw, Instr.checkKey, run_underlying Tryz.underlying9]
    exact h2 9999
  · rintro _ ⟨a, rfl⟩
    exact (AQ a a).2 rfl
theorem OV : dC Tryz.prog 71 = true := by kernel_rfl
theorem ja : (eL Tryz.prog 80).map (fun z => z.cells.size) = some 1 := by kernel_rfl
theorem ib : eL Tryz.prog 77 = some (.agg #[.int .i64 0, .slice none 0 0]) := by kernel_rfl
theorem ig : (Tryz.prog.info? 3).map (·.size) = some 1 := by kernel_rfl
theorem xR : (Tryz.prog.info? 75).map (·.size) = some 1 := by kernel_rfl
theorem pT {f : Nat → Value} {w : World} {d : Option Nat} {ty : TypeId} {ps : String} {af : Array Edge} {g : Option (Nat × Bool)}    :
    (execOp (dO f) ⟨d, .build 77 #[], ty, ps, af, g⟩).run Tryz.prog w = .ok (.value (.agg #[.int .i64 0, .slice none 0 0])) w := by
  obtain ⟨i0, hi0, hz0⟩ := Option.bind_eq_some_iff.1 (show (Tryz.prog.info? 77).bind (·.zero) = _ from ib)
  obtain ⟨j3, hj3, hs3⟩ := Option.map_eq_some_iff.1 ig
  obtain ⟨j75, hj75, hs75⟩ := Option.map_eq_some_iff.1 xR
  simp [execOp, Instr.build, zeroValue, typeInfo, sizeOf, hi0, hz0, run_underlying Tryz.underlying77, Instr.fill, eW, hj3, hs3, hj75, hs75]
theorem dH : kT Tryz.prog 77 = some 2 := by kernel_rfl
theorem NP : eL Tryz.prog 22 = some (.slice none 0 0) := by kernel_rfl
theorem uB : (eL Tryz.prog 49).map (fun z => z.cells.size) = some 4 := by kernel_rfl
theorem kf {f : Nat → Value} {w : World} {d : Option Nat} {ty : TypeId} {ps : String} {af : Array Edge} {g : Option (Nat × Bool)} {x0 : Operand} {c0_0 : Value} (h0 : dO f x0 = c0_0) (k0 : c0_0.cells = #[c0_0]) :
    (execOp (dO f) ⟨d, .build 77 #[(0, x0)], ty, ps, af, g⟩).run Tryz.prog w = .ok (.value (.agg #[c0_0, .slice none 0 0])) w := by
  obtain ⟨i0, hi0, hz0⟩ := Option.bind_eq_some_iff.1 (show (Tryz.prog.info? 77).bind (·.zero) = _ from ib)
  obtain ⟨j3, hj3, hs3⟩ := Option.map_eq_some_iff.1 ig
  obtain ⟨j75, hj75, hs75⟩ := Option.map_eq_some_iff.1 xR
  simp [execOp, h0, k0, Instr.build, zeroValue, typeInfo, sizeOf, hi0, hz0, run_underlying Tryz.underlying77, Instr.fill, eW, hj3, hs3, hj75, hs75]
theorem Lb : eL Tryz.prog 108 = some (.map none) := by kernel_rfl
theorem MU : dC Tryz.prog 68 = true := by kernel_rfl
theorem jD (n : Int) (rv : Value) (vs : List Value) (L : List (List Int)) (w : World) (hrv : dM encV 1 w rv vs) (hll : LL w vs L) (hLb : L.length ≤ 1000000) (hRb : ∀ i, (L.getD i []).length ≤ 1000000) :
    Fn Tryz.prog 72 #[.agg #[.int .i64 n, rv]] w fun v w' => v = .bool (dX n L) := by
 refine dq (n := 41) Tryz.func72 rfl rfl (Nat.le_of_ble_eq_true rfl) ?_
 have hB : Below w.heap.size w w := Below.refl _ _
 have hvl := hll.len
 refine Zr <| Zy (dU (c := #[_, _]) rfl rfl fun g W3 h j a => ?_)
 have z := ZO h hB
 clear h
 replace hB := Ze hB j
 refine Zw (.bool false) rfl <| cT <| cY fun K6 l => Zr <| Zf rfl eq <| ZL rv rfl fj a rfl <| Zv (dA (v := rv) rfl (Below.slT hB hrv) ea) <| Zw (.int .i64 0) rfl <| cT <| c7 ?_
 refine dw (σ := (Nat)) [2, 4, 5, 7, 11, 12, 13, 14, 15, 16, 17, 18, 19, 20, 21, 22, 23, 24, 25, 26, 27, 28, 29, 30, 31, 32] (fun i => [(11, .int .i64 (i : Int))]) (fun i W => (Below w.heap.size w W) ∧ (At W g _ 77) ∧ (i ≤ L.length) ∧ (∀ q, q < i → nK n (L.getD q []) = true) ∧ (True)) (fun i => L.length - i) (0) ⟨rfl, trivial⟩ ⟨hB, a, (Nat.zero_le _), ff, trivial⟩ ?_
 clear hB a
 rintro i A B ⟨hB, a, hi, hq, _⟩ C m
 refine Zr <| Zv (dL rfl rfl) <| cT <| cY fun D o => ZQ rfl (fun p => ?_) fun p => ?_
 refine c9 <| o _ _ <| cY fun E r => c7 <| Zr <| Zv (dJ (v := rv) rfl (Below.slT hB hrv) rfl ea Om Ol39_0) <| Zv (dk (v := (vs.getD i undef)) rfl iM (dM.cell (Below.slT hB hrv) fW undef Om Ol39_0 0 rfl)) ?_
 have b : dM d9 1 w ((vs.getD i undef)) (L.getD i []) := hll.get i (by omega)
 refine Zw (vs.getD i undef) rfl <| cT <| Zr <| Zi rfl <| cT ?_
 have hRi := hRb i
 refine Zr <| Zw (vs.getD i undef) rfl <| Zv (dA (v := (vs.getD i undef)) rfl (Below.slT hB b) du) <| Zw (.int .i64 0) rfl <| cT <| c7 ?_
 refine dw (σ := (Nat)) [2, 5, 7, 17, 18, 19, 20, 21, 22, 23, 24, 25, 26, 27, 28, 29, 30, 31] (fun k => [(17, .int .i64 (k : Int)), (5, .int .i64 (wA (L.getD i []) k))]) (fun k W => (Below w.heap.size w W) ∧ (At W g _ 77) ∧ (k ≤ (L.getD i []).length) ∧ (∀ q, q < k → 0 ≤ (L.getD i []).getD q 0 ∧ (L.getD i []).getD q 0 < n ∧ (0 < q → (L.getD i []).getD (q - 1) 0 < (L.getD i []).getD q 0)) ∧ (True)) (fun k => (L.getD i []).length - k) (0) ⟨rfl, rfl, trivial⟩ ⟨hB, a, (Nat.zero_le _), ff, trivial⟩ ?_
 clear hB a
 rintro k F G ⟨hB, a, hk, hq2, _⟩ H s
 refine Zr <| Zv (dL rfl rfl) <| cT <| cY fun I t => ZQ rfl (fun u => ?_) fun u => ?_
 refine c9 <| t _ _ <| cY fun J x => c7 <| Zr <| Zv (dJ (v := (vs.getD i undef)) rfl (Below.slT hB b) rfl du Om Ol39_0) <| Zv (dk (v := .int .i64 _) rfl dB (dM.cell (Below.slT hB b) eB 0 Om Ol39_0 0 rfl)) <| Zi rfl <| cT <| cY fun K y => Zr <| Zi rfl <| Zi rfl <| Zv (xn rfl rfl) ?_
 refine ZX rfl (fun d => ?_) fun d => ?_
 refine Zs <| Zs <| Zs <| Zs <| Zw (.bool true) rfl <| cT <| dz rfl <| Zr <| Zw (.bool false) rfl <| cT <| Zt <| dE (v := .bool false) rfl ⟨hB, ?_⟩
 exact Ms (i := i) (k := k) Om Om (fun q hq => (hq2 q hq).1) (.inl d)
 refine Zi rfl <| Zf rfl iw <| Zl rfl dB a rfl <| Zv (nJ rfl rfl) <| Zb rfl <| cT <| ZQ rfl (fun e => ?_) fun e => ?_
 refine Zr <| Zw (.bool false) rfl <| cT <| Zt <| dE (v := .bool false) rfl ⟨hB, ?_⟩
 exact Ms (i := i) (k := k) Om Om (fun q hq => (hq2 q hq).1) (.inr e)
 refine c9 <| y _ _ <| cZ <| Zi rfl <| Zi rfl <| cT <| x _ _ <| cZ <| Zv (dp rfl rfl Om Om) <| Zi rfl <| cT ?_
 exact s _ _ (k + 1) Za ⟨rfl, rfl, trivial⟩ ⟨hB, a, Om, (LV hq2 d e), trivial⟩ Zo
 refine dr <| r _ _ <| cZ <| Zv (dp rfl rfl Om Om) <| Zi rfl <| cT ?_
 exact m _ _ (i + 1) Za ⟨rfl, trivial⟩ ⟨hB, a, Om, (ey hq (iZ.2 (fun q hq => hq2 q Om))), trivial⟩ Zo
 refine dr <| l _ _ <| Zr <| Zf rfl iw <| Zl rfl dB a rfl <| Zv (nJ rfl rfl) <| ZX rfl (fun f => ?_) fun f => ?_
 refine Zf rfl iw <| Zl rfl dB a rfl <| Zv (xn rfl rfl) <| Zb rfl <| Zb rfl <| cT <| Zt <| dE (v := .bool _) rfl ⟨hB, ?_⟩
 obtain rfl : i = L.length := by omega
 exact QO f hq
 refine Zs <| Zs <| Zs <| Zw (.bool false) rfl <| Zw (.bool false) rfl <| cT <| Zt <| dE (v := .bool false) rfl ⟨hB, ?_⟩
 obtain rfl : i = L.length := by omega
 exact Qy f
theorem w5 (xa xb : Value) (a b : List Int) (w : World) (ha : dM d9 1 w xa a) (hb : dM d9 1 w xb b) (hal : a.length ≤ 1000000) (hbl : b.length ≤ 1000000) :
    Fn Tryz.prog 71 #[xa, xb] w fun v w' => v = .bool (fM a b) := by
 refine dq (n := 40) Tryz.func71 rfl rfl (Nat.le_of_ble_eq_true rfl) ?_
 have hB : Below w.heap.size w w := Below.refl _ _
 refine Zr <| Zw (.bool false) rfl <| cT <| cY fun K3 e => Zr <| Zw xa rfl <| Zv (dA (v := xa) rfl (Below.slT hB ha) du) <| Zw xb rfl <| Zv (dA (v := xb) rfl (Below.slT hB hb) du) <| Zv (gg rfl rfl) <| cT <| ZQ rfl (fun d => ?_) fun d => ?_
 refine Zr <| Zw xa rfl <| Zv (dA (v := xa) rfl (Below.slT hB ha) du) <| Zw xb rfl <| Zv (dA (v := xb) rfl (Below.slT hB hb) du) <| Zv (dL rfl rfl) <| Zb rfl <| cT <| Zt <| dE (v := .bool _) rfl ⟨hB, ?_⟩
 exact P8 d
 refine c9 <| e _ _ <| cY fun K9 f => Zr <| Zw xa rfl <| Zv (dA (v := xa) rfl (Below.slT hB ha) du) <| Zw (.int .i64 0) rfl <| cT <| c7 ?_
 refine dw (σ := (Nat)) [4, 5, 18, 19, 20, 21, 22, 23, 24, 25, 26, 27, 28, 29, 30, 31, 32, 33, 34, 35, 36, 37, 38, 39] (fun k => [(18, .int .i64 (k : Int))]) (fun k W => (Below w.heap.size w W) ∧ (k ≤ a.length) ∧ (∀ q, q < k → a.getD q 0 = b.getD q 0) ∧ (True)) (fun k => a.length - k) (0) ⟨rfl, trivial⟩ ⟨hB, (Nat.zero_le _), ff, trivial⟩ ?_
 clear hB
 rintro k r s ⟨hB, hk, hq, _⟩ t g
 refine Zr <| Zv (dL rfl rfl) <| cT <| cY fun u h => ZQ rfl (fun i => ?_) fun i => ?_
 refine c9 <| h _ _ <| cY fun x j => c7 <| Zr <| Zi rfl <| Zi rfl <| cT <| Zd eo fun l m => ?_
 replace hB := Ze hB m
 have hS := eo.refl l
 refine Tw 0 xa rfl rfl hS <| Ti 1 rfl rfl hS <| Tk 2 rfl (fun _ hq => dJ (v := xa) rfl (hq.slT (Below.slT hB ha)) rfl du Om Ol39_0) hS <| Tk 3 rfl (fun _ hq => dk (v := .int .i64 _) rfl dB (dM.cell (hq.slT (Below.slT hB ha)) eB 0 Om Ol39_0 0 rfl)) hS <| Tw 4 xb rfl rfl hS <| Ti 5 rfl rfl hS <| Tk 6 rfl (fun _ hq => dJ (v := xb) rfl (hq.slT (Below.slT hB hb)) rfl du Om Ol39_0) hS <| Tk 7 rfl (fun _ hq => dk (v := .int .i64 _) rfl dB (dM.cell (hq.slT (Below.slT hB hb)) eB 0 Om Ol39_0 0 rfl)) hS <| Tk 8 rfl (fun _ _ => gg rfl rfl) hS <| Td <| ZQ rfl (fun c => ?_) fun c => ?_
 refine Zd eo fun o p => ?_
 replace hB := Ze hB p
 have hS := eo.refl o
 refine Tw 0 xa rfl rfl hS <| Ti 1 rfl rfl hS <| Tk 2 rfl (fun _ hq => dJ (v := xa) rfl (hq.slT (Below.slT hB ha)) rfl du Om Ol39_0) hS <| Tk 3 rfl (fun _ hq => dk (v := .int .i64 _) rfl dB (dM.cell (hq.slT (Below.slT hB ha)) eB 0 Om Ol39_0 0 rfl)) hS <| Tw 4 xb rfl rfl hS <| Ti 5 rfl rfl hS <| Tk 6 rfl (fun _ hq => dJ (v := xb) rfl (hq.slT (Below.slT hB hb)) rfl du Om Ol39_0) hS <| Tk 7 rfl (fun _ hq => dk (v := .int .i64 _) rfl dB (dM.cell (hq.slT (Below.slT hB hb)) eB 0 Om Ol39_0 0 rfl)) hS <| Tk 8 rfl (fun _ _ => dL rfl rfl) hS <| Ty 9 rfl rfl hS <| Td <| Zt <| dE (v := .bool _) rfl ⟨hB, ?_⟩
 exact P5 (k := k) Om Om hq c
 refine c9 <| j _ _ <| cZ <| Zv (dp rfl rfl Om Om) <| Zi rfl <| cT ?_
 exact g _ _ (k + 1) Za ⟨rfl, trivial⟩ ⟨hB, Om, (ey hq (Decidable.of_not_not c)), trivial⟩ Zo
 refine dr <| f _ _ <| Zr <| Zw (.bool false) rfl <| cT <| Zt <| dE (v := .bool false) rfl ⟨hB, ?_⟩
 exact Qh (k := k) Om Om hq
theorem yC (xa : Value) (a : List Int) (w : World) (ha : dM d9 1 w xa a) (hal : a.length ≤ 4000) (hsm : ∀ x, x ∈ a → 0 ≤ x ∧ x < 65536) :
    Fn Tryz.prog 70 #[xa] w fun v w' => v = mw (jX a) := by
 refine dq (n := 23) Tryz.func70 rfl rfl (Nat.le_of_ble_eq_true rfl) ?_
 have hB : Below w.heap.size w w := Below.refl _ _
 refine Zr <| Zw (.string _) rfl <| cT <| Zr <| Zw (.slice none 0 0) rfl <| cT <| cY fun K5 l => Zr <| Zw xa rfl <| Zv (dA (v := xa) rfl (Below.slT hB ha) du) <| Zw (.int .i64 0) rfl <| cT <| c7 ?_
 refine dw (σ := (Nat) × (Value)) [3, 5, 8, 9, 10, 11, 12, 13, 14, 15, 16, 17, 18, 19, 20] (fun (k, v0) => [(8, .int .i64 (k : Int)), (3, v0)]) (fun sg W => match sg with | (k, v0) => (Below w.heap.size w W) ∧ (dh zZ 1 5 W w.heap.size v0 (pl (a.take k))) ∧ (k ≤ a.length) ∧ (True)) (fun (k, v0) => a.length - k) ((0, .slice none 0 0)) ⟨rfl, rfl, trivial⟩ ⟨hB, dh.nil, (Nat.zero_le _), trivial⟩ ?_
 clear hB
 rintro ⟨k, v0⟩ y W9 ⟨hB, ho, hk, _⟩ z m
 refine Zr <| Zv (dL rfl rfl) <| cT <| cY fun A o => ZQ rfl (fun p => ?_) fun p => ?_
 refine c9 <| o _ _ <| cY fun B q => c7 <| Zr <| Zv (dJ (v := xa) rfl (Below.slT hB ha) rfl du Om Ol39_0) <| Zv (dk (v := .int .i64 _) rfl dB (dM.cell (Below.slT hB ha) eB 0 Om Ol39_0 0 rfl)) <| Zi rfl <| cT ?_
 have r := (hsm (a.getD k 0) (dS (by omega))).1
 have hwl : (pl (a.take k)).length ≤ 8000 := by rw [Fl, List.length_take]; omega
 refine cZ <| Zw v0 rfl <| Zi rfl <| Zv (MM rfl rfl r) <| Zv (Gz rfl Tryz.underlying3 Tryz.underlying5) <| Zi rfl <| Zv (Gz rfl Tryz.underlying3 Tryz.underlying5) <| Zy (Dn (u0 := .int .u8 _) (u1 := .int .u8 _) rfl rfl A3 Ij rfl rfl Dd Dd fun e C c f s => ?_)
 have t := ZO c hB
 have olt_ho := dh.lt2 ho
 have g : eO v0 (.slice (some ⟨e, 0, none⟩) 2 2) := fun j h1 h2 => by cases h2; exact absurd (olt_ho _ h1) (by rw [c]; exact Nat.lt_irrefl _)
 clear c
 replace hB := Ze hB f
 replace ho := f.ow ho
 have b := wr (enc := zZ) (sz := 1) (a0 := _) (a1 := _) s rfl rfl rfl rfl t
 refine Zy (jv (v := v0) (v2 := .slice (some ⟨e, 0, none⟩) 2 2) rfl rfl A3 Ij Dd ho b.sl (y8) (by have := Below.size hB; omega) (by simp; omega) (by simp; omega) fun h D i d u => ?_)
 have E := eO.app g u b
 replace d := dh.app (enc := zZ) rfl rfl rfl rfl d
 replace hB := ZG hB i ho
 replace b := dh.grownAp b g i
 clear ho
 refine Zw h rfl <| cT <| q _ _ <| cZ <| Zv (dp rfl rfl Om Om) <| Zi rfl <| cT ?_
 exact m _ _ ((k + 1, h)) Za ⟨rfl, rfl, trivial⟩ ⟨hB, (by rw [← CB a k Om]; exact d), Om, trivial⟩ (by show a.length - (k + 1) < a.length - k; omega)
 refine dr <| l _ _ ?_
 obtain rfl : k = a.length := by omega
 rw [List.take_length] at ho
 refine Zr <| Zw v0 rfl <| Zv (Dz (v := v0) rfl ho.sl Tryz.underlying150 Tryz.underlying5 Tryz.underlying9) <| Zw (mw _) rfl <| cT <| Zt <| dE (v := mw _) rfl ⟨hB, ?_⟩
 rfl
theorem Pu (N o : Nat) (p n : Int) (l : List Rw) (ks : List (List Int)) (bl bp bmet bm bq b4 bs : Nat) (xl xp rv xq s1 s2 : Value) (vs : List Value) (lq : List Int) (w : World) (hN0 : N ≤ w.heap.size) (ho : o < 8) (hp : 0 ≤ p ∧ p.toNat < 2 ^ n.toNat) (hl4 : l.length ≤ 4000) (hlr : g6 l) (hrr : ∀ k, k < l.length → dY (l.getD k ⟨⟨0, 0⟩, 0⟩).c.m (l.getD k ⟨⟨0, 0⟩, 0⟩).c.v n = true) (hnd : ks.Nodup) (hkr : ∀ x, x ∈ ks → oS l x) (hkl : ks.length ≤ 2000) (hl : dM gv 3 w xl l) (hbl : At w bl #[xl] 29) (hbp : At w bp #[xp] 22) (hpo : dh gt 4 49 w N xp (tn l n l.length)) (hbm : At w bmet #[.map (some bq)] 108) (hq : dR mw Value.bool w bq (ft ((ks).map jX))) (d : At w b4 #[.int .i64 0, .slice none 0 0] 77) (hbs : At w bs #[.int .i64 n, s1, s2] 24) (hxq : dh d9 1 3 w N xq lq) (hmm : At w bm #[.int .i64 (l.length : Int), rv] 77) (hrv : dh encV 1 80 w N rv vs) (hLO : LO 3 N w vs (gT ks)) (lom : N ≤ bm) (loq : N ≤ bq) (hne : b4 ≠ bm) :
    qJ Tryz.prog 68 #[.int .i64 (o : Int), .int .i64 p, .pointer (some ⟨bl, 0, none⟩), .pointer (some ⟨bp, 0, none⟩), .pointer (some ⟨bmet, 0, none⟩), .pointer (some ⟨bm, 0, none⟩)] w fun v w' => Below N w w' ∧ At w' bl #[xl] 29 ∧ At w' bp #[xp] 22 ∧ dh gt 4 49 w' N xp (tn l n l.length) ∧ At w' bmet #[.map (some bq)] 108 ∧ dR mw Value.bool w' bq (ft ((iy ks (qD l o p.toNat)).map jX)) ∧ At w' b4 #[.int .i64 0, .slice none 0 0] 77 ∧ At w' bs #[.int .i64 n, s1, s2] 24 ∧ dh d9 1 3 w' N xq lq ∧ ∃ rv' vs', At w' bm #[.int .i64 (l.length : Int), rv'] 77 ∧ dh encV 1 80 w' N rv' vs' ∧ LO 3 N w' vs' (gT (iy ks (qD l o p.toNat))) := by
 refine eX (n := 77) Tryz.func68 rfl rfl (Nat.le_of_ble_eq_true rfl) ?_
 have hB : Below N w w := Below.refl _ _
 have hpl := AZ (l := l) (n := n) (Nat.le_refl _)
 have hkl2 := yl ks
 have hvl := hLO.len
 have R := hB
 replace hB := Below.refl w.heap.size w
 refine Zr <| Zw (.slice none 0 0) rfl <| cT <| cY fun K4 aw => Zr <| ZL xl rfl l6 (Below.atI hB hbl) rfl <| Zv (dA (v := xl) rfl (Below.slT hB hl) dT) <| Zw (.int .i64 0) rfl <| cT <| c7 ?_
 refine dw (σ := (Nat) × (Value)) [8, 9, 10, 15, 16, 17, 18, 19, 20, 21, 22, 23, 24, 25, 26, 27, 28, 29, 30, 31, 32, 33, 34, 35, 36, 37, 38] (fun (k, v0) => [(15, .int .i64 (k : Int)), (8, v0)]) (fun sg W => match sg with | (k, v0) => (Below w.heap.size w W) ∧ (dh d9 1 3 W w.heap.size v0 (ji l o p.toNat k)) ∧ (k ≤ l.length) ∧ (True)) (fun (k, v0) => l.length - k) ((0, .slice none 0 0)) ⟨rfl, rfl, trivial⟩ ⟨hB, dh.nil, (Nat.zero_le _), trivial⟩ ?_
 clear hB
 rintro ⟨k, v0⟩ g9 W8 ⟨hB, ho, hk, _⟩ aT aa
 refine Zr <| Zv (dL rfl rfl) <| cT <| cY fun aU ax => ZQ rfl (fun ay => ?_) fun ay => ?_
 refine c9 <| ax _ _ <| cY fun aV ab => c7 <| Zr <| Zi rfl <| Zv (dJ (v := xl) rfl (Below.slT hB hl) rfl dT Om Ol39_0) <| Zv (ld rfl eA (dM.cell (Below.slT hB hl) eh ⟨⟨0, 0⟩, 0⟩ Om Ol39_0 0 rfl) (dM.cell (Below.slT hB hl) eh ⟨⟨0, 0⟩, 0⟩ Om Ol39_0 1 rfl) (dM.cell (Below.slT hB hl) eh ⟨⟨0, 0⟩, 0⟩ Om Ol39_0 2 rfl)) <| Zy (dt kO rfl fun aW aX al ao M => ?_)
 have az := ZO al hB
 clear al
 replace hB := Ze hB ao
 replace ho := ao.ow ho
 refine Zi rfl <| Zy (dg rfl rfl eA rfl M rfl rfl fun aY ap aA => ?_)
 replace hB := Zg hB ap az
 replace ho := dh.grownAt ho M ap Dd
 replace M := aA
 refine cT ?_
 obtain ⟨aZ, a0, aB⟩ := hlr.get (k := k) (by omega)
 refine Zr <| Zf rfl fK <| Zl rfl ef M rfl <| Zi rfl <| Zv (si rfl rfl Om (by simp only [IntKind.bits]; omega)) <| Zv (nC (n := 1) rfl rfl rfl (by show (l.getD k ⟨⟨0, 0⟩, 0⟩).o / 2 ^ ((o : Nat) : Int).toNat < 256; exact Nat.lt_of_le_of_lt (Nat.div_le_self _ _) aB) Dd) <| Zv (eD rfl rfl) <| ZX rfl (fun O => ?_) fun O => ?_
 refine ZL xp rfl eH (Below.atI hB hbp) rfl <| Zi rfl <| Zv (dJ (v := xp) rfl ((Below.ow hB hpo)).sl rfl eb Om Ol39_0) <| Zv (fp rfl df (dM.cell ((Below.ow hB hpo)).sl dG 0 Om Ol39_0 0 rfl) (dM.cell ((Below.ow hB hpo)).sl dG 0 Om Ol39_0 1 rfl) (dM.cell ((Below.ow hB hpo)).sl dG 0 Om Ol39_0 2 rfl) (dM.cell ((Below.ow hB hpo)).sl dG 0 Om Ol39_0 3 rfl)) <| Zi rfl <| ZC (vs := [.agg #[_, _, _, _], .int .i64 _]) IQ (xD _ _ _) rfl fun a1 a2 ac aC => ?_
 replace hB := Ze hB ac
 replace ho := ac.ow ho
 replace M := ac.at M
 obtain rfl := aC
 refine Zb rfl <| cT <| ZQ rfl (fun Q => ?_) fun Q => ?_
 have hrl := tk l o p.toNat k
 refine cZ <| Zw v0 rfl <| Zi rfl <| Zy (e7 (u := .int .i64 _) rfl du fv rfl Dd Dd fun ad a3 Y ae aD => ?_)
 have a4 := ZO Y hB
 have a5 := dh.neB (b := ad) (Below.ow hB hxq) (Nat.le_of_eq Y.symm)
 have a6 := dh.neB (b := ad) ho (Nat.le_of_eq Y.symm)
 clear Y
 replace hB := Ze hB ae
 replace ho := ae.ow ho
 replace M := ae.at M
 refine Zy (ez (v := v0) (v2 := .slice (some ⟨ad, 0, none⟩) 1 1) rfl rfl du fv Dd ho (fE aD rfl) rfl (by have := Below.size hB; omega) (by first | omega | (simp; omega) | (simp only [cV, cW, cX, da, de]; omega)) (by first | omega | (simp; omega) | (simp only [cV, cW, cX, da, de]; omega)) fun aq a7 ar U => ?_)
 replace U := dh.snoc (enc := d9) (x := _) rfl rfl rfl rfl U
 replace hB := ZG hB ar ho
 replace M := At.grownOw M ho ar Dd
 clear ho
 refine Zw aq rfl <| cT <| ab _ _ <| cZ <| Zv (dp rfl rfl Om Om) <| Zi rfl <| cT ?_
 exact aa _ _ ((k + 1, aq)) Za ⟨rfl, rfl, trivial⟩ ⟨hB, (by first | (rw [← JC (k := k) (o := o) Om (hrr k Om) hp O Q]; exact U) | (rw [← CQ (k := k) (o := o) Om (hrr k Om) hp O Q]; exact U) | (rw [← Cw (k := k) (o := o) O]; exact U)), Om, trivial⟩ (by show l.length - (k + 1) < l.length - k; omega)
 refine c9 <| ab _ _ <| cZ <| Zv (dp rfl rfl Om Om) <| Zi rfl <| cT ?_
 exact aa _ _ ((k + 1, v0)) Za ⟨rfl, rfl, trivial⟩ ⟨hB, (by first | (rw [← JC (k := k) (o := o) Om (hrr k Om) hp O Q]; exact ho) | (rw [← CQ (k := k) (o := o) Om (hrr k Om) hp O Q]; exact ho) | (rw [← Cw (k := k) (o := o) O]; exact ho)), Om, trivial⟩ (by show l.length - (k + 1) < l.length - k; omega)
 refine Zs <| Zs <| Zs <| Zs <| Zs <| Zs <| Zw (.bool false) rfl <| cT <| d4 rfl <| c9 <| ab _ _ <| cZ <| Zv (dp rfl rfl Om Om) <| Zi rfl ?_
 refine cT ?_
 exact aa _ _ ((k + 1, v0)) Za ⟨rfl, rfl, trivial⟩ ⟨hB, (by first | (rw [← JC (k := k) (o := o) Om (hrr k Om) hp O Q]; exact ho) | (rw [← CQ (k := k) (o := o) Om (hrr k Om) hp O Q]; exact ho) | (rw [← Cw (k := k) (o := o) O]; exact ho)), Om, trivial⟩ (by show l.length - (k + 1) < l.length - k; omega)
 refine dr <| aw _ _ ?_
 obtain rfl : k = l.length := by omega
 have hro : oS l (qD l o p.toNat) := ⟨o, p.toNat, rfl⟩
 have hrl := tk l o p.toNat l.length
 refine Zr <| Zw v0 rfl <| ZC N3 (yC _ (ji l o p.toNat l.length) _ ho.sl Om (hro.small hl4)) rfl fun a8 a9 au aE => ?_
 replace hB := Ze hB au
 replace ho := au.ow ho
 obtain rfl := aE
 refine Zw (.string _) rfl <| cT <| cY fun ba aF => Zr <| ZL (.map (some bq)) rfl wu (Below.atI hB hbm) rfl <| Zw (.string _) rfl <| Zv (fS (enc := mw) (encV := Value.bool) (v0 := false) (k := (jX (qD l o p.toNat))) rfl rfl z6 EC (fun a => ⟨a, rfl⟩) z8 oX rfl (Below.mapI hB hq)) <| cT <| ZQ rfl (fun af => ?_) fun af => ?_
 refine wg ?_
 clear hl
 replace hbl := Below.atI hB hbl
 replace hbp := Below.atI hB hbp
 replace hpo := Below.ow hB hpo
 replace hbm := Below.atI hB hbm
 replace hq := Below.mapI hB hq
 replace d := Below.atI hB d
 replace hbs := Below.atI hB hbs
 replace hxq := Below.ow hB hxq
 replace hmm := Below.atI hB hmm
 replace hrv := Below.ow hB hrv
 replace hLO := LO.below hB hLO
 have hzs := Nat.le_trans hN0 (Below.size R)
 replace ho := dh.mono ho hzs
 replace hB := Below.trans R (Below.mono hB hzs)
 clear R hzs
 repeat (first | refine jZ ?_ | refine jj ?_)
 refine Ip ?_
 have hin : qD l o p.toNat ∈ ks := (rO hl4 hkr hro).1 (mS af)
 rw [Fs hin]
 exact ⟨hB, hbl, hbp, hpo, hbm, hq, d, hbs, hxq, rv, vs, hmm, hrv, hLO⟩
 refine c9 <| aF _ _ ?_
 clear hl
 replace hbl := Below.atI hB hbl
 replace hbp := Below.atI hB hbp
 replace hpo := Below.ow hB hpo
 replace hbm := Below.atI hB hbm
 replace hq := Below.mapI hB hq
 replace d := Below.atI hB d
 replace hbs := Below.atI hB hbs
 replace hxq := Below.ow hB hxq
 replace hmm := Below.atI hB hmm
 replace hrv := Below.ow hB hrv
 replace hLO := LO.below hB hLO
 have hzs := Nat.le_trans hN0 (Below.size R)
 replace ho := dh.mono ho hzs
 replace hB := Below.trans R (Below.mono hB hzs)
 clear R hzs
 have hnr : qD l o p.toNat ∉ ks := fun h => lr af ((rO hl4 hkr hro).2 h)
 refine Zr <| ZL (.map (some bq)) rfl wu hbm rfl <| Zw (.string _) rfl ?_
 refine gS (dd := none) rfl rfl rfl (fI (enc := mw) (encV := Value.bool) (k := (jX (qD l o p.toNat))) (v := true) rfl rfl rfl z6 EC (fun a => ⟨a, rfl⟩) z8 hq (fun bb K aG => ?_))
 replace hbl := At.grownMap hbl hq K
 replace hbp := At.grownMap hbp hq K
 replace hpo := dh.grownMap hpo hq K
 replace hbm := At.grownMap hbm hq K
 replace d := At.grownMap d hq K
 replace hbs := At.grownMap hbs hq K
 replace hxq := dh.grownMap hxq hq K
 replace hmm := At.grownMap hmm hq K
 replace hrv := dh.grownMap hrv hq K
 replace hLO := LO.grownMap hLO hq K
 replace hB := dy hB K hN0 (fun j hj => by cases hj; exact loq)
 replace ho := dh.grownMap ho hq K
 clear K hq
 replace hq := aG
 rw [jm, GF hl4 hkr hro] at hq
 refine cT <| Zr <| Zf rfl eq <| ZL rv rfl fj hmm rfl <| Zv (dA (v := rv) rfl hrv.sl ea) <| Zi rfl <| cT <| cY fun bc av => c7 ?_
 refine dw (σ := (Nat)) [12, 49, 50, 51, 52, 53, 54, 55, 56, 57, 58, 59, 60, 61, 62] (fun i => [(12, .int .i64 (i : Int))]) (fun i W => (At W bl _ 29) ∧ (At W bp _ 22) ∧ (dh gt 4 49 W N xp _) ∧ (At W bmet _ 108) ∧ (dR mw Value.bool W bq _) ∧ (At W b4 _ 77) ∧ (At W bs _ 24) ∧ (dh d9 1 3 W N xq _) ∧ (At W bm _ 77) ∧ (dh encV 1 80 W N rv _) ∧ (LO 3 N W vs (gT ks)) ∧ (Below N w W) ∧ (dh d9 1 3 W N v0 _) ∧ (i ≤ (gT ks).length) ∧ (∀ q, i ≤ q → q < (gT ks).length → fM (qD l o p.toNat) ((gT ks).getD q []) = true) ∧ (True)) (fun i => i) ((gT ks).length) ⟨congrArg (fun q : Nat => Value.int .i64 (q : Int)) hvl, trivial⟩ ⟨hbl, hbp, hpo, hbm, hq, d, hbs, hxq, hmm, hrv, hLO, hB, ho, (Nat.le_refl _), (fun q h1 h2 => by omega), trivial⟩ ?_
 clear hbl hbp hpo hbm hq d hbs hxq hmm hrv hLO hB ho
 rintro i bd aH ⟨hbl, hbp, hpo, hbm, hq, d, hbs, hxq, hmm, hrv, hLO, hB, ho, hi, hq2, _⟩ bf aI
 refine cY fun bg aJ => ?_
 have hsl := Hc hkr (i - 1)
 refine Zr <| Zi rfl <| Zv (iQ rfl rfl) <| ZX rfl (fun aK => ?_) fun aK => ?_
 refine Zw v0 rfl <| Zf rfl eq <| ZL rv rfl fj hmm rfl <| Zi rfl <| Zv (kU rfl rfl Om Om) <| Zv (dJ (v := rv) rfl hrv.sl rfl ea Om Ol39_0) <| Zv (dk (v := (vs.getD ((i : Int) - 1).toNat undef)) rfl iM (dM.cell hrv.sl fW undef Om Ol39_0 0 rfl)) ?_
 have P : dM d9 1 aH ((vs.getD ((i : Int) - 1).toNat undef)) ((gT ks).getD (i - 1) []) := (by rw [show ((i : Int) - 1).toNat = i - 1 by omega]; exact (LO.ll hLO).get (i - 1) (by omega))
 refine ZC OV (w5 _ _ _ _ _ ho.sl P (by first | assumption | omega) (by first | assumption | omega)) rfl fun bh bi E aL => ?_
 replace hbl := E.at hbl
 replace hbp := E.at hbp
 replace hpo := E.ow hpo
 replace hbm := E.at hbm
 replace hq := E.mapT hq
 replace d := E.at d
 replace hbs := E.at hbs
 replace hxq := E.ow hxq
 replace hmm := E.at hmm
 replace hrv := E.ow hrv
 replace hLO := LO.ext E hLO
 replace hB := dF hB E hN0
 replace ho := E.ow ho
 replace P := E.slT P
 obtain rfl := aL
 refine Zb rfl <| cT <| ZQ rfl (fun Z => ?_) fun Z => ?_
 refine c9 <| aJ _ _ <| c7 <| cZ <| Zi rfl <| Zv (kU rfl rfl Om Om) <| Zi rfl <| cT ?_
 exact aI _ _ (i - 1) Za ⟨congrArg (Value.int .i64) (by omega : (i : Int) - 1 = ((i - 1 : Nat) : Int)), trivial⟩ ⟨hbl, hbp, hpo, hbm, hq, d, hbs, hxq, hmm, hrv, hLO, hB, ho, Om, (fun q h1 h2 => if e : q = i - 1 then by rw [e]; exact Z else hq2 q Om h2), trivial⟩ Zo
 refine dr <| av _ _ ?_
 have hput := Jo (i := i) hnd hnr hi hq2 (fun h0 => by first | omega | exact Z)
 have hC : vs.length ≤ iV rv := (Sl.eqv hrv.sl).2.1
 have hone := LO.one hLO
 refine gx eo io (fun ag F => ?_)
 replace hbl := F.at hbl
 replace hbp := F.at hbp
 replace hpo := F.ow hpo
 replace hbm := F.at hbm
 replace hq := F.mapT hq
 replace d := F.at d
 replace hbs := F.at hbs
 replace hxq := F.ow hxq
 replace hmm := F.at hmm
 replace hrv := F.ow hrv
 replace hLO := LO.ext F hLO
 replace hB := dF hB F hN0
 replace ho := F.ow ho
 replace P := F.slT P
 have hS := eo.refl ag
 refine Tf 0 rfl rfl eq hS <| Tk 1 rfl (fun _ hq => dk (v := rv) rfl fj (At.cell (hq.at hmm) rfl)) hS <| Ti 2 rfl rfl hS <| Ti 3 rfl rfl hS <| Tk 4 rfl (fun _ hq => md (v := rv) rfl ((hq.ow hrv)).sl ea rfl rfl Om Om Om) hS ?_
 have f : dM encV 1 ag (fV 1 rv 0 i i) ((vs.drop 0).take (i - 0)) := dM.part fW hrv.sl (by omega) (by omega) (by omega) (by omega)
 refine Tw 5 v0 rfl rfl hS <| Tf 7 rfl rfl eq hS <| Tk 8 rfl (fun _ hq => dk (v := rv) rfl fj (At.cell (hq.at hmm) rfl)) hS <| Ti 9 rfl rfl hS <| Tk 10 rfl (fun _ hq => mf (v := rv) rfl ((hq.ow hrv)).sl ea rfl Om Om) hS ?_
 have g : dM encV 1 ag (fV 1 rv i vs.length (iV rv)) ((vs.drop i).take (vs.length - i)) := dM.part fW hrv.sl (by omega) (by omega) (by omega) (by omega)
 refine To 6 rfl (e7 (u := v0) rfl ea ja (by rw [dM.cells ho.sl]; rfl) Dd Dd fun B bj S r V => ⟨.inl (hS.trans r), ?_⟩)
 have ah : N ≤ B := S ▸ (Nat.le_trans hN0 (Below.size hB))
 have X := Nat.le_trans (eo.size hS) (Nat.le_of_eq S.symm)
 have aM := dh.neB (b := B) hrv (Nat.le_of_eq S.symm)
 have aN := dM.far (b := B) f (Nat.le_of_eq S.symm)
 have aO := dM.far (b := B) g (Nat.le_of_eq S.symm)
 clear S
 replace hbl := r.at hbl
 replace hbp := r.at hbp
 replace hpo := r.ow hpo
 replace hbm := r.at hbm
 replace hq := r.mapT hq
 replace d := r.at d
 replace hbs := r.at hbs
 replace hxq := r.ow hxq
 replace hmm := r.at hmm
 replace hrv := r.ow hrv
 replace hLO := LO.ext r hLO
 replace hB := dF hB r hN0
 replace ho := r.ow ho
 replace P := r.slT P
 replace f := r.slT f
 replace g := r.slT g
 replace hS := hS.trans r
 rw [dM.cells ho.sl] at V
 have G := ix (enc := encV) (a := v0) V rfl rfl ah
 refine To 11 rfl (ez (v := .slice (some ⟨B, 0, none⟩) 1 1) (v2 := fV 1 rv i vs.length (iV rv)) rfl rfl ea ja Dd G g ((Ad hone)) (by have := Below.size hB; omega) (by simp; omega) (by simp; omega) fun ai bk z C => ⟨.inl (dy hS z (Nat.le_refl _) (fun j hj => by have e : B = j := Option.some.inj hj; rw [← e]; exact X)), ?_⟩)
 replace hS : eo _ _ := dy hS z (Nat.le_refl _) (fun j hj => by have e : B = j := Option.some.inj hj; rw [← e]; exact X)
 replace C := dh.app (enc := encV) rfl rfl rfl rfl C
 replace hbl := At.grownOw hbl G z Dd
 replace hbp := At.grownOw hbp G z Dd
 replace hpo := dh.grownOw hpo G z Dd
 replace hbm := At.grownOw hbm G z Dd
 replace hq := dR.grownOw hq G z
 replace d := At.grownOw d G z Dd
 replace hbs := At.grownOw hbs G z Dd
 replace hxq := dh.grownOw hxq G z Dd
 replace hmm := At.grownOw hmm G z Dd
 replace hLO := LO.grownOw hLO G z Dd
 replace hB := dy hB z hN0 (fun j hj => (dh.lt G j hj))
 replace ho := dh.grownOw ho G z Dd
 replace f := dM.grownFar f aN z
 replace g := dM.grownFar g aO z
 clear hrv P G
 refine To 12 rfl (ju (N := N) (v := fV 1 rv 0 i i) (v2 := ai) rfl rfl ea ja f (qt (by simp; omega)) C.sl (by simp) (Nat.le_trans hN0 (Below.size hB)) (by simp; omega) (by simp; omega) fun aj bn s D => ⟨.inl (hS.trans s), ?_⟩)
 replace D := dh.app (enc := encV) rfl rfl rfl rfl D
 replace hbl := s.at hbl
 replace hbp := s.at hbp
 replace hpo := s.ow hpo
 replace hbm := s.at hbm
 replace hq := s.mapT hq
 replace d := s.at d
 replace hbs := s.at hbs
 replace hxq := s.ow hxq
 replace hmm := s.at hmm
 replace hLO := LO.ext s hLO
 replace hB := dF hB s hN0
 replace ho := s.ow ho
 replace f := s.slT f
 replace g := s.slT g
 replace C := s.ow C
 replace hS := hS.trans s
 refine Tf 13 rfl rfl eq hS <| To 14 rfl (eC (v := aj) rfl rfl fj (dM.one D.sl) hmm (by simp) fun bo H aP => ⟨.inr (by kernel_rfl), ?_⟩)
 replace hbl := At.grownAt hbl hmm H Dd
 replace hbp := At.grownAt hbp hmm H Dd
 replace hpo := dh.grownAt hpo hmm H Dd
 replace hbm := At.grownAt hbm hmm H Dd
 replace hq := dR.grownAt hq hmm H
 replace d := At.grownNe d hne H
 replace hbs := At.grownAt hbs hmm H Dd
 replace hxq := dh.grownAt hxq hmm H Dd
 replace hLO := LO.grownAt hLO hmm H Dd
 replace hB := dy hB H hN0 (fun j hj => by cases hj; exact lom)
 replace ho := dh.grownAt ho hmm H Dd
 replace C := dh.grownAt C hmm H Dd
 replace D := dh.grownAt D hmm H Dd
 clear f g H hmm
 replace hmm := aP
 replace hmm : At _ _ #[_, _] _ := hmm
 refine Td ?_
 repeat (first | refine n7 ?_ | refine m7 ?_)
 refine nc ?_
 repeat (first | refine jZ ?_ | refine jj ?_)
 refine Ip ?_
 rw [← hput]
 rw [List.drop_zero, Nat.sub_zero, BD] at D
 exact ⟨hB, hbl, hbp, hpo, hbm, hq, d, hbs, hxq, _, _, hmm, D, LO.put (i := i) hLO ho hi⟩
 refine Zs <| Zs <| Zs <| Zs <| Zs <| Zs <| Zs <| Zs <| Zw (.bool false) rfl <| cT <| d4 rfl <| dr <| av _ _ ?_
 have hput := Jo (i := i) hnd hnr hi hq2 (fun h0 => by first | omega | exact Z)
 have hC : vs.length ≤ iV rv := (Sl.eqv hrv.sl).2.1
 have hone := LO.one hLO
 refine gx eo io (fun ak L => ?_)
 replace hbl := L.at hbl
 replace hbp := L.at hbp
 replace hpo := L.ow hpo
 replace hbm := L.at hbm
 replace hq := L.mapT hq
 replace d := L.at d
 replace hbs := L.at hbs
 replace hxq := L.ow hxq
 replace hmm := L.at hmm
 replace hrv := L.ow hrv
 replace hLO := LO.ext L hLO
 replace hB := dF hB L hN0
 replace ho := L.ow ho
 have hS := eo.refl ak
 refine Tf 0 rfl rfl eq hS <| Tk 1 rfl (fun _ hq => dk (v := rv) rfl fj (At.cell (hq.at hmm) rfl)) hS <| Ti 2 rfl rfl hS <| Ti 3 rfl rfl hS <| Tk 4 rfl (fun _ hq => md (v := rv) rfl ((hq.ow hrv)).sl ea rfl rfl Om Om Om) hS ?_
 have f : dM encV 1 ak (fV 1 rv 0 i i) ((vs.drop 0).take (i - 0)) := dM.part fW hrv.sl (by omega) (by omega) (by omega) (by omega)
 refine Tw 5 v0 rfl rfl hS <| Tf 7 rfl rfl eq hS <| Tk 8 rfl (fun _ hq => dk (v := rv) rfl fj (At.cell (hq.at hmm) rfl)) hS <| Ti 9 rfl rfl hS <| Tk 10 rfl (fun _ hq => mf (v := rv) rfl ((hq.ow hrv)).sl ea rfl Om Om) hS ?_
 have g : dM encV 1 ak (fV 1 rv i vs.length (iV rv)) ((vs.drop i).take (vs.length - i)) := dM.part fW hrv.sl (by omega) (by omega) (by omega) (by omega)
 refine To 6 rfl (e7 (u := v0) rfl ea ja (by rw [dM.cells ho.sl]; rfl) Dd Dd fun B br T t V => ⟨.inl (hS.trans t), ?_⟩)
 have ah : N ≤ B := T ▸ (Nat.le_trans hN0 (Below.size hB))
 have X := Nat.le_trans (eo.size hS) (Nat.le_of_eq T.symm)
 have aM := dh.neB (b := B) hrv (Nat.le_of_eq T.symm)
 have aQ := dM.far (b := B) f (Nat.le_of_eq T.symm)
 have aR := dM.far (b := B) g (Nat.le_of_eq T.symm)
 clear T
 replace hbl := t.at hbl
 replace hbp := t.at hbp
 replace hpo := t.ow hpo
 replace hbm := t.at hbm
 replace hq := t.mapT hq
 replace d := t.at d
 replace hbs := t.at hbs
 replace hxq := t.ow hxq
 replace hmm := t.at hmm
 replace hrv := t.ow hrv
 replace hLO := LO.ext t hLO
 replace hB := dF hB t hN0
 replace ho := t.ow ho
 replace f := t.slT f
 replace g := t.slT g
 replace hS := hS.trans t
 rw [dM.cells ho.sl] at V
 have I := ix (enc := encV) (a := v0) V rfl rfl ah
 refine To 11 rfl (ez (v := .slice (some ⟨B, 0, none⟩) 1 1) (v2 := fV 1 rv i vs.length (iV rv)) rfl rfl ea ja Dd I g ((Ad hone)) (by have := Below.size hB; omega) (by simp; omega) (by simp; omega) fun ai bt A C => ⟨.inl (dy hS A (Nat.le_refl _) (fun j hj => by have e : B = j := Option.some.inj hj; rw [← e]; exact X)), ?_⟩)
 replace hS : eo _ _ := dy hS A (Nat.le_refl _) (fun j hj => by have e : B = j := Option.some.inj hj; rw [← e]; exact X)
 replace C := dh.app (enc := encV) rfl rfl rfl rfl C
 replace hbl := At.grownOw hbl I A Dd
 replace hbp := At.grownOw hbp I A Dd
 replace hpo := dh.grownOw hpo I A Dd
 replace hbm := At.grownOw hbm I A Dd
 replace hq := dR.grownOw hq I A
 replace d := At.grownOw d I A Dd
 replace hbs := At.grownOw hbs I A Dd
 replace hxq := dh.grownOw hxq I A Dd
 replace hmm := At.grownOw hmm I A Dd
 replace hLO := LO.grownOw hLO I A Dd
 replace hB := dy hB A hN0 (fun j hj => (dh.lt I j hj))
 replace ho := dh.grownOw ho I A Dd
 replace f := dM.grownFar f aQ A
 replace g := dM.grownFar g aR A
 clear hrv I
 refine To 12 rfl (ju (N := N) (v := fV 1 rv 0 i i) (v2 := ai) rfl rfl ea ja f (qt (by simp; omega)) C.sl (by simp) (Nat.le_trans hN0 (Below.size hB)) (by simp; omega) (by simp; omega) fun aj bu y D => ⟨.inl (hS.trans y), ?_⟩)
 replace D := dh.app (enc := encV) rfl rfl rfl rfl D
 replace hbl := y.at hbl
 replace hbp := y.at hbp
 replace hpo := y.ow hpo
 replace hbm := y.at hbm
 replace hq := y.mapT hq
 replace d := y.at d
 replace hbs := y.at hbs
 replace hxq := y.ow hxq
 replace hmm := y.at hmm
 replace hLO := LO.ext y hLO
 replace hB := dF hB y hN0
 replace ho := y.ow ho
 replace f := y.slT f
 replace g := y.slT g
 replace C := y.ow C
 replace hS := hS.trans y
 refine Tf 13 rfl rfl eq hS <| To 14 rfl (eC (v := aj) rfl rfl fj (dM.one D.sl) hmm (by simp) fun bv J aS => ⟨.inr (by kernel_rfl), ?_⟩)
 replace hbl := At.grownAt hbl hmm J Dd
 replace hbp := At.grownAt hbp hmm J Dd
 replace hpo := dh.grownAt hpo hmm J Dd
 replace hbm := At.grownAt hbm hmm J Dd
 replace hq := dR.grownAt hq hmm J
 replace d := At.grownNe d hne J
 replace hbs := At.grownAt hbs hmm J Dd
 replace hxq := dh.grownAt hxq hmm J Dd
 replace hLO := LO.grownAt hLO hmm J Dd
 replace hB := dy hB J hN0 (fun j hj => by cases hj; exact lom)
 replace ho := dh.grownAt ho hmm J Dd
 replace C := dh.grownAt C hmm J Dd
 replace D := dh.grownAt D hmm J Dd
 clear f g J hmm
 replace hmm := aS
 replace hmm : At _ _ #[_, _] _ := hmm
 refine Td ?_
 repeat (first | refine n7 ?_ | refine m7 ?_)
 refine nc ?_
 repeat (first | refine jZ ?_ | refine jj ?_)
 refine Ip ?_
 rw [← hput]
 rw [List.drop_zero, Nat.sub_zero, BD] at D
 exact ⟨hB, hbl, hbp, hpo, hbm, hq, d, hbs, hxq, _, _, hmm, D, LO.put (i := i) hLO ho hi⟩
theorem yU (S : Sp) (onV mayV : Value) (xa : Value) (l : List Rw) (w : World) (hon : dM gt 4 w onV S.on) (hmay : dM gt 4 w mayV S.may) (hl : dM gv 3 w xa l) (hlb : l.length ≤ 1000000) (hlr : g6 l) :
    Fn Tryz.prog 43 #[.agg #[.int .i64 S.n, onV, mayV], xa] w fun v w' => if zF S l = 0 then ∃ rv vs, v = .tuple #[.agg #[.int .i64 (l.length : Int), rv], .int .i64 0] ∧ dh encV 1 80 w' w.heap.size rv vs ∧ LO 3 w.heap.size w' vs (lk S l) else v = .tuple #[.agg #[.int .i64 0, .slice none 0 0], .int .i64 (zF S l)] := by
 refine dq (n := 76) Tryz.func43 rfl rfl (Nat.le_of_ble_eq_true rfl) ?_
 have hB : Below w.heap.size w w := Below.refl _ _
 refine Zr <| Zy (dU (c := #[_, _, _]) rfl rfl fun ad W3 ax aL d => ?_)
 have bz := ZO ax hB
 clear ax
 replace hB := Ze hB aL
 refine Zy (dU (v := xa) (c := #[xa]) rfl (dM.cells (Below.slT hB hl)) fun G W6 ay az f => ?_)
 have bA := ZO ay hB
 clear ay
 replace hB := Ze hB az
 replace d := az.at d
 refine Zy (dt ib rfl fun ae W9 aA al a => ?_)
 have af := ZO aA hB
 clear aA
 replace hB := Ze hB al
 replace d := al.at d
 replace f := al.at f
 refine Zw (.int .i64 0) rfl <| cT <| cY fun bB aM => Zr <| Zv (db rfl eV rfl d) <| ZC (vs := [.agg #[_, _, _]]) rj (iN S _ _  _ (Below.slT hB hon) (Below.slT hB hmay) ) rfl fun bC bD ag aN => ?_
 replace hB := Ze hB ag
 replace d := ag.at d
 replace f := ag.at f
 replace a := ag.at a
 obtain rfl := aN
 refine Zv (fC rfl) <| cT <| ZQ rfl (fun ao => ?_) fun ao => ?_
 refine Zr <| Zv (pT ) <| Zy (dg rfl rfl dH rfl a rfl rfl fun bE ap aO => ?_)
 replace hB := Zg hB ap af
 replace d := At.grownAt d a ap Dd
 replace f := At.grownAt f a ap Dd
 replace a := aO
 refine Zw (.int .i64 1) rfl <| cT <| Zt <| fw rfl dH a rfl (v1 := .int .i64 1) rfl ⟨hB, ?_⟩
 rw [PL (by rw [je ao]; decide), if_neg (by decide)]
 refine c9 <| aM _ _ ?_
 have hr : dP S = true := ij ao
 obtain ⟨h0, h8, h1, h5, h6, _⟩ := d7.1 hr
 refine Zr <| Zy (dt NP rfl fun H bF aB ah g => ?_)
 have aP := ZO aB hB
 clear aB
 replace hB := Ze hB ah
 replace d := ah.at d
 replace f := ah.at f
 replace a := ah.at a
 refine cT <| cY fun bG aQ => Zr <| ZL xa rfl l6 f rfl <| Zv (dA (v := xa) rfl (Below.slT hB hl) dT) <| Zw (.int .i64 0) rfl <| cT <| c7 ?_
 refine dw (σ := (Nat) × (Value)) [5, 8, 9, 10, 24, 25, 26, 27, 28, 29, 30, 31, 32, 33, 34, 35, 36, 37, 38, 39, 40, 41, 42, 43, 44] (fun (k, vp) => [(24, .int .i64 (k : Int))]) (fun sg W => match sg with | (k, vp) => (Below w.heap.size w W) ∧ (At W ad _ 24) ∧ (At W G _ 29) ∧ (At W ae _ 77) ∧ (At W H #[vp] 22) ∧ (dh gt 4 49 W w.heap.size vp (tn l S.n k)) ∧ (k ≤ l.length) ∧ (∀ q, q < k → dY (l.getD q ⟨⟨0, 0⟩, 0⟩).c.m (l.getD q ⟨⟨0, 0⟩, 0⟩).c.v S.n = true) ∧ (True)) (fun (k, vp) => l.length - k) ((0, .slice none 0 0)) ⟨rfl, trivial⟩ ⟨hB, d, f, a, g, dh.nil, (Nat.zero_le _), ff, trivial⟩ ?_
 clear hB d f a g
 rintro ⟨k, vp⟩ bH bI ⟨hB, d, f, a, g, hpo, hk, hq, _⟩ bJ aR
 refine Zr <| Zv (dL rfl rfl) <| cT <| cY fun bK aS => ZQ rfl (fun aT => ?_) fun aT => ?_
 refine c9 <| aS _ _ <| cY fun bL aU => c7 <| Zr <| Zv (dJ (v := xa) rfl (Below.slT hB hl) rfl dT Om Ol39_0) <| Zv (ld rfl eA (dM.cell (Below.slT hB hl) eh ⟨⟨0, 0⟩, 0⟩ Om Ol39_0 0 rfl) (dM.cell (Below.slT hB hl) eh ⟨⟨0, 0⟩, 0⟩ Om Ol39_0 1 rfl) (dM.cell (Below.slT hB hl) eh ⟨⟨0, 0⟩, 0⟩ Om Ol39_0 2 rfl)) <| Zy (dt kO rfl fun bM bN aC X y => ?_)
 have aV := ZO aC hB
 clear aC
 replace hB := Ze hB X
 replace d := X.at d
 replace f := X.at f
 replace a := X.at a
 replace g := X.at g
 replace hpo := X.ow hpo
 refine Zy (dg rfl rfl eA rfl y rfl rfl fun bO Y aW => ?_)
 replace hB := Zg hB Y aV
 replace d := At.grownAt d y Y Dd
 replace f := At.grownAt f y Y Dd
 replace a := At.grownAt a y Y Dd
 replace g := At.grownAt g y Y Dd
 replace hpo := dh.grownAt hpo y Y Dd
 replace y := aW
 refine cT ?_
 obtain ⟨aX, aY, bP⟩ := hlr.get (k := k) (by omega)
 refine Zr <| Zf rfl gI <| Zv (ie rfl dN (At.cell y rfl) (At.cell y rfl)) <| Zf rfl fR <| Zl rfl dB d rfl <| ZC (vs := [.agg #[_, _], .int .i64 _]) zE (k9 _ _ _ _ aX aY) rfl fun bQ bR N aZ => ?_
 replace hB := Ze hB N
 replace d := N.at d
 replace f := N.at f
 replace a := N.at a
 replace g := N.at g
 replace hpo := N.ow hpo
 replace y := N.at y
 obtain ⟨sa, er, rfl, hhP7_4⟩ := sW aZ
 refine Zw (.tuple #[.agg #[_, _, _, _], .int .i64 _]) rfl <| Zv (dI rfl) <| Zv (dK rfl) <| Zy (dt eN rfl fun aD a0 aq O z => ?_)
 have a1 := ZO aq hB
 have aE := dh.neB (b := aD) hpo (Nat.le_of_eq aq.symm)
 clear aq
 replace hB := Ze hB O
 replace d := O.at d
 replace f := O.at f
 replace a := O.at a
 replace g := O.at g
 replace hpo := O.ow hpo
 replace y := O.at y
 replace z : At a0 aD #[wv 0 0, wv 0 1, wv 0 2, wv 0 3] 49 := z
 refine Zy (dg rfl rfl df rfl z rfl rfl fun bS P a2 => ?_)
 replace hB := Zg hB P a1
 replace d := At.grownAt d z P Dd
 replace f := At.grownAt f z P Dd
 replace a := At.grownAt a z P Dd
 replace g := At.grownAt g z P Dd
 replace hpo := dh.grownAtNe hpo aE P
 replace y := At.grownAt y z P Dd
 replace z := a2
 refine Zi rfl <| cT <| cY fun bT a3 => Zr <| Zi rfl <| Zv (gg rfl rfl) <| cT <| ZQ rfl (fun ar => ?_) fun ar => ?_
 refine Zr <| Zv (pT ) <| Zi rfl <| Zy (dg rfl rfl dH rfl a rfl rfl fun bU Q a4 => ?_)
 replace hB := Zg hB Q af
 replace d := At.grownAt d a Q Dd
 replace f := At.grownAt f a Q Dd
 replace g := At.grownAt g a Q Dd
 replace hpo := dh.grownAt hpo a Q Dd
 replace y := At.grownAt y a Q Dd
 replace z := At.grownAt z a Q Dd
 replace a := a4
 refine Zi rfl <| cT <| Zt <| fw rfl dH a rfl (v1 := .int .i64 _) rfl ⟨hB, ?_⟩
 obtain ⟨hrr, her⟩ := hhP7_4.resolve_left (fun h => ar h.2.2)
 rw [PN (k := k) (by omega) (fun q => by have := hrr.symm.trans q; cases this), if_neg (by decide), her]
 refine c9 <| a3 _ _ ?_
 obtain ⟨hrr, hsa, _⟩ := hhP7_4.resolve_right (fun h => ar (fun e => by rw [h.2] at e; cases e))
 subst hsa
 have hpl := AZ (l := l) (n := S.n) (k := k) (by omega)
 refine cZ <| ZL vp rfl eH g rfl <| Zv (db rfl df rfl z) <| Zy (e7 (u := .agg #[_, _, _, _]) rfl eb uB rfl Dd Dd fun aF bV ai I a5 => ?_)
 have bW := ZO ai hB
 have bX := dh.neB (b := aF) hpo (Nat.le_of_eq ai.symm)
 have bY := Zn ai z.lt
 clear ai
 replace hB := Ze hB I
 replace d := I.at d
 replace f := I.at f
 replace a := I.at a
 replace g := I.at g
 replace hpo := I.ow hpo
 replace y := I.at y
 replace z := I.at z
 refine Zy (ez (v := vp) (v2 := .slice (some ⟨aF, 0, none⟩) 1 1) rfl rfl eb uB Dd hpo (fE a5 rfl) rfl (by have := Below.size hB; omega) (by first | omega | (simp; omega) | (simp only [cV, cW, cX, da, de]; omega)) (by first | omega | (simp; omega) | (simp only [cV, cW, cX, da, de]; omega)) fun aG bZ R Z => ?_)
 replace Z := dh.snoc (enc := gt) (x := (qH (l.getD k ⟨⟨0, 0⟩, 0⟩).c.m (l.getD k ⟨⟨0, 0⟩, 0⟩).c.v S.n.toNat)) rfl rfl rfl rfl Z
 replace hB := ZG hB R hpo
 replace d := At.grownOw d hpo R Dd
 replace f := At.grownOw f hpo R Dd
 replace a := At.grownOw a hpo R Dd
 replace g := At.grownOw g hpo R Dd
 replace y := At.grownOw y hpo R Dd
 replace z := At.grownOwNe z aE R
 clear hpo
 refine Zy (eC (v := aG) rfl rfl eH (dM.one Z.sl) g (by simp) fun b0 T a6 => ?_)
 replace hB := Zg hB T aP
 replace d := At.grownAt d g T Dd
 replace f := At.grownAt f g T Dd
 replace a := At.grownAt a g T Dd
 replace y := At.grownAt y g T Dd
 replace z := At.grownAt z g T Dd
 replace Z := dh.grownAt Z g T Dd
 replace g := a6
 replace g : At _ _ #[_] _ := g
 refine cT <| aU _ _ <| cZ <| Zv (dp rfl rfl Om Om) <| Zi rfl <| cT ?_
 exact aR _ _ ((k + 1, aG)) Za ⟨rfl, trivial⟩ ⟨hB, d, f, a, g, (by rw [← FG Om]; exact Z), Om, (ey hq hrr), trivial⟩ (by show l.length - (k + 1) < l.length - k; omega)
 refine dr <| aQ _ _ <| cY fun b1 a7 => ?_
 obtain rfl : k = l.length := by omega
 refine Zr <| ZL xa rfl l6 f rfl <| Zv (dA (v := xa) rfl (Below.slT hB hl) dT) <| Zv (iQ rfl rfl) <| cT <| ZQ rfl (fun a8 => ?_) fun a8 => ?_
 refine Zr <| Zv (pT ) <| Zy (dg rfl rfl dH rfl a rfl rfl fun b2 ac a9 => ?_)
 replace hB := Zg hB ac af
 replace d := At.grownAt d a ac Dd
 replace f := At.grownAt f a ac Dd
 replace g := At.grownAt g a ac Dd
 replace hpo := dh.grownAt hpo a ac Dd
 replace a := a9
 refine Zw (.int .i64 3) rfl <| cT <| Zt <| fw rfl dH a rfl (v1 := .int .i64 3) rfl ⟨hB, ?_⟩
 rw [PR hr hq (by omega), if_neg (by decide)]
 refine c9 <| a7 _ _ <| Zr <| ZL xa rfl l6 f rfl <| Zv (dA (v := xa) rfl (Below.slT hB hl) dT) <| Zv (kf (h0 := rfl) (k0 := rfl) (c0_0 := .int .i64 _)) <| Zy (dt ib rfl fun J b3 au aa j => ?_)
 have aH := ZO au hB
 have av := Zn au a.lt
 clear au
 replace hB := Ze hB aa
 replace d := aa.at d
 replace f := aa.at f
 replace a := aa.at a
 replace g := aa.at g
 replace hpo := aa.ow hpo
 refine Zy (dg rfl rfl dH rfl j rfl rfl fun b4 ab ba => ?_)
 replace hB := Zg hB ab aH
 replace d := At.grownAt d j ab Dd
 replace f := At.grownAt f j ab Dd
 replace a := At.grownNe a av ab
 replace g := At.grownAt g j ab Dd
 replace hpo := dh.grownAt hpo j ab Dd
 replace j := ba
 refine cT <| Zr <| Zy (gE (enc := mw) (encV := Value.bool) fun aj b5 aI U t => ?_)
 have bb := ZO aI hB
 clear aI
 replace hB := Ze hB U
 replace d := U.at d
 replace f := U.at f
 replace a := U.at a
 replace g := U.at g
 replace hpo := U.ow hpo
 replace j := U.at j
 replace t : dR mw Value.bool _ _ (ft (([] : List (List Int)).map jX)) := t
 refine Zy (dt Lb rfl fun K b6 aJ L r => ?_)
 have bc := ZO aJ hB
 clear aJ
 replace hB := Ze hB L
 replace d := L.at d
 replace f := L.at f
 replace a := L.at a
 replace g := L.at g
 replace hpo := L.ow hpo
 replace j := L.at j
 replace t := L.mapT t
 refine Zy (eC (v := .map (some aj)) rfl rfl wu rfl r (by exact Nat.zero_lt_one) fun b7 M bd => ?_)
 replace hB := Zg hB M bc
 replace d := At.grownAt d r M Dd
 replace f := At.grownAt f r M Dd
 replace a := At.grownAt a r M Dd
 replace g := At.grownAt g r M Dd
 replace hpo := dh.grownAt hpo r M Dd
 replace j := At.grownAt j r M Dd
 replace t := dR.grownAt t r M
 replace r := bd
 replace r : At _ _ #[_] _ := r
 refine cT <| Zr <| Zv (gX (vs := #[.pointer (some ⟨G, 0, none⟩), .pointer (some ⟨H, 0, none⟩), .pointer (some ⟨K, 0, none⟩), .pointer (some ⟨J, 0, none⟩)]) (by simp only [List.map_toArray, List.map_cons, List.map_nil]; rfl)) <| Zw (.func (.func 68) #[] #[.pointer (some ⟨G, 0, none⟩), .pointer (some ⟨H, 0, none⟩), .pointer (some ⟨K, 0, none⟩), .pointer (some ⟨J, 0, none⟩)]) rfl <| cT <| cY fun b8 bf => Zr <| Zf rfl fF <| ZL onV rfl eH d rfl <| Zv (dA (v := onV) rfl (Below.slT hB hon) eb) <| Zw (.int .i64 0) rfl <| cT <| c7 ?_
 refine dw (σ := (Nat) × (Value) × (List Value)) [14, 15, 17, 57, 58, 59, 60, 61, 62, 63, 64, 65, 66, 67, 68, 69, 70, 71, 72, 73, 74] (fun (o, rv, vs) => [(57, .int .i64 (o : Int))]) (fun sg W => match sg with | (o, rv, vs) => (Below w.heap.size w W) ∧ (At W ad _ 24) ∧ (At W G _ 29) ∧ (At W ae _ 77) ∧ (At W H _ 22) ∧ (dh gt 4 49 W w.heap.size vp _) ∧ (At W K _ 108) ∧ (dR mw Value.bool W aj (ft ((j2 S l o).map jX))) ∧ (At W J #[.int .i64 (l.length : Int), rv] 77) ∧ (dh encV 1 80 W w.heap.size rv vs) ∧ (LO 3 w.heap.size W vs (gT (j2 S l o))) ∧ (o ≤ S.on.length) ∧ (True)) (fun (o, rv, vs) => S.on.length - o) ((0, .slice none 0 0, [])) ⟨rfl, trivial⟩ ⟨hB, d, f, a, g, hpo, r, t, j, dh.nil, LO.nil, (Nat.zero_le _), trivial⟩ ?_
 clear hB d f a g hpo j t r
 rintro ⟨o, rv, vs⟩ b9 ca ⟨hB, d, f, a, g, hpo, r, t, j, hrv, hLO, ho, _⟩ cb bg
 refine Zr <| Zv (dL rfl rfl) <| cT <| cY fun cc bh => ZQ rfl (fun bi => ?_) fun bi => ?_
 refine c9 <| bh _ _ <| cY fun cd bj => c7 <| Zr <| Zi rfl <| Zv (dJ (v := onV) rfl (Below.slT hB hon) rfl eb Om Ol39_0) <| Zv (fp rfl df (dM.cell (Below.slT hB hon) dG 0 Om Ol39_0 0 rfl) (dM.cell (Below.slT hB hon) dG 0 Om Ol39_0 1 rfl) (dM.cell (Below.slT hB hon) dG 0 Om Ol39_0 2 rfl) (dM.cell (Below.slT hB hon) dG 0 Om Ol39_0 3 rfl)) <| Zy (dt eN rfl fun aK bk aw C A => ?_)
 have bl := ZO aw hB
 have bm := dh.neB (b := aK) hpo (Nat.le_of_eq aw.symm)
 clear aw
 replace hB := Ze hB C
 replace d := C.at d
 replace f := C.at f
 replace a := C.at a
 replace g := C.at g
 replace hpo := C.ow hpo
 replace r := C.at r
 replace t := C.mapT t
 replace j := C.at j
 replace hrv := C.ow hrv
 replace hLO := LO.ext C hLO
 replace A : At bk aK #[wv 0 0, wv 0 1, wv 0 2, wv 0 3] 49 := A
 refine Zi rfl <| Zy (dg rfl rfl df rfl A rfl rfl fun ce D bn => ?_)
 replace hB := Zg hB D bl
 replace d := At.grownAt d A D Dd
 replace f := At.grownAt f A D Dd
 replace a := At.grownAt a A D Dd
 replace g := At.grownAt g A D Dd
 replace hpo := dh.grownAtNe hpo bm D
 replace r := At.grownAt r A D Dd
 replace t := dR.grownAt t A D
 replace j := At.grownAt j A D Dd
 replace hrv := dh.grownAt hrv A D Dd
 replace hLO := LO.grownAt hLO A D Dd
 replace A := bn
 refine cT <| Zr <| Zv (db rfl df rfl A) <| ZC (vs := [.agg #[_, _, _, _]]) vI (ms (S.on.getD o 0) _) rfl fun ak cf B E => ?_
 have bo := (Below.size hB)
 replace hB := Ze hB B
 replace d := B.at d
 replace f := B.at f
 replace a := B.at a
 replace g := B.at g
 replace hpo := B.ow hpo
 replace r := B.at r
 replace t := B.mapT t
 replace j := B.at j
 replace hrv := B.ow hrv
 replace hLO := LO.ext B hLO
 replace A := B.at A
 replace E := dh.mono E bo
 refine Zv (dA (v := ak) rfl E.sl du) <| Zw (.int .i64 0) rfl <| cT <| c7 ?_
 refine dw (σ := (Nat) × (Value) × (List Value)) [17, 65, 66, 67, 68, 69, 70, 71, 72, 73] (fun (k, rv2, V) => [(65, .int .i64 (k : Int))]) (fun sg W => match sg with | (k, rv2, V) => (Below w.heap.size w W) ∧ (At W ad _ 24) ∧ (At W G _ 29) ∧ (At W ae _ 77) ∧ (At W H _ 22) ∧ (dh gt 4 49 W w.heap.size vp _) ∧ (At W K _ 108) ∧ (dh d9 1 3 W w.heap.size ak _) ∧ (dR mw Value.bool W aj (ft ((sf l o (eg (S.on.getD o 0)) (j2 S l o) k).map jX))) ∧ (At W J #[.int .i64 (l.length : Int), rv2] 77) ∧ (dh encV 1 80 W w.heap.size rv2 V) ∧ (LO 3 w.heap.size W V (gT (sf l o (eg (S.on.getD o 0)) (j2 S l o) k))) ∧ (k ≤ (eg (S.on.getD o 0)).length) ∧ (True)) (fun (k, rv2, V) => (eg (S.on.getD o 0)).length - k) ((0, rv, vs)) ⟨rfl, trivial⟩ ⟨hB, d, f, a, g, hpo, r, E, t, j, hrv, hLO, (Nat.zero_le _), trivial⟩ ?_
 clear hB d f a g hpo r t j hrv hLO A E
 rintro ⟨k, rv2, V⟩ cg ch ⟨hB, d, f, a, g, hpo, r, E, t, j, hrv2, hLO2, hk, _⟩ ci bp
 refine Zr <| Zv (dL rfl rfl) <| cT <| cY fun cj bq => ZQ rfl (fun br => ?_) fun br => ?_
 refine c9 <| bq _ _ <| cY fun ck bs => c7 <| Zr <| Zv (dJ (v := ak) rfl E.sl rfl du Om Ol39_0) <| Zv (dk (v := .int .i64 _) rfl dB (dM.cell E.sl eB 0 Om Ol39_0 0 rfl)) <| Zi rfl <| cT ?_
 have hls := kP (S.on.getD o 0)
 obtain ⟨p, bt, hpb, hpe⟩ := kV (s := S.on.getD o 0) (i := k) (by omega)
 have bu : 0 ≤ (eg (S.on.getD o 0)).getD k 0 ∧ ((eg (S.on.getD o 0)).getD k 0).toNat < 2 ^ S.n.toNat := by rw [hpe]; exact ⟨by omega, by rw [Int.toNat_natCast]; exact MG hr (by omega) hpb bt⟩
 refine cZ <| Zw (.func (.func 68) #[] #[.pointer (some ⟨G, 0, none⟩), .pointer (some ⟨H, 0, none⟩), .pointer (some ⟨K, 0, none⟩), .pointer (some ⟨J, 0, none⟩)]) rfl <| Zi rfl <| Zi rfl ?_
 refine mv (dd := some 72) rfl rfl rfl (jU (q := 68) (first := #[]) (cap := #[.pointer (some ⟨G, 0, none⟩), .pointer (some ⟨H, 0, none⟩), .pointer (some ⟨K, 0, none⟩), .pointer (some ⟨J, 0, none⟩)]) (vs := #[.int .i64 _, .int .i64 _, .pointer (some ⟨G, 0, none⟩), .pointer (some ⟨H, 0, none⟩), .pointer (some ⟨K, 0, none⟩), .pointer (some ⟨J, 0, none⟩)]) rfl MU (by simp only [List.map_toArray, List.map_cons, List.map_nil, List.append_toArray, List.nil_append, List.cons_append]; rfl)) (Pu w.heap.size o ((eg (S.on.getD o 0)).getD k 0) S.n l (sf l o (eg (S.on.getD o 0)) (j2 S l o) k) G H K J aj ae ad xa _ rv2 ak _ _ V (eg (S.on.getD o 0)) _ (Below.size hB) Om bu Om hlr hq (rh (tB S l o) k) (fun x hx => KV hx) (GO Om Om) (Below.slT hB hl) f g hpo r t a d E j hrv2 hLO2 aH bb av) (fun cl cm bv => ?_)
 obtain ⟨hBt, f, g, hpo, r, t, a, d, E, rv3, bw, j, hrv3, hLO3⟩ := bv
 replace hB := Below.trans hB hBt
 clear hrv2 hLO2
 refine cT <| bs _ _ <| cZ <| Zv (dp rfl rfl Om Om) <| Zi rfl <| cT ?_
 exact bp _ _ ((k + 1, rv3, bw)) Za ⟨rfl, trivial⟩ ⟨hB, d, f, a, g, hpo, r, E, (by exact t), j, hrv3, hLO3, Om, trivial⟩ (by show (eg (S.on.getD o 0)).length - (k + 1) < (eg (S.on.getD o 0)).length - k; omega)
 refine dr <| bj _ _ ?_
 obtain rfl : k = (eg (S.on.getD o 0)).length := by omega
 refine cZ <| Zv (dp rfl rfl Om Om) <| Zi rfl <| cT ?_
 exact bg _ _ ((o + 1, rv2, V)) Za ⟨rfl, trivial⟩ ⟨hB, d, f, a, g, hpo, r, (by exact t), j, hrv2, hLO2, Om, trivial⟩ (by show S.on.length - (o + 1) < S.on.length - o; omega)
 refine dr <| bf _ _ ?_
 obtain rfl : o = S.on.length := by omega
 refine Zr <| Zv (db rfl dH rfl j) <| Zy (dg rfl rfl dH rfl a rfl (by simp only [List.all_cons, List.all_nil, dh.one hrv, Bool.and_true]; rfl) fun cn F bx => ?_)
 replace hB := Zg hB F af
 replace d := At.grownAt d a F Dd
 replace f := At.grownAt f a F Dd
 replace g := At.grownAt g a F Dd
 replace hpo := dh.grownAt hpo a F Dd
 replace r := At.grownAt r a F Dd
 replace t := dR.grownAt t a F
 replace j := At.grownNe j (Ne.symm av) F
 replace hrv := dh.grownAt hrv a F Dd
 replace hLO := LO.grownAt hLO a F Dd
 replace a := bx
 refine Zw (.int .i64 0) rfl <| cT <| Zt <| fw rfl dH a rfl (v1 := .int .i64 0) rfl ⟨hB, ?_⟩
 rw [if_pos (My hr hq (by omega))]
 exact ⟨_, _, rfl, hrv, hLO⟩
end
section
open Go Go.RowKit
abbrev ML := List (List Int)
def mr (L : ML) (X : List Int) : Prop := ∀ r, r ∈ L → ∃ c, c ∈ r ∧ c ∈ X
def qq (L : ML) (c : Int) : Prop := ∃ r, r ∈ L ∧ c ∈ r
def qU (L : ML) (c : Int) : ML := L.filter fun r => !decide (c ∈ r)
def x5 (r : List Int) (c : Int) : List Int := r.filter fun x => !decide (x = c)
def oa (L : ML) (c : Int) : ML := L.map fun r => x5 r c
theorem m4 {L : ML} {c : Int} {r : List Int} : r ∈ qU L c ↔ r ∈ L ∧ c ∉ r := by
 unfold qU; rw [List.mem_filter]; simp
theorem nb {L : ML} {c : Int} {r : List Int} : r ∈ oa L c ↔ ∃ q, q ∈ L ∧ r = x5 q c := by
 unfold oa; rw [List.mem_map]; exact ⟨fun ⟨a, b, e⟩ => ⟨a, b, e.symm⟩, fun ⟨a, b, e⟩ => ⟨a, b, e.symm⟩⟩
theorem lW {q : List Int} {c x : Int} : x ∈ x5 q c ↔ x ∈ q ∧ x ≠ c := by
 unfold x5; rw [List.mem_filter]; simp
theorem DH (X : List Int) : mr [] X := fun r h => by cases h
theorem B7 {L : ML} {c : Int} {X : List Int} (h : mr (qU L c) X) : mr L (c :: X) := fun r hr => by
 by_cases hc : c ∈ r
 ·exact ⟨c, hc, List.mem_cons_self ..⟩
 ·obtain ⟨d, h1, h2⟩ := h r (m4.2 ⟨hr, hc⟩)
  exact ⟨d, h1, List.mem_cons_of_mem _ h2⟩
theorem AO {L : ML} {c : Int} {X : List Int} (hn : X.Nodup) (h : mr L X) : mr (qU L c) (X.erase c) := fun r hr => by
 obtain ⟨h1, h2⟩ := m4.1 hr
 obtain ⟨d, h3, h4⟩ := h r h1
 exact ⟨d, h3, (List.Nodup.mem_erase_iff hn).2 ⟨fun e => h2 (e ▸ h3), h4⟩⟩
theorem I9 {L : ML} {c : Int} {X : List Int} (h : mr L X) (hc : c ∉ X) : mr (oa L c) X := fun r hr => by
 obtain ⟨q, hq, rfl⟩ := nb.1 hr
 obtain ⟨d, h3, h4⟩ := h q hq
 exact ⟨d, lW.2 ⟨h3, fun e => hc (e ▸ h4)⟩, h4⟩
theorem HB {L : ML} {c : Int} {X : List Int} (h : mr (oa L c) X) : mr L X := fun r hr => by
 obtain ⟨d, h3, h4⟩ := h _ (nb.2 ⟨r, hr, rfl⟩)
 exact ⟨d, (lW.1 h3).1, h4⟩
theorem wo {L : ML} {X Y : List Int} (h : mr L X) (k : ∀ c, c ∈ X → c ∈ Y) : mr L Y := fun r hr => (h r hr).imp fun c q => ⟨q.1, k c q.2⟩
theorem DK {L : ML} {X : List Int} : od L X = true ↔ mr L X := uX
structure lE (L0 L : ML) (ks : List Int) : Prop where
 nd : ks.Nodup
 dis : ∀ c, c ∈ ks → ¬ qq L c
 sub : ∀ c, qq L c → qq L0 c
 ksub : ∀ c, c ∈ ks → qq L0 c
 up : ∀ X, mr L X → mr L0 (ks ++ X)
 dn : ∀ Y, Y.Nodup → mr L0 Y → ∃ X, X.Nodup ∧ mr L X ∧ ks.length + X.length ≤ Y.length
section
variable {L0 L L' : ML} {ks ks' : List Int} {r : List Int} {c d : Int}
theorem lE.start (L : ML) : lE L L [] := ⟨List.nodup_nil, fun c h => (by cases h), fun c h => h, fun c h => (by cases h), fun X h => h, fun Y h1 h2 => ⟨Y, h1, h2, by simp⟩⟩
theorem lE.take (h : lE L0 L ks) (hr : r ∈ L) (e : r = [c]) : lE L0 (qU L c) (iy ks c) := by
 have hin : qq L c := ⟨r, hr, by rw [e]; exact List.mem_singleton.2 rfl⟩
 have hc : c ∉ ks := fun q => h.dis c q hin
 have ei : iy ks c = ks ++ [c] := if_neg hc
 refine ⟨jn h.nd c, ?_, ?_, ?_, ?_, ?_⟩
 ·rintro d hd ⟨q, hq, hdq⟩
  obtain ⟨hq1, hq2⟩ := m4.1 hq
  rcases gm.1 hd with k | k
  ·exact h.dis d k ⟨q, hq1, hdq⟩
  ·rw [k] at hdq; exact hq2 hdq
 ·rintro d ⟨q, hq, hdq⟩
  exact h.sub d ⟨q, (m4.1 hq).1, hdq⟩
 ·intro d hd
  rcases gm.1 hd with k | k
  ·exact h.ksub d k
  ·rw [k]; exact h.sub c hin
 ·intro X hX
  have := h.up (c :: X) (B7 hX)
  rw [ei, List.append_assoc]
  exact this
 ·intro Y hn hY
  obtain ⟨X, h1, h2, h3⟩ := h.dn Y hn hY
  have hcX : c ∈ X := by
   obtain ⟨d, hd, hd2⟩ := h2 r hr
   rw [e] at hd
   rwa [List.mem_singleton.1 hd] at hd2
  refine ⟨X.erase c, h1.erase c, AO h1 h2, ?_⟩
  rw [ei, List.length_append, List.length_erase_of_mem hcX, List.length_singleton]
  have := List.length_pos_of_mem hcX
  omega
theorem lE.rows (h : lE L0 L ks) (hs : ∀ r, r ∈ L' → r ∈ L) (hu : ∀ X, mr L' X → mr L X) : lE L0 L' ks :=
 ⟨h.nd, fun c hc ⟨r, hr, q⟩ => h.dis c hc ⟨r, hs r hr, q⟩, fun c ⟨r, hr, q⟩ => h.sub c ⟨r, hs r hr, q⟩, h.ksub, fun X hX => h.up X (hu X hX), fun Y hn hY => (h.dn Y hn hY).imp fun X ⟨h1, h2, h3⟩ => ⟨h1, fun r hr => h2 r (hs r hr), h3⟩⟩
theorem lE.cols (h : lE L0 L ks) (hne : ¬ d = c) (hd : ∀ r, r ∈ L → c ∈ r → d ∈ r) : lE L0 (oa L c) ks := by
 refine ⟨h.nd, ?_, ?_, h.ksub, fun X hX => h.up X (HB hX), ?_⟩
 ·rintro x hx ⟨r, hr, q⟩
  obtain ⟨r0, h0, rfl⟩ := nb.1 hr
  exact h.dis x hx ⟨r0, h0, (lW.1 q).1⟩
 ·rintro x ⟨r, hr, q⟩
  obtain ⟨r0, h0, rfl⟩ := nb.1 hr
  exact h.sub x ⟨r0, h0, (lW.1 q).1⟩
 ·intro Y hn hY
  obtain ⟨X, h1, h2, h3⟩ := h.dn Y hn hY
  by_cases hc : c ∈ X
  ·refine ⟨iy (X.erase c) d, jn (h1.erase c) d, ?_, ?_⟩
   ·intro r hr
    obtain ⟨r0, h0, rfl⟩ := nb.1 hr
    obtain ⟨x, hx1, hx2⟩ := h2 r0 h0
    by_cases e : x = c
    ·subst e
     exact ⟨d, lW.2 ⟨hd r0 h0 hx1, hne⟩, gm.2 (.inr rfl)⟩
    ·exact ⟨x, lW.2 ⟨hx1, e⟩, gm.2 (.inl ((List.Nodup.mem_erase_iff h1).2 ⟨e, hx2⟩))⟩
   ·have h4 := p4 (X.erase c) d
    rw [List.length_erase_of_mem hc] at h4
    have := List.length_pos_of_mem hc
    omega
  ·exact ⟨X, h1, I9 h2 hc, h3⟩
theorem lE.perm (h : lE L0 L ks) (hn : ks'.Nodup) (hm : ∀ c, c ∈ ks' ↔ c ∈ ks) (hl : ks'.length = ks.length) : lE L0 L ks' :=
 ⟨hn, fun c hc => h.dis c ((hm c).1 hc), h.sub, fun c hc => h.ksub c ((hm c).1 hc), fun X hX => wo (h.up X hX) fun c hc => by
  rcases List.mem_append.1 hc with k | k
  ·exact List.mem_append.2 (.inl ((hm c).2 k))
  ·exact List.mem_append.2 (.inr k), fun Y h1 h2 => by rw [hl]; exact h.dn Y h1 h2⟩
end
def qK : ML → Nat
 | [] => 0
 | r :: L => r.length + 1 + qK L
theorem C3 (c : Int) : ∀ L : ML, qK (qU L c) ≤ qK L
 | [] => Nat.le_refl _
 | r :: L => by
  have h0 := C3 c L
  unfold qU at *
  rw [List.filter_cons]
  split
  ·simp only [qK]; omega
  ·simp only [qK]; omega
theorem ye {c : Int} : ∀ {L : ML}, qq L c → qK (qU L c) < qK L
 | [], ⟨r, h, _⟩ => by cases h
 | r :: L, ⟨q, hq, hc⟩ => by
  have h0 := C3 c L
  by_cases hr : c ∈ r
  ·unfold qU at *
   rw [List.filter_cons, if_neg (by simp [hr])]
   simp only [qK]; omega
  ·have hq2 : q ∈ L := by
    rcases List.mem_cons.1 hq with e | e
    ·rw [e] at hc; exact absurd hc hr
    ·exact e
   have h1 := ye (L := L) ⟨q, hq2, hc⟩
   unfold qU at *
   rw [List.filter_cons, if_pos (by simp [hr])]
   simp only [qK]; omega
theorem yt (r : List Int) (c : Int) : (x5 r c).length ≤ r.length := List.length_filter_le _ _
theorem CF (c : Int) : ∀ L : ML, qK (oa L c) ≤ qK L
 | [] => Nat.le_refl _
 | r :: L => by
  have h0 := CF c L
  have h1 := yt r c
  unfold oa at *
  rw [List.map_cons]
  simp only [qK]; omega
theorem xt {c : Int} : ∀ {L : ML}, qq L c → qK (oa L c) < qK L
 | [], ⟨r, h, _⟩ => by cases h
 | r :: L, ⟨q, hq, hc⟩ => by
  have h0 := CF c L
  have h1 := yt r c
  rcases List.mem_cons.1 hq with e | e
  ·rw [e] at hc
   have h2 : (x5 r c).length < r.length := by
    unfold x5
    exact List.length_filter_lt_length_iff_exists.2 ⟨c, hc, by simp⟩
   unfold oa at *
   rw [List.map_cons]
   simp only [qK]; omega
  ·have h2 := xt (L := L) ⟨q, e, hc⟩
   unfold oa at *
   rw [List.map_cons]
   simp only [qK]; omega
theorem JL (L : ML) (c : Int) : (qU L c).length ≤ L.length := List.length_filter_le _ _
theorem xJ {L : ML} {c : Int} (h : qq L c) : (qU L c).length < L.length := by
 obtain ⟨r, hr, hc⟩ := h
 unfold qU
 exact List.length_filter_lt_length_iff_exists.2 ⟨r, hr, by simp [hc]⟩
theorem len_le (L : ML) (c : Int) : (oa L c).length = L.length := by unfold oa; rw [List.length_map]
def Gf (L : ML) (i : Nat) : ML := L.take i ++ L.drop (i + 1)
theorem zk : ∀ a b : ML, qK (a ++ b) = qK a + qK b
 | [], b => by simp [qK]
 | r :: a, b => by rw [List.cons_append]; simp only [qK]; rw [zk a b]; omega
theorem HD {L : ML} {i : Nat} (h : i < L.length) : qK (Gf L i) < qK L := by
 have e : L = L.take i ++ (L.getD i [] :: L.drop (i + 1)) := by
  rw [List.getD_eq_getElem?_getD, List.getElem?_eq_getElem h]
  simp
 have h1 := congrArg qK e
 rw [zk] at h1
 unfold Gf
 rw [zk]
 simp only [qK] at h1
 omega
theorem IG {L : ML} {i : Nat} {r : List Int} (h : r ∈ Gf L i) : r ∈ L := by
 rcases List.mem_append.1 h with k | k
 ·exact List.mem_of_mem_take k
 ·exact List.mem_of_mem_drop k
theorem I4 {L : ML} {i k : Nat} (hk : k < L.length) (hne : ¬ k = i) : L.getD k [] ∈ Gf L i := by
 unfold Gf
 rw [List.getD_eq_getElem?_getD, List.getElem?_eq_getElem hk]
 rcases Nat.lt_or_ge k i with q | q
 ·refine List.mem_append.2 (.inl (List.mem_take_iff_getElem.2 ⟨k, by omega, rfl⟩))
 ·refine List.mem_append.2 (.inr (List.mem_drop_iff_getElem.2 ⟨k - (i + 1), by omega, ?_⟩))
  show L[i + 1 + (k - (i + 1))] = _
  congr 1
  omega
theorem OS {L : ML} {i k : Nat} {X : List Int} (hi : i < L.length) (hk : k < L.length) (hne : ¬ k = i) (hw : ∀ x, x ∈ L.getD k [] → x ∈ L.getD i []) (h : mr (Gf L i) X) : mr L X := fun r hr => by
 obtain ⟨j, hj, rfl⟩ := fo (d := []) hr
 by_cases e : j = i
 ·subst e
  obtain ⟨c, h1, h2⟩ := h _ (I4 hk hne)
  exact ⟨c, hw c h1, h2⟩
 ·exact h _ (I4 hj e)
theorem Nw {n : Int} {r : List Int} (h : nK n r = true) (c : Int) : nK n (x5 r c) = true := by
 have hp : r.Pairwise fun a b => a < b := List.pairwise_iff_getElem.2 fun i j hi hj hij => ?_
 ·exact Ah (hp.filter _) fun x hx => by
   obtain ⟨k, hk, rfl⟩ := fo (d := 0) (lW.1 hx).1
   obtain ⟨h1, h2, _⟩ := iZ.1 h k hk
   exact ⟨h1, h2⟩
 ·have key : ∀ m, i + 1 + m < r.length → r.getD i 0 < r.getD (i + 1 + m) 0 := by
   intro m
   induction m with
   | zero => intro hm; exact (iZ.1 h (i + 1) hm).2.2 (by omega)
   | succ m ih =>
    intro hm
    have h1 := ih (by omega)
    have h2 := (iZ.1 h (i + 1 + (m + 1)) hm).2.2 (by omega)
    rw [show i + 1 + (m + 1) - 1 = i + 1 + m by omega] at h2
    omega
  have h3 := key (j - (i + 1)) (by omega)
  rw [show i + 1 + (j - (i + 1)) = j by omega] at h3
  simpa [List.getD_eq_getElem?_getD, List.getElem?_eq_getElem hi, List.getElem?_eq_getElem hj] using h3
theorem wz {n : Int} {L L' : ML} (h : dX n L = true) (k : ∀ r, r ∈ L' → nK n r = true) : dX n L' = true := by
 obtain ⟨h1, h2, _⟩ := fk.1 h
 exact fk.2 ⟨h1, h2, fun i hi => k _ (dS hi)⟩
theorem qw {n : Int} {L : ML} {r : List Int} (h : dX n L = true) (hr : r ∈ L) : nK n r = true := by
 obtain ⟨k, hk, rfl⟩ := fo (d := []) hr
 exact (fk.1 h).2.2 k hk
theorem pP {n : Int} {L : ML} {c : Int} (h : dX n L = true) (hc : qq L c) : 0 ≤ c ∧ c < n := by
 obtain ⟨r, hr, hc⟩ := hc
 obtain ⟨k, hk, rfl⟩ := fo (d := 0) hc
 have := iZ.1 (qw h hr) k hk
 exact ⟨this.1, this.2.1⟩
theorem vQ {n : Int} {L : ML} (h : dX n L = true) (c : Int) : dX n (qU L c) = true := wz h fun r hr => qw h (m4.1 hr).1
theorem AM {n : Int} {L : ML} (h : dX n L = true) (c : Int) : dX n (oa L c) = true := wz h fun r hr => by
 obtain ⟨q, hq, rfl⟩ := nb.1 hr
 exact Nw (qw h hq) c
theorem Gv {n : Int} {L : ML} (h : dX n L = true) (i : Nat) : dX n (Gf L i) = true := wz h fun r hr => qw h (IG hr)
theorem Df {n : Int} {r : List Int} (h : nK n r = true) : (r.length : Int) ≤ n ∨ r = [] := by
 rcases Nat.eq_zero_or_pos r.length with e | e
 ·exact .inr (List.eq_nil_of_length_eq_zero e)
 ·left
  have key : ∀ m, m < r.length → (m : Int) ≤ r.getD m 0 := by
   intro m
   induction m with
   | zero => intro hm; exact (iZ.1 h 0 hm).1
   | succ m ih =>
    intro hm
    have h1 := ih (by omega)
    have h2 := (iZ.1 h (m + 1) hm).2.2 (by omega)
    simp only [Nat.add_sub_cancel] at h2
    omega
  have h3 := key (r.length - 1) (by omega)
  have h4 := (iZ.1 h (r.length - 1) (by omega)).2.1
  omega
theorem fJ {n : Int} {L : ML} (h : dX n L = true) (i : Nat) : (L.getD i []).length ≤ 4000 := by
 obtain ⟨h1, h2, h3⟩ := fk.1 h
 by_cases hi : i < L.length
 ·rcases Df (h3 i hi) with k | k
  ·omega
  ·rw [k]; exact Nat.zero_le _
 ·rw [List.getD_eq_getElem?_getD, List.getElem?_eq_none (by omega)]; exact Nat.zero_le _
def QT (L : ML) (k : Nat) : Bool := L.any fun r => decide ((k : Int) ∈ r)
theorem n4 {L : ML} {k : Nat} : QT L k = true ↔ qq L (k : Int) := by
 unfold QT qq
 rw [List.any_eq_true]
 exact ⟨fun ⟨r, h1, h2⟩ => ⟨r, h1, of_decide_eq_true h2⟩, fun ⟨r, h1, h2⟩ => ⟨r, h1, decide_eq_true h2⟩⟩
def cnt (L : ML) : Nat := (List.range 4000).countP (QT L)
theorem lS {α : Type} {p q : α → Bool} : ∀ {l : List α}, (∀ x, x ∈ l → p x = true → q x = true) → l.countP p ≤ l.countP q
 | [], _ => Nat.le_refl _
 | a :: l, h => by
  have ih := lS (l := l) fun x hx => h x (List.mem_cons_of_mem _ hx)
  have h0 := h a (List.mem_cons_self ..)
  rw [List.countP_cons, List.countP_cons]
  by_cases e : p a = true
  ·rw [if_pos e, if_pos (h0 e)]; omega
  ·rw [if_neg e]; omega
theorem q7 {α : Type} {p q : α → Bool} : ∀ {l : List α}, (∀ x, x ∈ l → p x = true → q x = true) → (∃ x, x ∈ l ∧ q x = true ∧ p x = false) → l.countP p < l.countP q
 | [], _, ⟨x, h, _⟩ => by cases h
 | a :: l, h, ⟨x, hx, hq, hp⟩ => by
  have ih0 := lS (l := l) fun x hx => h x (List.mem_cons_of_mem _ hx)
  have h0 := h a (List.mem_cons_self ..)
  rw [List.countP_cons, List.countP_cons]
  rcases List.mem_cons.1 hx with e | e
  ·rw [← e, if_pos hq, if_neg (by rw [hp]; decide)]; omega
  ·have ih := q7 (l := l) (fun x hx => h x (List.mem_cons_of_mem _ hx)) ⟨x, e, hq, hp⟩
   by_cases e : p a = true
   ·rw [if_pos e, if_pos (h0 e)]; omega
   ·rw [if_neg e]; omega
theorem rT {L L' : ML} (h : ∀ c, qq L c → qq L' c) : cnt L ≤ cnt L' := lS fun x _ hx => n4.2 (h _ (n4.1 hx))
theorem Ic {n : Int} {L L' : ML} {c : Int} (hr : dX n L' = true) (h : ∀ c, qq L c → qq L' c) (h1 : qq L' c) (h2 : ¬ qq L c) : cnt L < cnt L' := by
 obtain ⟨h3, h4⟩ := pP hr h1
 obtain ⟨_, h5, _⟩ := fk.1 hr
 have e : ((c.toNat : Nat) : Int) = c := by omega
 refine q7 (fun x _ hx => n4.2 (h _ (n4.1 hx))) ⟨c.toNat, List.mem_range.2 (by omega), n4.2 (by rw [e]; exact h1), ?_⟩
 refine Bool.eq_false_iff.2 fun k => h2 ?_
 have := n4.1 k
 rwa [e] at this
theorem Cd {n : Int} {L : ML} {c : Int} (hr : dX n L = true) (h : qq L c) : cnt (qU L c) < cnt L :=
 Ic hr (fun d ⟨r, h1, h2⟩ => ⟨r, (m4.1 h1).1, h2⟩) h fun ⟨r, h1, h2⟩ => (m4.1 h1).2 h2
theorem De {n : Int} {L : ML} {c : Int} (hr : dX n L = true) (h : qq L c) : cnt (oa L c) < cnt L :=
 Ic hr (fun d ⟨r, h1, h2⟩ => by obtain ⟨q, hq, rfl⟩ := nb.1 h1; exact ⟨q, hq, (lW.1 h2).1⟩) h fun ⟨r, h1, h2⟩ => by obtain ⟨q, hq, rfl⟩ := nb.1 h1; exact (lW.1 h2).2 rfl
theorem PC {n : Nat} {L : ML} (h : dX (n : Int) L = true) : cnt L ≤ n := by
 have h1 : cnt L ≤ (List.range 4000).countP fun k => decide (k < n) := lS fun x _ hx => decide_eq_true (by
  have := pP h (n4.1 hx)
  omega)
 have h2 : ∀ m, (List.range m).countP (fun k => decide (k < n)) ≤ n := by
  intro m
  induction m with
  | zero => exact Nat.zero_le _
  | succ m ih =>
   rw [List.range_succ, List.countP_append, List.countP_cons, List.countP_nil]
   by_cases e : m < n
   ·have : (List.range m).countP (fun k => decide (k < n)) ≤ m := Nat.le_trans List.countP_le_length (by simp)
    rw [if_pos (decide_eq_true e)]; omega
   ·rw [if_neg (by rw [decide_eq_false e]; decide)]; omega
 exact Nat.le_trans h1 (h2 _)
def Ap (U r : List Int) : Bool := r.any fun c => decide (c ∈ U)
def o6 (U r : List Int) : Nat → List Int
 | 0 => U
 | k + 1 => iy (o6 U r k) (r.getD k 0)
def wO (L : ML) : Nat → List Int
 | 0 => []
 | k + 1 => if Ap (wO L k) (L.getD k []) then wO L k else o6 (wO L k) (L.getD k []) (L.getD k []).length
def Bx (L : ML) : Nat → Nat
 | 0 => 0
 | k + 1 => if Ap (wO L k) (L.getD k []) then Bx L k else Bx L k + 1
theorem pN {U r : List Int} {c : Int} : ∀ k, k ≤ r.length → (c ∈ o6 U r k ↔ c ∈ U ∨ c ∈ r.take k)
 | 0, _ => by simp [o6]
 | k + 1, hk => by
  rw [o6, gm, pN k (by omega), List.take_add_one, List.mem_append, List.getD_eq_getElem?_getD, List.getElem?_eq_getElem (show k < r.length by omega), or_assoc]
  simp [eq_comm]
theorem MI {L : ML} {X : List Int} (h : mr L X) : ∀ k, k ≤ L.length → Bx L k ≤ X.countP fun c => decide (c ∈ wO L k)
 | 0, _ => Nat.zero_le _
 | k + 1, hk => by
  have ih := MI h k (by omega)
  rw [Bx, wO]
  split
  ·exact ih
  ·rename_i hno
   obtain ⟨c, h1, h2⟩ := h _ (dS (d := []) (show k < L.length by omega))
   have hc : ¬ c ∈ wO L k := fun q => hno (List.any_eq_true.2 ⟨c, h1, decide_eq_true q⟩)
   refine Nat.lt_of_le_of_lt ih (q7 (fun x _ hx => decide_eq_true ?_) ⟨c, h2, decide_eq_true ?_, decide_eq_false hc⟩)
   ·exact (pN _ (Nat.le_refl _)).2 (.inl (of_decide_eq_true hx))
   ·exact (pN _ (Nat.le_refl _)).2 (.inr (by rw [List.take_length]; exact h1))
theorem IF {L : ML} {X : List Int} (h : mr L X) : Bx L L.length ≤ X.length := Nat.le_trans (MI h _ (Nat.le_refl _)) List.countP_le_length
def QK (x : ML × List Int) (Y : List Int) : Prop := ∃ X, X.Nodup ∧ mr x.1 X ∧ x.2.length + X.length ≤ Y.length
structure qI (L0 : ML) (st : List (ML × List Int)) (best : List Int) : Prop where
 bs : mr L0 best
 up : ∀ x, x ∈ st → ∀ X, mr x.1 X → mr L0 (x.2 ++ X)
 dn : ∀ Y, Y.Nodup → mr L0 Y → best.length ≤ Y.length ∨ ∃ x, x ∈ st ∧ QK x Y
section
variable {L0 : ML} {st : List (ML × List Int)} {x : ML × List Int} {best best' T : List Int} {rest : ML} {c : Int}
theorem qI.start (hb : mr L0 best) : qI L0 [(L0, [])] best := ⟨hb, fun x hx X h => (by obtain rfl := List.mem_singleton.1 hx; exact h), fun Y h1 h2 => .inr ⟨_, List.mem_singleton.2 rfl, Y, h1, h2, by simp⟩⟩
theorem qI.drop (h : qI L0 (st ++ [x]) best) (hb : mr L0 best') (hle : best'.length ≤ best.length) (hx : ∀ Y, QK x Y → best'.length ≤ Y.length) : qI L0 st best' := by
 refine ⟨hb, fun y hy => h.up y (List.mem_append.2 (.inl hy)), fun Y h1 h2 => ?_⟩
 rcases h.dn Y h1 h2 with k | ⟨y, hy, k⟩
 ·exact .inl (Nat.le_trans hle k)
 ·rcases List.mem_append.1 hy with q | q
  ·exact .inr ⟨y, q, k⟩
  ·rw [List.mem_singleton.1 q] at k
   exact .inl (hx Y k)
theorem qI.none (h : qI L0 (st ++ [x]) best) {r : List Int} (hr : r ∈ x.1) (hn : r = []) : qI L0 st best := h.drop h.bs (Nat.le_refl _) fun Y ⟨X, _, h2, _⟩ => by
 obtain ⟨c, h3, _⟩ := h2 r hr
 rw [hn] at h3; cases h3
theorem qI.sol (h : qI L0 (st ++ [x]) best) (hr : lE x.1 rest T) (he : rest = []) : mr L0 (x.2 ++ T) := by
 have := h.up x (List.mem_append.2 (.inr (List.mem_singleton.2 rfl))) (T ++ []) (hr.up [] (by rw [he]; exact DH _))
 rwa [List.append_nil] at this
theorem qI.hop (hr : lE x.1 rest T) {Y : List Int} (k : QK x Y) : ∃ X, X.Nodup ∧ mr rest X ∧ (x.2 ++ T).length + X.length ≤ Y.length := by
 obtain ⟨X, h1, h2, h3⟩ := k
 obtain ⟨X', h4, h5, h6⟩ := hr.dn X h1 h2
 exact ⟨X', h4, h5, by rw [List.length_append]; omega⟩
theorem qI.leaf (h : qI L0 (st ++ [x]) best) (hr : lE x.1 rest T) (he : rest = []) (hl : (x.2 ++ T).length < best.length) : qI L0 st (x.2 ++ T) := h.drop (h.sol hr he) (Nat.le_of_lt hl) fun Y k => by
 obtain ⟨X, _, _, h3⟩ := qI.hop hr k
 omega
theorem qI.leaf0 (h : qI L0 (st ++ [x]) best) (hr : lE x.1 rest T) (hl : ¬ (x.2 ++ T).length < best.length) : qI L0 st best := h.drop h.bs (Nat.le_refl _) fun Y k => by
 obtain ⟨X, _, _, h3⟩ := qI.hop hr k
 omega
theorem qI.prune (h : qI L0 (st ++ [x]) best) (hr : lE x.1 rest T) (hl : best.length ≤ (x.2 ++ T).length + Bx rest rest.length) : qI L0 st best := h.drop h.bs (Nat.le_refl _) fun Y k => by
 obtain ⟨X, _, h2, h3⟩ := qI.hop hr k
 have := IF h2
 omega
theorem qI.branch (h : qI L0 (st ++ [x]) best) (hr : lE x.1 rest T) (c : Int) : qI L0 (st ++ [(oa rest c, x.2 ++ T), (qU rest c, x.2 ++ T ++ [c])]) best := by
 have hx := h.up x (List.mem_append.2 (.inr (List.mem_singleton.2 rfl)))
 refine ⟨h.bs, fun y hy X hX => ?_, fun Y h1 h2 => ?_⟩
 ·rcases List.mem_append.1 hy with q | q
  ·exact h.up y (List.mem_append.2 (.inl q)) X hX
  ·rcases List.mem_cons.1 q with rfl | q
   ·have := hx _ (hr.up X (HB hX))
    rwa [List.append_assoc]
   ·rw [List.mem_singleton.1 q] at hX ⊢
    have := hx _ (hr.up _ (B7 hX))
    simp only [List.append_assoc]
    exact this
 ·rcases h.dn Y h1 h2 with k | ⟨y, hy, k⟩
  ·exact .inl k
  ·rcases List.mem_append.1 hy with q | q
   ·exact .inr ⟨y, List.mem_append.2 (.inl q), k⟩
   ·rw [List.mem_singleton.1 q] at k
    obtain ⟨X, h4, h5, h6⟩ := qI.hop hr k
    right
    by_cases hc : c ∈ X
    ·refine ⟨_, List.mem_append.2 (.inr (List.mem_cons_of_mem _ (List.mem_singleton.2 rfl))), X.erase c, h4.erase c, AO h4 h5, ?_⟩
     rw [List.length_erase_of_mem hc]
     have := List.length_pos_of_mem hc
     simp only [List.length_append, List.length_singleton] at h6 ⊢
     omega
    ·exact ⟨_, List.mem_append.2 (.inr (List.mem_cons_self ..)), X, h4, I9 h5 hc, h6⟩
end
def zT : List (ML × List Int) → Nat
 | [] => 0
 | x :: st => (2 ^ (cnt x.1 + 1) - 1) + zT st
def Fd : List (ML × List Int) → Nat
 | [] => 0
 | x :: st => (2 ^ cnt x.1 - 1) + Fd st
theorem uy : ∀ a b, zT (a ++ b) = zT a + zT b
 | [], b => by simp [zT]
 | x :: a, b => by rw [List.cons_append, zT, zT, uy a b]; omega
theorem ua : ∀ a b, Fd (a ++ b) = Fd a + Fd b
 | [], b => by simp [Fd]
 | x :: a, b => by rw [List.cons_append, Fd, Fd, ua a b]; omega
theorem GJ (st : List (ML × List Int)) (x : ML × List Int) : zT st < zT (st ++ [x]) := by
 have := Nat.two_pow_pos (cnt x.1)
 rw [uy]
 simp only [zT, Nat.pow_succ]
 omega
theorem GL (st : List (ML × List Int)) (x : ML × List Int) : Fd st ≤ Fd (st ++ [x]) := by rw [ua]; omega
section
variable {n : Int} {st : List (ML × List Int)} {x : ML × List Int} {T a b : List Int} {rest : ML} {c : Int}
theorem sr {a k : Nat} (h : a < k) : 2 * 2 ^ a ≤ 2 ^ k := by
 have := Nat.pow_le_pow_right (show 0 < 2 by decide) (show a + 1 ≤ k by omega)
 rw [Nat.pow_succ] at this
 omega
theorem CT (hr : dX n rest = true) (h : lE x.1 rest T) (hc : qq rest c) : zT (st ++ [(oa rest c, a), (qU rest c, b)]) < zT (st ++ [x]) := by
 have h1 := sr (De hr hc)
 have h2 := sr (Cd hr hc)
 have h3 := Nat.pow_le_pow_right (show 0 < 2 by decide) (rT h.sub)
 have h4 := Nat.two_pow_pos (cnt (oa rest c))
 rw [uy, uy]
 simp only [zT, Nat.pow_succ]
 omega
theorem wy (hr : dX n rest = true) (h : lE x.1 rest T) (hc : qq rest c) : Fd (st ++ [(oa rest c, a), (qU rest c, b)]) + 1 ≤ Fd (st ++ [x]) := by
 have h1 := sr (De hr hc)
 have h2 := sr (Cd hr hc)
 have h3 := Nat.pow_le_pow_right (show 0 < 2 by decide) (rT h.sub)
 have h4 := Nat.two_pow_pos (cnt (oa rest c))
 have h5 := Nat.two_pow_pos (cnt (qU rest c))
 rw [ua, ua]
 simp only [Fd]
 omega
end
def ku (l : List Int) (k : Nat) : List Int := ((List.range k).filter fun c : Nat => decide ((c : Int) ∈ l)).map fun c : Nat => (c : Int)
theorem iY (l : List Int) (k : Nat) : ku l (k + 1) = if (k : Int) ∈ l then ku l k ++ [(k : Int)] else ku l k := by
 unfold ku
 rw [List.range_succ, List.filter_append, List.map_append]
 by_cases h : (k : Int) ∈ l
 ·simp [h]
 ·simp [h]
theorem pD {l : List Int} {k : Nat} {c : Int} : c ∈ ku l k ↔ c ∈ l ∧ 0 ≤ c ∧ c < k := by
 unfold ku
 simp only [List.mem_map, List.mem_filter, List.mem_range, decide_eq_true_eq]
 constructor
 ·rintro ⟨a, ⟨h1, h2⟩, rfl⟩; exact ⟨h2, by omega, by omega⟩
 ·rintro ⟨h1, h2, h3⟩
  exact ⟨c.toNat, ⟨by omega, by rwa [show ((c.toNat : Nat) : Int) = c by omega]⟩, by omega⟩
theorem L4 (l : List Int) (k : Nat) : (ku l k).Pairwise fun a b => a < b := by
 unfold ku
 rw [List.pairwise_map]
 refine List.Pairwise.filter _ ?_
 exact List.pairwise_lt_range.imp (fun h => by omega)
theorem kQ (l : List Int) (k : Nat) : (ku l k).Nodup := (L4 l k).imp fun h e => by omega
theorem sY {α : Type} [DecidableEq α] : ∀ {a b : List α}, a.Nodup → (∀ x, x ∈ a → x ∈ b) → a.length ≤ b.length
 | [], b, _, _ => Nat.zero_le _
 | x :: a, b, hn, h => by
  obtain ⟨h1, h2⟩ := List.nodup_cons.1 hn
  have hx : x ∈ b := h x (List.mem_cons_self ..)
  have ih := sY (a := a) (b := b.erase x) h2 fun y hy => (List.mem_erase_of_ne (fun e => h1 (by rw [e] at hy; exact hy))).2 (h y (List.mem_cons_of_mem _ hy))
  rw [List.length_erase_of_mem hx] at ih
  have := List.length_pos_of_mem hx
  rw [List.length_cons]
  omega
theorem A8 (l : List Int) (k : Nat) : (ku l k).length ≤ l.length := sY (kQ l k) fun x hx => (pD.1 hx).1
theorem lf (l : List Int) (k : Nat) : (ku l k).length ≤ k := by
 unfold ku
 rw [List.length_map]
 exact Nat.le_trans (List.length_filter_le _ _) (by simp)
theorem ph {n : Int} {L : ML} {l : List Int} (hr : dX n L = true) (h : mr L l) : mr L (ku l n.toNat) := fun r hr2 => by
 obtain ⟨c, h1, h2⟩ := h r hr2
 have := pP hr ⟨r, hr2, h1⟩
 exact ⟨c, h1, pD.2 ⟨h2, by omega, by omega⟩⟩
theorem lE.ris {n : Int} {L0 L : ML} {ks : List Int} (hr : dX n L0 = true) (h : lE L0 L ks) : lE L0 L (ku ks n.toNat) := by
 have hm : ∀ c, c ∈ ku ks n.toNat ↔ c ∈ ks := fun c => pD.trans ⟨fun q => q.1, fun q => by
  have := pP hr (h.ksub c q)
  exact ⟨q, by omega, by omega⟩⟩
 exact h.perm (kQ _ _) hm (Nat.le_antisymm (sY (kQ _ _) fun x hx => (hm x).1 hx) (sY h.nd fun x hx => (hm x).2 hx))
structure KD (L : ML) (n : Int) (X : List Int) : Prop where
 nd : X.Nodup
 lim : ∀ c, c ∈ X → 0 ≤ c ∧ c < n
 slv : mr L X
 min : ∀ Y, Y.Nodup → mr L Y → X.length ≤ Y.length
theorem qI.fin {n : Int} {L0 : ML} {best : List Int} (hr : dX n L0 = true) (h : qI L0 [] best) : KD L0 n (ku best n.toNat) := by
 obtain ⟨h1, _, _⟩ := fk.1 hr
 refine ⟨kQ _ _, fun c hc => ?_, ph hr h.bs, fun Y hn hY => ?_⟩
 ·have := (pD.1 hc).2
  omega
 ·rcases h.dn Y hn hY with k | ⟨x, hx, _⟩
  ·exact Nat.le_trans (A8 _ _) k
  ·cases hx
theorem KD.both {n : Int} {L0 L : ML} {T X : List Int} (h : lE L0 L T) (k : KD L n X) : mr L0 (T ++ X) ∧ ∀ Y, Y.Nodup → mr L0 Y → (T ++ X).length ≤ Y.length := by
 refine ⟨h.up X k.slv, fun Y hn hY => ?_⟩
 obtain ⟨X', h1, h2, h3⟩ := h.dn Y hn hY
 have := k.min X' h1 h2
 rw [List.length_append]
 omega
end
section
open Go Go.RowKit
theorem LL.last {w : World} {vos : List Value} {A : List (List Int)} {m : Nat} (h : LL w vos (A.take m)) (hm : m ≤ A.length) (h0 : 0 < m) : dM d9 1 w (vos.getD ((vos.length : Int) - 1).toNat undef) (A.getD (m - 1) []) := by
 have hl := h.len
 rw [List.length_take, Nat.min_eq_left hm] at hl
 have g := h.get (m - 1) (by rw [List.length_take]; omega)
 have e : (A.take m).getD (m - 1) [] = A.getD (m - 1) [] := by
  rw [List.getD_eq_getElem?_getD, List.getElem?_take, if_pos (by omega), List.getD_eq_getElem?_getD]
 rw [e] at g
 rw [show ((vos.length : Int) - 1).toNat = m - 1 by omega]
 exact g
theorem Fk (S : Sp) (l : List Rw) : (lk S l).length = (j2 S l S.on.length).length := yl _
theorem GP {S : Sp} {l : List Rw} (hr : dP S = true) : (j2 S l S.on.length).length ≤ 1024 := by
 have h := sZ S l S.on.length
 have := (d7.1 hr).2.2.2.1
 omega
theorem LL.two {w : World} {v0 v1 : Value} {l0 l1 : List Int} (h0 : dM d9 1 w v0 l0) (h1 : dM d9 1 w v1 l1) : LL w [v0, v1] [l0, l1] := ((LL.nil w).snoc h0).snoc h1
end
section
open Go Go.RowKit
def rp {α : Type} (d : α) (p : Nat → Bool) (l : List α) : Nat → List α
 | 0 => []
 | k + 1 => if p k then rp d p l k ++ [l.getD k d] else rp d p l k
theorem EI {α : Type} {d : α} {p : Nat → Bool} {l : List α} {k : Nat} (h : p k = true) : rp d p l k ++ [l.getD k d] = rp d p l (k + 1) := by rw [rp, if_pos h]
theorem EW {α : Type} {d : α} {p : Nat → Bool} {l : List α} {k : Nat} (h : p k = false) : rp d p l k = rp d p l (k + 1) := by rw [rp, if_neg (by rw [h]; decide)]
theorem yY {α : Type} (d : α) (p : Nat → Bool) (l : List α) : ∀ k, (rp d p l k).length ≤ k
 | 0 => Nat.le_refl _
 | k + 1 => by
  have := yY d p l k
  rw [rp]
  split
  ·rw [List.length_append, List.length_singleton]; omega
  ·omega
theorem LO.kp {T : TypeId} {N : Nat} {w : World} {vs : List Value} {L : ML} (h : LO T N w vs L) (p : Nat → Bool) : ∀ k, k ≤ L.length → LO T N w (rp undef p vs k) (rp [] p L k)
 | 0, _ => LO.nil
 | k + 1, hk => by
  have ih := LO.kp h p k (by omega)
  rw [rp, rp]
  split
  ·exact ih.snoc (h.get k (by omega))
  ·exact ih
theorem qi {L : ML} {k : Nat} (h : k < L.length) : L.take (k + 1) = L.take k ++ [L.getD k []] := (Ht h).symm
theorem Io {L : ML} {c : Int} : ∀ k, k ≤ L.length → rp [] (fun k => !decide (c ∈ L.getD k [])) L k = qU (L.take k) c
 | 0, _ => by simp [rp, qU]
 | k + 1, hk => by
  have ih := Io (L := L) (c := c) k (by omega)
  rw [qi (by omega)]
  unfold qU at ih ⊢
  rw [rp, List.filter_append, ← ih]
  generalize rp [] (fun k => !decide (c ∈ L.getD k [])) L k = A
  generalize L.getD k [] = r
  by_cases h : c ∈ r
  ·simp [h]
  ·simp [h]
theorem Iq {L : ML} {i : Nat} : ∀ k, k ≤ L.length → rp [] (fun k => decide (¬ (k : Int) = (i : Int))) L k = if k ≤ i then L.take k else Gf (L.take k) i
 | 0, _ => by simp [rp]
 | k + 1, hk => by
  have ih := Iq (L := L) (i := i) k (by omega)
  rw [rp, ih]
  by_cases h1 : k < i
  ·rw [if_pos (decide_eq_true (by omega)), if_pos (by omega), if_pos (by omega), qi (by omega)]
  ·by_cases h2 : k = i
   ·subst h2
    rw [if_neg (by simp), if_pos (Nat.le_refl _), if_neg (by omega)]
    unfold Gf
    rw [List.take_take, Nat.min_eq_left (by omega), List.drop_of_length_le (by rw [List.length_take]; omega), List.append_nil]
   ·rw [if_pos (decide_eq_true (by omega)), if_neg (by omega), if_neg (by omega), qi (by omega)]
    unfold Gf
    rw [List.take_append_of_le_length (by rw [List.length_take]; omega), List.drop_append_of_le_length (by rw [List.length_take]; omega), List.append_assoc]
theorem H6 (L : ML) (c : Int) : rp [] (fun k => !decide (c ∈ L.getD k [])) L L.length = qU L c := by rw [Io _ (Nat.le_refl _), List.take_length]
theorem Pq {L : ML} {i : Nat} (h : i < L.length) : rp [] (fun k => decide (¬ (k : Int) = (i : Int))) L L.length = Gf L i := by rw [Iq _ (Nat.le_refl _), if_neg (by omega), List.take_length]
theorem GV {r : List Int} {c : Int} {k : Nat} (hk : k < r.length) (h : r.getD k 0 = c) : Value.bool true = .bool (decide (c ∈ r)) := zX (decide_eq_true (h ▸ dS hk))
theorem GG {r : List Int} {c : Int} {k : Nat} (hk : k = r.length) (h : ∀ q, q < k → ¬ r.getD q 0 = c) : Value.bool false = .bool (decide (c ∈ r)) := oA fun e => by
 obtain ⟨j, hj, hjc⟩ := fo (d := 0) (of_decide_eq_true e)
 exact h j (by omega) hjc
def yv (a b : List Int) : Bool := a.all fun x => decide (x ∈ b)
theorem ru {a b : List Int} : yv a b = true ↔ ∀ x, x ∈ a → x ∈ b := by
 unfold yv
 rw [List.all_eq_true]
 exact ⟨fun h x hx => of_decide_eq_true (h x hx), fun h x hx => decide_eq_true (h x hx)⟩
theorem Mm {a b : List Int} {k : Nat} (hk : k < a.length) (h : (!decide (a.getD k 0 ∈ b)) = true) : Value.bool false = .bool (yv a b) := oA fun e => by
 have := ru.1 e _ (dS (d := 0) hk)
 rw [decide_eq_true this] at h; cases h
theorem Mg {a b : List Int} {k : Nat} (hk : k = a.length) (h : ∀ q, q < k → (!decide (a.getD q 0 ∈ b)) = false) : Value.bool true = .bool (yv a b) := zX (ru.2 fun x hx => by
 obtain ⟨j, hj, rfl⟩ := fo (d := 0) hx
 have := h j (by omega)
 simpa using this)
theorem dh.hi {α : Type} {enc : α → List Value} {sz : Nat} {T : TypeId} {w : World} {N : Nat} {v : Value} {l : List α} (h : dh enc sz T w N v l) (he : ∀ a, (enc a).length = sz) {k : Nat} (hk : k ≤ l.length) : dh enc sz T w N (fV sz v 0 k (iV v)) (l.take k) := by
 obtain ⟨h1, h2⟩ := h
 have hl : (List.flatMap enc (l.take k)).length = (l.take k).length * sz := kd he _
 refine ⟨hl, ?_⟩
 rcases h2 with ⟨rfl, h3⟩ | ⟨g, cap, cur, rfl, hg, hh, hnc, hcm, hcs, ht⟩
 ·have h0 : l = [] := List.eq_nil_of_length_eq_zero h3
  subst h0
  have hk0 : k = 0 := by simpa using hk
  subst hk0
  exact .inl ⟨rfl, rfl⟩
 ·refine .inr ⟨g, cap, cur, ?_, hg, hh, by rw [List.length_take]; omega, hcm, hcs, ?_⟩
  ·show fV sz (.slice (some ⟨g, 0, none⟩) l.length cap) 0 k cap = _
   unfold fV zC
   rw [List.length_take, Nat.min_eq_left hk]
   by_cases hc : cap = 0
   ·subst hc; simp
   ·rw [if_neg hc]
    simp only [Option.map_some, Nat.zero_mul, Nat.sub_zero]
    rw [gP]
  ·rw [List.length_take, Nat.min_eq_left hk, qe he, ← ht, List.take_take]
   congr 1
   exact (Nat.min_eq_left (Nat.mul_le_mul_right _ hk)).symm
theorem HX {w : World} {b N : Nat} {T : TypeId} {f0 f1 f2 : Value} (k : At w b #[f0, f1, f2] T) (hN : N ≤ b) : dh encV 1 T w N (.slice (some ⟨b, 0, none⟩) 3 3) [f0, f1, f2] :=
 ⟨rfl, .inr ⟨b, 3, #[f0, f1, f2], rfl, hN, k, Nat.le_refl _, by decide, rfl, rfl⟩⟩
section
variable {P : Program} {f : Nat → Value} {w : World} {d : Option Nat} {ty : TypeId} {ps : String} {af : Array Edge} {g : Option (Nat × Bool)} {x y : Operand}
theorem N4 {a b : Int} {tys : Array TypeId} (hx : dO f x = .int .i64 a) (hy : dO f y = .int .i64 b) : (execOp (dO f) ⟨d, .call ⟨.builtin .max, #[x, y], tys⟩, ty, ps, af, g⟩).run P w = .ok (.value (.int .i64 (max a b))) w := by
 simp [execOp, resolve, invoke, builtin, hx, hy, Builtin.max_, Builtin.max2]
 split <;> omega
end
theorem Ey {v : Value} (h : v.oneCell' = true) : [v].all Value.oneCell' = true := by rw [List.all_cons, h]; rfl
theorem ic {n : Int} {v : Value} (h : v.oneCell' = true) : [Value.int .i64 n, v].all Value.oneCell' = true := by simp only [List.all_cons, List.all_nil, h, Bool.and_true]; rfl
def Gn (l : List (Int × Value)) (c : Int) : Value := (g7 l c).getD (.slice none 0 0)
structure MO (T : TypeId) (N : Nat) (w : World) (l : List (Int × Value)) (g : Int → List Int) : Prop where
 own : ∀ p, p ∈ l → dh d9 1 T w N p.2 (g p.1)
 ap : ∀ p q, p ∈ l → q ∈ l → ¬ p.1 = q.1 → eO p.2 q.2
 nd : (l.map (·.1)).Nodup
 no : ∀ c, c ∉ l.map (·.1) → g c = []
def Ci (g : Int → List Int) (c x : Int) : Int → List Int := fun d => if d = c then g d ++ [x] else g d
section
variable {T : TypeId} {N : Nat} {w w' : World} {l : List (Int × Value)} {g : Int → List Int} {c x : Int}
theorem MO.nil : MO T N w [] (fun _ => []) := ⟨fun p h => (by cases h), fun p q h => (by cases h), List.nodup_nil, fun _ _ => rfl⟩
theorem MO.get (h : MO T N w l g) (c : Int) : dh d9 1 T w N (Gn l c) (g c) := by
 unfold Gn
 cases e : g7 l c with
 | none =>
  rw [h.no c (nV.1 e)]
  exact dh.nil
 | some v => exact h.own (c, v) ((ma h.nd).1 e)
theorem MO.ext (h : eo w w') (k : MO T N w l g) : MO T N w' l g := ⟨fun p hp => h.ow (k.own p hp), k.ap, k.nd, k.no⟩
theorem MO.below {W : World} (h : Below w.heap.size w W) (k : MO T N w l g) : MO T N W l g := ⟨fun p hp => Below.ow h (k.own p hp), k.ap, k.nd, k.no⟩
theorem MO.grownAt {b : Nat} {cs : Array Value} {T' : TypeId} (k : MO T N w l g) (hm : At w b cs T') (hG : w.grownBy w' (some b)) (hT : T' ≠ T) : MO T N w' l g := ⟨fun p hp => (k.own p hp).grownAt hm hG hT, k.ap, k.nd, k.no⟩
theorem MO.grownMap {α β : Type} {enc : α → Value} {encV : β → Value} {b : Nat} {m : List (α × β)} (k : MO T N w l g) (hm : dR enc encV w b m) (hG : w.grownBy w' (some b)) : MO T N w' l g := ⟨fun p hp => (k.own p hp).grownMap hm hG, k.ap, k.nd, k.no⟩
theorem MO.grownOw {α : Type} {enc : α → List Value} {sz N' : Nat} {T' : TypeId} {v : Value} {m : List α} (k : MO T N w l g) (h : dh enc sz T' w N' v m) (hG : w.grownBy w' v.ownBlock) (hT : T' ≠ T) : MO T N w' l g := ⟨fun p hp => (k.own p hp).grownOw h hG hT.symm, k.ap, k.nd, k.no⟩
theorem rH {v : Value} {p : Int × Value} (hn : (l.map (·.1)).Nodup) (h : p ∈ hU l c v) : (p = (c, v)) ∨ (p ∈ l ∧ ¬ p.1 = c) := by
 unfold hU at h
 split at h
 ·obtain ⟨q, hq, e⟩ := List.mem_map.1 h
  split at e
  ·exact .inl e.symm
  ·rename_i hne
   rw [← e]; exact .inr ⟨hq, hne⟩
 ·rename_i hno
  rcases List.mem_append.1 h with k | k
  ·exact .inr ⟨k, fun e => hno (e ▸ List.mem_map_of_mem k)⟩
  ·exact .inl (List.mem_singleton.1 k)
theorem MO.app {v : Value} (k : MO T N w l g) (hG : w.grownBy w' (Gn l c).ownBlock) (hob : v.ownBlock = (Gn l c).ownBlock ∨ v.ownBlock = some w.heap.size) (hO : dh d9 1 T w' N v (g c ++ [x])) : MO T N w' (hU l c v) (Ci g c x) := by
 have hgo : ∀ p, p ∈ l → ¬ p.1 = c → eO (Gn l c) p.2 := fun p hp hne => by
  unfold Gn
  cases e : g7 l c with
  | none => exact eO.nilL
  | some u => exact k.ap (c, u) p ((ma k.nd).1 e) hp (fun q => hne q.symm)
 have hap : ∀ p, p ∈ l → ¬ p.1 = c → eO v p.2 := fun p hp hne => eO.app (hgo p hp hne) hob (k.own p hp)
 refine ⟨fun p hp => ?_, fun p q hp hq hne => ?_, ?_, fun d hd => ?_⟩
 ·rcases rH k.nd hp with rfl | ⟨h1, h2⟩
  ·unfold Ci; rw [if_pos rfl]; exact hO
  ·unfold Ci; rw [if_neg h2]; exact (k.own p h1).grownAp (hgo p h1 h2) hG
 ·rcases rH k.nd hp with rfl | ⟨h1, h2⟩
  ·rcases rH k.nd hq with rfl | ⟨h3, h4⟩
   ·exact absurd rfl hne
   ·exact hap q h3 h4
  ·rcases rH k.nd hq with rfl | ⟨h3, h4⟩
   ·exact (hap p h1 h2).symm
   ·exact k.ap p q h1 h3 hne
 ·rw [j8]; exact jn k.nd c
 ·rw [j8] at hd
  have h1 : ¬ d = c := fun e => hd (gm.2 (.inr e))
  unfold Ci
  rw [if_neg h1]
  exact k.no d fun e => hd (gm.2 (.inl e))
end
def Md (r : List Int) (i : Nat) (g : Int → List Int) : Nat → Int → List Int
 | 0 => g
 | j + 1 => Ci (Md r i g j) (r.getD j 0) (i : Int)
def ny (L : ML) : Nat → Int → List Int
 | 0 => fun _ => []
 | i + 1 => Md (L.getD i []) i (ny L i) (L.getD i []).length
theorem D5 {r : List Int} {i : Nat} {g : Int → List Int} {c x : Int} : ∀ j, j ≤ r.length → (x ∈ Md r i g j c ↔ x ∈ g c ∨ (c ∈ r.take j ∧ x = i))
 | 0, _ => by simp [Md]
 | j + 1, hj => by
  have ih := D5 (r := r) (i := i) (g := g) (c := c) (x := x) j (by omega)
  rw [Md, List.take_add_one, List.mem_append, List.getElem?_eq_getElem (show j < r.length by omega)]
  have e : r.getD j 0 = r[j] := by rw [List.getD_eq_getElem?_getD, List.getElem?_eq_getElem (show j < r.length by omega)]; rfl
  unfold Ci
  rw [e]
  by_cases h : c = r[j]
  ·rw [if_pos h, List.mem_append, ih, List.mem_singleton]
   simp [h]
   constructor
   ·rintro ((h1 | h1) | h1)
    ·exact .inl h1
    ·exact .inr h1.2
    ·exact .inr h1
   ·rintro (h1 | h1)
    ·exact .inl (.inl h1)
    ·exact .inr h1
  ·rw [if_neg h, ih]
   simp [h]
theorem uC {L : ML} {c x : Int} : ∀ k, x ∈ ny L k c ↔ ∃ i, i < k ∧ c ∈ L.getD i [] ∧ x = (i : Int)
 | 0 => by simp [ny]
 | k + 1 => by
  rw [ny, D5 _ (Nat.le_refl _), List.take_length, uC k]
  constructor
  ·rintro (⟨i, h1, h2, h3⟩ | ⟨h2, h3⟩)
   ·exact ⟨i, by omega, h2, h3⟩
   ·exact ⟨k, by omega, h2, h3⟩
  ·rintro ⟨i, h1, h2, h3⟩
   by_cases e : i = k
   ·subst e; exact .inr ⟨h2, h3⟩
   ·exact .inl ⟨i, by omega, h2, h3⟩
theorem DZ {L : ML} {c : Int} {q : Nat} (h : q < (ny L L.length c).length) : 0 ≤ (ny L L.length c).getD q 0 ∧ (ny L L.length c).getD q 0 < L.length ∧ c ∈ L.getD ((ny L L.length c).getD q 0).toNat [] := by
 obtain ⟨i, h1, h2, h3⟩ := (uC _).1 (dS (d := 0) h)
 rw [h3, Int.toNat_natCast]
 exact ⟨by omega, by omega, h2⟩
theorem yz {r : List Int} {i : Nat} {g : Int → List Int} {c : Int} : ∀ j, (Md r i g j c).length ≤ (g c).length + j
 | 0 => Nat.le_refl _
 | j + 1 => by
  have ih := yz (r := r) (i := i) (g := g) (c := c) j
  rw [Md]
  unfold Ci
  split
  ·rw [List.length_append, List.length_singleton]; omega
  ·omega
theorem ud {L : ML} {c : Int} (h : ∀ i, (L.getD i []).length ≤ 4000) : ∀ k, (ny L k c).length ≤ 4000 * k
 | 0 => Nat.le_refl _
 | k + 1 => by
  have ih := ud (c := c) h k
  have h1 := yz (r := L.getD k []) (i := k) (g := ny L k) (c := c) (L.getD k []).length
  have h2 := h k
  rw [ny]; omega
theorem Ns {L : ML} {c d : Int} (h : yv (ny L L.length c) (ny L L.length d) = true) : ∀ r, r ∈ L → c ∈ r → d ∈ r := fun r hr hc => by
 obtain ⟨i, hi, rfl⟩ := fo (d := []) hr
 obtain ⟨j, _, h2, h3⟩ := (uC _).1 (ru.1 h _ ((uC _).2 ⟨i, hi, hc, rfl⟩))
 have e : j = i := by omega
 rw [e] at h2
 exact h2
theorem Ac {r : List Int} {c : Int} {k : Nat} (hk : k < r.length) : x5 (r.take (k + 1)) c = if r.getD k 0 = c then x5 (r.take k) c else x5 (r.take k) c ++ [r.getD k 0] := by
 unfold x5
 rw [List.take_add_one, List.getElem?_eq_getElem hk, List.filter_append, List.getD_eq_getElem?_getD, List.getElem?_eq_getElem hk]
 by_cases h : r[k] = c
 ·simp [h]
 ·simp [h]
theorem Es {r : List Int} {c : Int} {k : Nat} (hk : k < r.length) (h : ¬ r.getD k 0 = c) : x5 (r.take k) c ++ [r.getD k 0] = x5 (r.take (k + 1)) c := by rw [Ac hk, if_neg h]
theorem D9 {r : List Int} {c : Int} {k : Nat} (hk : k < r.length) (h : r.getD k 0 = c) : x5 (r.take k) c = x5 (r.take (k + 1)) c := by rw [Ac hk, if_pos h]
theorem BH {L : ML} {c : Int} {k : Nat} (hk : k < L.length) : oa (L.take k) c ++ [x5 (L.getD k []) c] = oa (L.take (k + 1)) c := by
 rw [qi hk]
 unfold oa
 rw [List.map_append]
 rfl
theorem yu {L : ML} {c : Int} {k : Nat} (hk : k = L.length) : oa (L.take k) c = oa L c := by rw [hk, List.take_length]
theorem EP (L : ML) (c : Int) (k : Nat) : (oa (L.take k) c).length ≤ k := by unfold oa; rw [List.length_map, List.length_take]; omega
theorem Eo (r : List Int) (c : Int) (k : Nat) : (x5 (r.take k) c).length ≤ k := by
 have := yt (r.take k) c
 rw [List.length_take] at this; omega
def Qf (L L' : ML) (c : Int) (b : Bool) : Prop := (b = true ∧ (∃ r, r ∈ L ∧ r = [c]) ∧ L' = qU L c) ∨ (b = false ∧ L' = L)
theorem P0 {L : ML} {k : Nat} {C : Int} (hk : k < L.length) (h1 : ((L.getD k []).length : Int) = 1) (hC : C = (L.getD k []).getD 0 0) : Qf L (rp [] (fun k => !decide (C ∈ L.getD k [])) L L.length) C true := by
 refine .inl ⟨rfl, ⟨L.getD k [], dS (d := []) hk, ?_⟩, H6 L C⟩
 generalize L.getD k [] = r at *
 match r, h1 with
 | [a], _ => rw [hC]; rfl
theorem Pn (L : ML) : Qf L L 0 false := .inr ⟨rfl, rfl⟩
def Pc (L L' : ML) (b : Bool) : Prop := (b = true ∧ ((∃ i k, i < L.length ∧ k < L.length ∧ ¬ k = i ∧ (∀ x, x ∈ L.getD k [] → x ∈ L.getD i []) ∧ L' = Gf L i) ∨ ∃ c d, qq L c ∧ ¬ d = c ∧ (∀ r, r ∈ L → c ∈ r → d ∈ r) ∧ L' = oa L c)) ∨ (b = false ∧ L' = L)
theorem HV (L : ML) : Pc L L false := .inr ⟨rfl, rfl⟩
theorem zj {L : ML} {i k : Nat} (hi : i < L.length) (hk : k < L.length) (hne : ¬ (k : Int) = (i : Int)) (hw : yv (L.getD k []) (L.getD i []) = true) : Pc L (rp [] (fun k => decide (¬ (k : Int) = (i : Int))) L L.length) true :=
 .inl ⟨rfl, .inl ⟨i, k, hi, hk, fun e => hne (by rw [e]), fun x hx => ru.1 hw x hx, Pq hi⟩⟩
theorem D3 {L : ML} {c d : Int} {i : Nat} (h0 : (ny L L.length c).length ≠ 0) (hne : ¬ d = c) (hw : yv (ny L L.length c) (ny L L.length d) = true) : Pc L (oa L c) true := by
 refine .inl ⟨rfl, .inr ⟨c, d, ?_, hne, Ns hw, rfl⟩⟩
 obtain ⟨h1, h2, h3⟩ := DZ (q := 0) (Nat.pos_of_ne_zero h0)
 exact ⟨_, dS (by omega), h3⟩
structure MC (L0 L' L : ML) (ks' : List Int) (n : Int) (b : Bool) : Prop where
 rd : lE L0 L' ks'
 r : dX n L' = true
 sz : qK L' ≤ qK L
 szt : b = true → qK L' < qK L
 len : L'.length ≤ L.length
theorem Am {L0 L : ML} {ks : List Int} {n : Int} (h : lE L0 L ks) (hr : dX n L = true) : MC L0 L L ks n false := ⟨h, hr, Nat.le_refl _, fun e => Bool.noConfusion e, Nat.le_refl _⟩
theorem HC {L0 L L' : ML} {ks : List Int} {n c : Int} (h : lE L0 L ks) (hr : dX n L = true) (k : Qf L L' c true) : MC L0 L' L (iy ks c) n true := by
 obtain ⟨_, ⟨r, h1, h2⟩, rfl⟩ | ⟨h1, _⟩ := k
 ·have hin : qq L c := ⟨r, h1, by rw [h2]; exact List.mem_singleton.2 rfl⟩
  exact ⟨h.take h1 h2, vQ hr c, C3 c L, fun _ => ye hin, JL L c⟩
 ·cases h1
theorem Gj {L0 L L' : ML} {ks : List Int} {n c : Int} (h : lE L0 L ks) (hr : dX n L = true) (k : Qf L L' c false) : MC L0 L' L ks n false := by
 obtain ⟨h1, _⟩ | ⟨_, rfl⟩ := k
 ·cases h1
 ·exact Am h hr
theorem Jx {L0 L L' : ML} {ks : List Int} {n : Int} {b : Bool} (h : lE L0 L ks) (hr : dX n L = true) (k : Pc L L' b) : MC L0 L' L ks n b := by
 obtain ⟨rfl, ⟨i, j, h1, h2, h3, h4, rfl⟩ | ⟨c, d, h1, h2, h3, rfl⟩⟩ | ⟨rfl, rfl⟩ := k
 ·refine ⟨h.rows (fun r => IG) (fun X hX => OS h1 h2 h3 h4 hX), Gv hr i, Nat.le_of_lt (HD h1), fun _ => HD h1, ?_⟩
  unfold Gf
  rw [List.length_append, List.length_take, List.length_drop]; omega
 ·exact ⟨h.cols h2 h3, AM hr c, CF c L, fun _ => xt h1, Nat.le_of_eq (len_le L c)⟩
 ·exact Am h hr
end
end Go.Proofs.YteimkklmmanncaaGreat
