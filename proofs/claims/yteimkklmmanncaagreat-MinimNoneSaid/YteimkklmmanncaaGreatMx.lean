/- The walks of package cover. Plain words for coverings made smaller, and for the fewest columns. No program in it. Steps of the walks of the document's coverings, and of the laws. No program in it. Coverings as values: rows of rows, what making them smaller and the search hold in memory. No program i -/
import Derived.Test.YteimkklmmanncaaGreatCover3
namespace Go.Proofs.YteimkklmmanncaaGreat
set_option linter.unusedVariables false
set_option linter.unusedSimpArgs false
section
open Go Go.RowKit
theorem Ol39_0 {p : Prop} (h : p := by first | omega | (simp only [cV, cW, cX, da, de]; omega)) : p := h
theorem eq : fx Tryz.prog 77 1 = some 1 := by kernel_rfl
theorem fk : fp Tryz.prog 75 = true := by kernel_rfl
theorem eb : fO Tryz.prog 75 = some (80, 1, 24) := by kernel_rfl
theorem iO : fp Tryz.prog 80 = true := by kernel_rfl
theorem iy : fx Tryz.prog 77 0 = some 0 := by kernel_rfl
theorem Bd : fO Tryz.prog 150 = some (5, 1, 1) := by kernel_rfl
theorem IJ : (eL Tryz.prog 5).map (fun z => z.cells.size) = some 1 := by kernel_rfl
theorem lS : fp Tryz.prog 29 = true := by kernel_rfl
theorem NI : dC Tryz.prog 70 = true := by kernel_rfl
theorem wh : fp Tryz.prog 108 = true := by kernel_rfl
theorem AE : lK Tryz.prog 108 = some (9, 4) := by kernel_rfl
theorem Fe : oS Tryz.prog 9 (fun v => ∃ a : List UInt8, v = mM a) := by
  refine nG Tryz.underlying9 ?_ ?_ ?_ ?_
  · rintro w _ _ ⟨a, rfl⟩ ⟨c, rfl⟩
    refine ⟨_, run_equalIn_string w 9999 9 _ _ Tryz.underlying9, by rw [beq_iff_eq, ByteArray.toList_eq]; simp [mM]⟩
  · rintro _ _ ⟨a, rfl⟩ ⟨c, rfl⟩
    exact .inr ⟨_, rfl, by rw [Bo]; simp [mM]⟩
  · rintro w em _ ⟨a, rfl⟩
    have h2 : ∀ k, (Instr.checkKey em (k + 1) 9 (mM a)).run Tryz.prog w = .ok () w := fun k => by
      simp [mM, Instr.checkKey, run_underlying Tryz.underlying9]
    exact h2 9999
  · rintro _ ⟨a, rfl⟩
    exact (Bo a a).2 rfl
theorem MT : dC Tryz.prog 71 = true := by kernel_rfl
theorem jb : (eL Tryz.prog 80).map (fun z => z.cells.size) = some 1 := by kernel_rfl
theorem ia : eL Tryz.prog 77 = some (.agg #[.int .i64 0, .slice none 0 0]) := by kernel_rfl
theorem ik : (Tryz.prog.info? 3).map (·.size) = some 1 := by kernel_rfl
theorem xR : (Tryz.prog.info? 75).map (·.size) = some 1 := by kernel_rfl
theorem pK {f : Nat → Value} {w : World} {d : Option Nat} {ty : TypeId} {ps : String} {af : Array Edge} {g : Option (Nat × Bool)}    :
    (execOp (dO f) ⟨d, .build 77 #[], ty, ps, af, g⟩).run Tryz.prog w = .ok (.value (.agg #[.int .i64 0, .slice none 0 0])) w := by
  obtain ⟨i0, hi0, hz0⟩ := Option.bind_eq_some_iff.1 (show (Tryz.prog.info? 77).bind (·.zero) = _ from ia)
  obtain ⟨j3, hj3, hs3⟩ := Option.map_eq_some_iff.1 ik
  obtain ⟨j75, hj75, hs75⟩ := Option.map_eq_some_iff.1 xR
  simp [execOp, Instr.build, zeroValue, typeInfo, sizeOf, hi0, hz0, run_underlying Tryz.underlying77, Instr.fill, eW, hj3, hs3, hj75, hs75]
theorem dH : kY Tryz.prog 77 = some 2 := by kernel_rfl
theorem Na : eL Tryz.prog 22 = some (.slice none 0 0) := by kernel_rfl
theorem ua : (eL Tryz.prog 49).map (fun z => z.cells.size) = some 4 := by kernel_rfl
theorem kn {f : Nat → Value} {w : World} {d : Option Nat} {ty : TypeId} {ps : String} {af : Array Edge} {g : Option (Nat × Bool)} {x0 : Operand} {c0_0 : Value} (h0 : dO f x0 = c0_0) (k0 : c0_0.cells = #[c0_0]) :
    (execOp (dO f) ⟨d, .build 77 #[(0, x0)], ty, ps, af, g⟩).run Tryz.prog w = .ok (.value (.agg #[c0_0, .slice none 0 0])) w := by
  obtain ⟨i0, hi0, hz0⟩ := Option.bind_eq_some_iff.1 (show (Tryz.prog.info? 77).bind (·.zero) = _ from ia)
  obtain ⟨j3, hj3, hs3⟩ := Option.map_eq_some_iff.1 ik
  obtain ⟨j75, hj75, hs75⟩ := Option.map_eq_some_iff.1 xR
  simp [execOp, h0, k0, Instr.build, zeroValue, typeInfo, sizeOf, hi0, hz0, run_underlying Tryz.underlying77, Instr.fill, eW, hj3, hs3, hj75, hs75]
theorem LB : eL Tryz.prog 108 = some (.map none) := by kernel_rfl
theorem Oi : dC Tryz.prog 68 = true := by kernel_rfl
theorem jE (n : Int) (rv : Value) (vs : List Value) (L : List (List Int)) (w : World) (hrv : dM encV 1 w rv vs) (hll : LL w vs L) (hLb : L.length ≤ 1000000) (hRb : ∀ i, (L.getD i []).length ≤ 1000000) :
    Fn Tryz.prog 72 #[.agg #[.int .i64 n, rv]] w fun v w' => v = .bool (dX n L) := by
 refine dq (n := 41) Tryz.func72 rfl rfl (Nat.le_of_ble_eq_true rfl) ?_
 have hB : Below w.heap.size w w := Below.refl _ _
 have hvl := hll.len
 refine Zr <| Zy (dU (c := #[_, _]) rfl rfl fun g W3 h j a => ?_)
 have z := ZO h hB
 clear h
 replace hB := Ze hB j
 refine Zw (.bool false) rfl <| cT <| cY fun K6 l => Zr <| Zf rfl eq <| ZL rv rfl fk a rfl <| Zv (dA (v := rv) rfl (Below.slT hB hrv) eb) <| Zw (.int .i64 0) rfl <| cT <| c7 ?_
 refine dw (σ := (Nat)) [2, 4, 5, 7, 11, 12, 13, 14, 15, 16, 17, 18, 19, 20, 21, 22, 23, 24, 25, 26, 27, 28, 29, 30, 31, 32] (fun i => [(11, .int .i64 (i : Int))]) (fun i W => (Below w.heap.size w W) ∧ (At W g _ 77) ∧ (i ≤ L.length) ∧ (∀ q, q < i → nC n (L.getD q []) = true) ∧ (True)) (fun i => L.length - i) (0) ⟨rfl, trivial⟩ ⟨hB, a, (Nat.zero_le _), ff, trivial⟩ ?_
 clear hB a
 rintro i A B ⟨hB, a, hi, hq, _⟩ C m
 refine Zr <| Zv (dL rfl rfl) <| cT <| cY fun D o => ZQ rfl (fun p => ?_) fun p => ?_
 refine c9 <| o _ _ <| cY fun E r => c7 <| Zr <| Zv (dJ (v := rv) rfl (Below.slT hB hrv) rfl eb Om Ol39_0) <| Zv (dk (v := (vs.getD i undef)) rfl iO (dM.cell (Below.slT hB hrv) fW undef Om Ol39_0 0 rfl)) ?_
 have b : dM d9 1 w ((vs.getD i undef)) (L.getD i []) := hll.get i (by omega)
 refine Zw (vs.getD i undef) rfl <| cT <| Zr <| Zi rfl <| cT ?_
 have hRi := hRb i
 refine Zr <| Zw (vs.getD i undef) rfl <| Zv (dA (v := (vs.getD i undef)) rfl (Below.slT hB b) du) <| Zw (.int .i64 0) rfl <| cT <| c7 ?_
 refine dw (σ := (Nat)) [2, 5, 7, 17, 18, 19, 20, 21, 22, 23, 24, 25, 26, 27, 28, 29, 30, 31] (fun k => [(17, .int .i64 (k : Int)), (5, .int .i64 (vy (L.getD i []) k))]) (fun k W => (Below w.heap.size w W) ∧ (At W g _ 77) ∧ (k ≤ (L.getD i []).length) ∧ (∀ q, q < k → 0 ≤ (L.getD i []).getD q 0 ∧ (L.getD i []).getD q 0 < n ∧ (0 < q → (L.getD i []).getD (q - 1) 0 < (L.getD i []).getD q 0)) ∧ (True)) (fun k => (L.getD i []).length - k) (0) ⟨rfl, rfl, trivial⟩ ⟨hB, a, (Nat.zero_le _), ff, trivial⟩ ?_
 clear hB a
 rintro k F G ⟨hB, a, hk, hq2, _⟩ H s
 refine Zr <| Zv (dL rfl rfl) <| cT <| cY fun I t => ZQ rfl (fun u => ?_) fun u => ?_
 refine c9 <| t _ _ <| cY fun J x => c7 <| Zr <| Zv (dJ (v := (vs.getD i undef)) rfl (Below.slT hB b) rfl du Om Ol39_0) <| Zv (dk (v := .int .i64 _) rfl dB (dM.cell (Below.slT hB b) eD 0 Om Ol39_0 0 rfl)) <| Zi rfl <| cT <| cY fun K y => Zr <| Zi rfl <| Zi rfl <| Zv (yi rfl rfl) ?_
 refine ZX rfl (fun d => ?_) fun d => ?_
 refine Zs <| Zs <| Zs <| Zs <| Zw (.bool true) rfl <| cT <| dz rfl <| Zr <| Zw (.bool false) rfl <| cT <| Zt <| dE (v := .bool false) rfl ⟨hB, ?_⟩
 exact Me (i := i) (k := k) Om Om (fun q hq => (hq2 q hq).1) (.inl d)
 refine Zi rfl <| Zf rfl iy <| Zl rfl dB a rfl <| Zv (nJ rfl rfl) <| Zb rfl <| cT <| ZQ rfl (fun e => ?_) fun e => ?_
 refine Zr <| Zw (.bool false) rfl <| cT <| Zt <| dE (v := .bool false) rfl ⟨hB, ?_⟩
 exact Me (i := i) (k := k) Om Om (fun q hq => (hq2 q hq).1) (.inr e)
 refine c9 <| y _ _ <| cZ <| Zi rfl <| Zi rfl <| cT <| x _ _ <| cZ <| Zv (dp rfl rfl Om Om) <| Zi rfl <| cT ?_
 exact s _ _ (k + 1) Za ⟨rfl, rfl, trivial⟩ ⟨hB, a, Om, (KB hq2 d e), trivial⟩ Zo
 refine dr <| r _ _ <| cZ <| Zv (dp rfl rfl Om Om) <| Zi rfl <| cT ?_
 exact m _ _ (i + 1) Za ⟨rfl, trivial⟩ ⟨hB, a, Om, (ey hq (iV.2 (fun q hq => hq2 q Om))), trivial⟩ Zo
 refine dr <| l _ _ <| Zr <| Zf rfl iy <| Zl rfl dB a rfl <| Zv (nJ rfl rfl) <| ZX rfl (fun f => ?_) fun f => ?_
 refine Zf rfl iy <| Zl rfl dB a rfl <| Zv (yi rfl rfl) <| Zb rfl <| Zb rfl <| cT <| Zt <| dE (v := .bool _) rfl ⟨hB, ?_⟩
 obtain rfl : i = L.length := by omega
 exact Qt f hq
 refine Zs <| Zs <| Zs <| Zw (.bool false) rfl <| Zw (.bool false) rfl <| cT <| Zt <| dE (v := .bool false) rfl ⟨hB, ?_⟩
 obtain rfl : i = L.length := by omega
 exact QS f
theorem wX (xa xb : Value) (a b : List Int) (w : World) (ha : dM d9 1 w xa a) (hb : dM d9 1 w xb b) (hal : a.length ≤ 1000000) (hbl : b.length ≤ 1000000) :
    Fn Tryz.prog 71 #[xa, xb] w fun v w' => v = .bool (fN a b) := by
 refine dq (n := 40) Tryz.func71 rfl rfl (Nat.le_of_ble_eq_true rfl) ?_
 have hB : Below w.heap.size w w := Below.refl _ _
 refine Zr <| Zw (.bool false) rfl <| cT <| cY fun K3 e => Zr <| Zw xa rfl <| Zv (dA (v := xa) rfl (Below.slT hB ha) du) <| Zw xb rfl <| Zv (dA (v := xb) rfl (Below.slT hB hb) du) <| Zv (f7 rfl rfl) <| cT <| ZQ rfl (fun d => ?_) fun d => ?_
 refine Zr <| Zw xa rfl <| Zv (dA (v := xa) rfl (Below.slT hB ha) du) <| Zw xb rfl <| Zv (dA (v := xb) rfl (Below.slT hB hb) du) <| Zv (dL rfl rfl) <| Zb rfl <| cT <| Zt <| dE (v := .bool _) rfl ⟨hB, ?_⟩
 exact PA d
 refine c9 <| e _ _ <| cY fun K9 f => Zr <| Zw xa rfl <| Zv (dA (v := xa) rfl (Below.slT hB ha) du) <| Zw (.int .i64 0) rfl <| cT <| c7 ?_
 refine dw (σ := (Nat)) [4, 5, 18, 19, 20, 21, 22, 23, 24, 25, 26, 27, 28, 29, 30, 31, 32, 33, 34, 35, 36, 37, 38, 39] (fun k => [(18, .int .i64 (k : Int))]) (fun k W => (Below w.heap.size w W) ∧ (k ≤ a.length) ∧ (∀ q, q < k → a.getD q 0 = b.getD q 0) ∧ (True)) (fun k => a.length - k) (0) ⟨rfl, trivial⟩ ⟨hB, (Nat.zero_le _), ff, trivial⟩ ?_
 clear hB
 rintro k r s ⟨hB, hk, hq, _⟩ t g
 refine Zr <| Zv (dL rfl rfl) <| cT <| cY fun u h => ZQ rfl (fun i => ?_) fun i => ?_
 refine c9 <| h _ _ <| cY fun x j => c7 <| Zr <| Zi rfl <| Zi rfl <| cT <| Zd eo fun l m => ?_
 replace hB := Ze hB m
 have hS := eo.refl l
 refine Tw 0 xa rfl rfl hS <| Ti 1 rfl rfl hS <| Tk 2 rfl (fun _ hq => dJ (v := xa) rfl (hq.slT (Below.slT hB ha)) rfl du Om Ol39_0) hS <| Tk 3 rfl (fun _ hq => dk (v := .int .i64 _) rfl dB (dM.cell (hq.slT (Below.slT hB ha)) eD 0 Om Ol39_0 0 rfl)) hS <| Tw 4 xb rfl rfl hS <| Ti 5 rfl rfl hS <| Tk 6 rfl (fun _ hq => dJ (v := xb) rfl (hq.slT (Below.slT hB hb)) rfl du Om Ol39_0) hS <| Tk 7 rfl (fun _ hq => dk (v := .int .i64 _) rfl dB (dM.cell (hq.slT (Below.slT hB hb)) eD 0 Om Ol39_0 0 rfl)) hS <| Tk 8 rfl (fun _ _ => f7 rfl rfl) hS <| Td <| ZQ rfl (fun c => ?_) fun c => ?_
 refine Zd eo fun o p => ?_
 replace hB := Ze hB p
 have hS := eo.refl o
 refine Tw 0 xa rfl rfl hS <| Ti 1 rfl rfl hS <| Tk 2 rfl (fun _ hq => dJ (v := xa) rfl (hq.slT (Below.slT hB ha)) rfl du Om Ol39_0) hS <| Tk 3 rfl (fun _ hq => dk (v := .int .i64 _) rfl dB (dM.cell (hq.slT (Below.slT hB ha)) eD 0 Om Ol39_0 0 rfl)) hS <| Tw 4 xb rfl rfl hS <| Ti 5 rfl rfl hS <| Tk 6 rfl (fun _ hq => dJ (v := xb) rfl (hq.slT (Below.slT hB hb)) rfl du Om Ol39_0) hS <| Tk 7 rfl (fun _ hq => dk (v := .int .i64 _) rfl dB (dM.cell (hq.slT (Below.slT hB hb)) eD 0 Om Ol39_0 0 rfl)) hS <| Tk 8 rfl (fun _ _ => dL rfl rfl) hS <| Ty 9 rfl rfl hS <| Td <| Zt <| dE (v := .bool _) rfl ⟨hB, ?_⟩
 exact Pq (k := k) Om Om hq c
 refine c9 <| j _ _ <| cZ <| Zv (dp rfl rfl Om Om) <| Zi rfl <| cT ?_
 exact g _ _ (k + 1) Za ⟨rfl, trivial⟩ ⟨hB, Om, (ey hq (Decidable.of_not_not c)), trivial⟩ Zo
 refine dr <| f _ _ <| Zr <| Zw (.bool false) rfl <| cT <| Zt <| dE (v := .bool false) rfl ⟨hB, ?_⟩
 exact Pt (k := k) Om Om hq
theorem yT (xa : Value) (a : List Int) (w : World) (ha : dM d9 1 w xa a) (hal : a.length ≤ 4000) (hsm : ∀ x, x ∈ a → 0 ≤ x ∧ x < 65536) :
    Fn Tryz.prog 70 #[xa] w fun v w' => v = mM (j8 a) := by
 refine dq (n := 23) Tryz.func70 rfl rfl (Nat.le_of_ble_eq_true rfl) ?_
 have hB : Below w.heap.size w w := Below.refl _ _
 refine Zr <| Zw (.string _) rfl <| cT <| Zr <| Zw (.slice none 0 0) rfl <| cT <| cY fun K5 l => Zr <| Zw xa rfl <| Zv (dA (v := xa) rfl (Below.slT hB ha) du) <| Zw (.int .i64 0) rfl <| cT <| c7 ?_
 refine dw (σ := (Nat) × (Value)) [3, 5, 8, 9, 10, 11, 12, 13, 14, 15, 16, 17, 18, 19, 20] (fun (k, v0) => [(8, .int .i64 (k : Int)), (3, v0)]) (fun sg W => match sg with | (k, v0) => (Below w.heap.size w W) ∧ (dh Ap 1 5 W w.heap.size v0 (pk (a.take k))) ∧ (k ≤ a.length) ∧ (True)) (fun (k, v0) => a.length - k) ((0, .slice none 0 0)) ⟨rfl, rfl, trivial⟩ ⟨hB, dh.nil, (Nat.zero_le _), trivial⟩ ?_
 clear hB
 rintro ⟨k, v0⟩ y W9 ⟨hB, ho, hk, _⟩ z m
 refine Zr <| Zv (dL rfl rfl) <| cT <| cY fun A o => ZQ rfl (fun p => ?_) fun p => ?_
 refine c9 <| o _ _ <| cY fun B q => c7 <| Zr <| Zv (dJ (v := xa) rfl (Below.slT hB ha) rfl du Om Ol39_0) <| Zv (dk (v := .int .i64 _) rfl dB (dM.cell (Below.slT hB ha) eD 0 Om Ol39_0 0 rfl)) <| Zi rfl <| cT ?_
 have r := (hsm (a.getD k 0) (dS (by omega))).1
 have hwl : (pk (a.take k)).length ≤ 8000 := by rw [Fs, List.length_take]; omega
 refine cZ <| Zw v0 rfl <| Zi rfl <| Zv (NZ rfl rfl r) <| Zv (GO rfl Tryz.underlying3 Tryz.underlying5) <| Zi rfl <| Zv (GO rfl Tryz.underlying3 Tryz.underlying5) <| Zy (Cx (u0 := .int .u8 _) (u1 := .int .u8 _) rfl rfl Bd IJ rfl rfl Dd Dd fun e C c f s => ?_)
 have t := ZO c hB
 have olt_ho := dh.lt2 ho
 have g : eO v0 (.slice (some ⟨e, 0, none⟩) 2 2) := fun j h1 h2 => by cases h2; exact absurd (olt_ho _ h1) (by rw [c]; exact Nat.lt_irrefl _)
 clear c
 replace hB := Ze hB f
 replace ho := f.ow ho
 have b := wz (enc := Ap) (sz := 1) (a0 := _) (a1 := _) s rfl rfl rfl rfl t
 refine Zy (jr (v := v0) (v2 := .slice (some ⟨e, 0, none⟩) 2 2) rfl rfl Bd IJ Dd ho b.sl (yv) (by have := Below.size hB; omega) (by simp; omega) (by simp; omega) fun h D i d u => ?_)
 have E := eO.app g u b
 replace d := dh.app (enc := Ap) rfl rfl rfl rfl d
 replace hB := ZG hB i ho
 replace b := dh.grownAp b g i
 clear ho
 refine Zw h rfl <| cT <| q _ _ <| cZ <| Zv (dp rfl rfl Om Om) <| Zi rfl <| cT ?_
 exact m _ _ ((k + 1, h)) Za ⟨rfl, rfl, trivial⟩ ⟨hB, (by rw [← CY a k Om]; exact d), Om, trivial⟩ (by show a.length - (k + 1) < a.length - k; omega)
 refine dr <| l _ _ ?_
 obtain rfl : k = a.length := by omega
 rw [List.take_length] at ho
 refine Zr <| Zw v0 rfl <| Zv (B9 (v := v0) rfl ho.sl Tryz.underlying150 Tryz.underlying5 Tryz.underlying9) <| Zw (mM _) rfl <| cT <| Zt <| dE (v := mM _) rfl ⟨hB, ?_⟩
 rfl
theorem Py (N o : Nat) (p n : Int) (l : List Rw) (ks : List (List Int)) (bl bp bmet bm bq b4 bs : Nat) (xl xp rv xq s1 s2 : Value) (vs : List Value) (lq : List Int) (w : World) (hN0 : N ≤ w.heap.size) (ho : o < 8) (hp : 0 ≤ p ∧ p.toNat < 2 ^ n.toNat) (hl4 : l.length ≤ 4000) (hlr : hU l) (hrr : ∀ k, k < l.length → dY (l.getD k ⟨⟨0, 0⟩, 0⟩).c.m (l.getD k ⟨⟨0, 0⟩, 0⟩).c.v n = true) (hnd : ks.Nodup) (hkr : ∀ x, x ∈ ks → oW l x) (hkl : ks.length ≤ 2000) (hl : dM gv 3 w xl l) (hbl : At w bl #[xl] 29) (hbp : At w bp #[xp] 22) (hpo : dh gp 4 49 w N xp (s6 l n l.length)) (hbm : At w bmet #[.map (some bq)] 108) (hq : dR mM Value.bool w bq (ft ((ks).map j8))) (d : At w b4 #[.int .i64 0, .slice none 0 0] 77) (hbs : At w bs #[.int .i64 n, s1, s2] 24) (hxq : dh d9 1 3 w N xq lq) (hmm : At w bm #[.int .i64 (l.length : Int), rv] 77) (hrv : dh encV 1 80 w N rv vs) (hLO : LO 3 N w vs (gT ks)) (lom : N ≤ bm) (loq : N ≤ bq) (hne : b4 ≠ bm) :
    qJ Tryz.prog 68 #[.int .i64 (o : Int), .int .i64 p, .pointer (some ⟨bl, 0, none⟩), .pointer (some ⟨bp, 0, none⟩), .pointer (some ⟨bmet, 0, none⟩), .pointer (some ⟨bm, 0, none⟩)] w fun v w' => Below N w w' ∧ At w' bl #[xl] 29 ∧ At w' bp #[xp] 22 ∧ dh gp 4 49 w' N xp (s6 l n l.length) ∧ At w' bmet #[.map (some bq)] 108 ∧ dR mM Value.bool w' bq (ft ((iB ks (qA l o p.toNat)).map j8)) ∧ At w' b4 #[.int .i64 0, .slice none 0 0] 77 ∧ At w' bs #[.int .i64 n, s1, s2] 24 ∧ dh d9 1 3 w' N xq lq ∧ ∃ rv' vs', At w' bm #[.int .i64 (l.length : Int), rv'] 77 ∧ dh encV 1 80 w' N rv' vs' ∧ LO 3 N w' vs' (gT (iB ks (qA l o p.toNat))) := by
 refine eX (n := 77) Tryz.func68 rfl rfl (Nat.le_of_ble_eq_true rfl) ?_
 have hB : Below N w w := Below.refl _ _
 have hpl := Ar (l := l) (n := n) (Nat.le_refl _)
 have hkl2 := ya ks
 have hvl := hLO.len
 have R := hB
 replace hB := Below.refl w.heap.size w
 refine Zr <| Zw (.slice none 0 0) rfl <| cT <| cY fun K4 aw => Zr <| ZL xl rfl lS (Below.atI hB hbl) rfl <| Zv (dA (v := xl) rfl (Below.slT hB hl) dT) <| Zw (.int .i64 0) rfl <| cT <| c7 ?_
 refine dw (σ := (Nat) × (Value)) [8, 9, 10, 15, 16, 17, 18, 19, 20, 21, 22, 23, 24, 25, 26, 27, 28, 29, 30, 31, 32, 33, 34, 35, 36, 37, 38] (fun (k, v0) => [(15, .int .i64 (k : Int)), (8, v0)]) (fun sg W => match sg with | (k, v0) => (Below w.heap.size w W) ∧ (dh d9 1 3 W w.heap.size v0 (jm l o p.toNat k)) ∧ (k ≤ l.length) ∧ (True)) (fun (k, v0) => l.length - k) ((0, .slice none 0 0)) ⟨rfl, rfl, trivial⟩ ⟨hB, dh.nil, (Nat.zero_le _), trivial⟩ ?_
 clear hB
 rintro ⟨k, v0⟩ g9 W8 ⟨hB, ho, hk, _⟩ aT aa
 refine Zr <| Zv (dL rfl rfl) <| cT <| cY fun aU ax => ZQ rfl (fun ay => ?_) fun ay => ?_
 refine c9 <| ax _ _ <| cY fun aV ab => c7 <| Zr <| Zi rfl <| Zv (dJ (v := xl) rfl (Below.slT hB hl) rfl dT Om Ol39_0) <| Zv (k8 rfl eA (dM.cell (Below.slT hB hl) ej ⟨⟨0, 0⟩, 0⟩ Om Ol39_0 0 rfl) (dM.cell (Below.slT hB hl) ej ⟨⟨0, 0⟩, 0⟩ Om Ol39_0 1 rfl) (dM.cell (Below.slT hB hl) ej ⟨⟨0, 0⟩, 0⟩ Om Ol39_0 2 rfl)) <| Zy (dt kP rfl fun aW aX al ao M => ?_)
 have az := ZO al hB
 clear al
 replace hB := Ze hB ao
 replace ho := ao.ow ho
 refine Zi rfl <| Zy (dg rfl rfl eA rfl M rfl rfl fun aY ap aA => ?_)
 replace hB := Zg hB ap az
 replace ho := dh.grownAt ho M ap Dd
 replace M := aA
 refine cT ?_
 obtain ⟨aZ, a0, aB⟩ := hlr.get (k := k) (by omega)
 refine Zr <| Zf rfl fK <| Zl rfl ef M rfl <| Zi rfl <| Zv (sL rfl rfl Om (by simp only [IntKind.bits]; omega)) <| Zv (nE (n := 1) rfl rfl rfl (by show (l.getD k ⟨⟨0, 0⟩, 0⟩).o / 2 ^ ((o : Nat) : Int).toNat < 256; exact Nat.lt_of_le_of_lt (Nat.div_le_self _ _) aB) Dd) <| Zv (eB rfl rfl) <| ZX rfl (fun O => ?_) fun O => ?_
 refine ZL xp rfl eE (Below.atI hB hbp) rfl <| Zi rfl <| Zv (dJ (v := xp) rfl ((Below.ow hB hpo)).sl rfl ea Om Ol39_0) <| Zv (fq rfl df (dM.cell ((Below.ow hB hpo)).sl dG 0 Om Ol39_0 0 rfl) (dM.cell ((Below.ow hB hpo)).sl dG 0 Om Ol39_0 1 rfl) (dM.cell ((Below.ow hB hpo)).sl dG 0 Om Ol39_0 2 rfl) (dM.cell ((Below.ow hB hpo)).sl dG 0 Om Ol39_0 3 rfl)) <| Zi rfl <| ZC (vs := [.agg #[_, _, _, _], .int .i64 _]) IW (xD _ _ _) rfl fun a1 a2 ac aC => ?_
 replace hB := Ze hB ac
 replace ho := ac.ow ho
 replace M := ac.at M
 obtain rfl := aC
 refine Zb rfl <| cT <| ZQ rfl (fun Q => ?_) fun Q => ?_
 have hrl := sZ l o p.toNat k
 refine cZ <| Zw v0 rfl <| Zi rfl <| Zy (fc (u := .int .i64 _) rfl du fv rfl Dd Dd fun ad a3 Y ae aD => ?_)
 have a4 := ZO Y hB
 have a5 := dh.neB (b := ad) (Below.ow hB hxq) (Nat.le_of_eq Y.symm)
 have a6 := dh.neB (b := ad) ho (Nat.le_of_eq Y.symm)
 clear Y
 replace hB := Ze hB ae
 replace ho := ae.ow ho
 replace M := ae.at M
 refine Zy (ez (v := v0) (v2 := .slice (some ⟨ad, 0, none⟩) 1 1) rfl rfl du fv Dd ho (fG aD rfl) rfl (by have := Below.size hB; omega) (by first | omega | (simp; omega) | (simp only [cV, cW, cX, da, de]; omega)) (by first | omega | (simp; omega) | (simp only [cV, cW, cX, da, de]; omega)) fun aq a7 ar U => ?_)
 replace U := dh.snoc (enc := d9) (x := _) rfl rfl rfl rfl U
 replace hB := ZG hB ar ho
 replace M := At.grownOw M ho ar Dd
 clear ho
 refine Zw aq rfl <| cT <| ab _ _ <| cZ <| Zv (dp rfl rfl Om Om) <| Zi rfl <| cT ?_
 exact aa _ _ ((k + 1, aq)) Za ⟨rfl, rfl, trivial⟩ ⟨hB, (by first | (rw [← Ix (k := k) (o := o) Om (hrr k Om) hp O Q]; exact U) | (rw [← CG (k := k) (o := o) Om (hrr k Om) hp O Q]; exact U) | (rw [← Dy (k := k) (o := o) O]; exact U)), Om, trivial⟩ (by show l.length - (k + 1) < l.length - k; omega)
 refine c9 <| ab _ _ <| cZ <| Zv (dp rfl rfl Om Om) <| Zi rfl <| cT ?_
 exact aa _ _ ((k + 1, v0)) Za ⟨rfl, rfl, trivial⟩ ⟨hB, (by first | (rw [← Ix (k := k) (o := o) Om (hrr k Om) hp O Q]; exact ho) | (rw [← CG (k := k) (o := o) Om (hrr k Om) hp O Q]; exact ho) | (rw [← Dy (k := k) (o := o) O]; exact ho)), Om, trivial⟩ (by show l.length - (k + 1) < l.length - k; omega)
 refine Zs <| Zs <| Zs <| Zs <| Zs <| Zs <| Zw (.bool false) rfl <| cT <| d4 rfl <| c9 <| ab _ _ <| cZ <| Zv (dp rfl rfl Om Om) <| Zi rfl ?_
 refine cT ?_
 exact aa _ _ ((k + 1, v0)) Za ⟨rfl, rfl, trivial⟩ ⟨hB, (by first | (rw [← Ix (k := k) (o := o) Om (hrr k Om) hp O Q]; exact ho) | (rw [← CG (k := k) (o := o) Om (hrr k Om) hp O Q]; exact ho) | (rw [← Dy (k := k) (o := o) O]; exact ho)), Om, trivial⟩ (by show l.length - (k + 1) < l.length - k; omega)
 refine dr <| aw _ _ ?_
 obtain rfl : k = l.length := by omega
 have hro : oW l (qA l o p.toNat) := ⟨o, p.toNat, rfl⟩
 have hrl := sZ l o p.toNat l.length
 refine Zr <| Zw v0 rfl <| ZC NI (yT _ (jm l o p.toNat l.length) _ ho.sl Om (hro.small hl4)) rfl fun a8 a9 au aE => ?_
 replace hB := Ze hB au
 replace ho := au.ow ho
 obtain rfl := aE
 refine Zw (.string _) rfl <| cT <| cY fun ba aF => Zr <| ZL (.map (some bq)) rfl wh (Below.atI hB hbm) rfl <| Zw (.string _) rfl <| Zv (fR (enc := mM) (encV := Value.bool) (v0 := false) (k := (j8 (qA l o p.toNat))) rfl rfl AE Fe (fun a => ⟨a, rfl⟩) A3 oN rfl (Below.mapI hB hq)) <| cT <| ZQ rfl (fun af => ?_) fun af => ?_
 refine vW ?_
 clear hl
 replace hbl := Below.atI hB hbl
 replace hbp := Below.atI hB hbp
 replace hpo := Below.ow hB hpo
 replace hbm := Below.atI hB hbm
 replace hq := Below.mapI hB hq
 replace d := Below.atI hB d
 replace hbs := Below.atI hB hbs
 replace hxq := Below.ow hB hxq
 replace hmm := Below.atI hB hmm
 replace hrv := Below.ow hB hrv
 replace hLO := LO.below hB hLO
 have hzs := Nat.le_trans hN0 (Below.size R)
 replace ho := dh.mono ho hzs
 replace hB := Below.trans R (Below.mono hB hzs)
 clear R hzs
 repeat (first | refine j6 ?_ | refine jp ?_)
 refine HP ?_
 have hin : qA l o p.toNat ∈ ks := (rF hl4 hkr hro).1 (nh af)
 rw [Gb hin]
 exact ⟨hB, hbl, hbp, hpo, hbm, hq, d, hbs, hxq, rv, vs, hmm, hrv, hLO⟩
 refine c9 <| aF _ _ ?_
 clear hl
 replace hbl := Below.atI hB hbl
 replace hbp := Below.atI hB hbp
 replace hpo := Below.ow hB hpo
 replace hbm := Below.atI hB hbm
 replace hq := Below.mapI hB hq
 replace d := Below.atI hB d
 replace hbs := Below.atI hB hbs
 replace hxq := Below.ow hB hxq
 replace hmm := Below.atI hB hmm
 replace hrv := Below.ow hB hrv
 replace hLO := LO.below hB hLO
 have hzs := Nat.le_trans hN0 (Below.size R)
 replace ho := dh.mono ho hzs
 replace hB := Below.trans R (Below.mono hB hzs)
 clear R hzs
 have hnr : qA l o p.toNat ∉ ks := fun h => lj af ((rF hl4 hkr hro).2 h)
 refine Zr <| ZL (.map (some bq)) rfl wh hbm rfl <| Zw (.string _) rfl ?_
 refine gS (dd := none) rfl rfl rfl (fI (enc := mM) (encV := Value.bool) (k := (j8 (qA l o p.toNat))) (v := true) rfl rfl rfl AE Fe (fun a => ⟨a, rfl⟩) A3 hq (fun bb K aG => ?_))
 replace hbl := At.grownMap hbl hq K
 replace hbp := At.grownMap hbp hq K
 replace hpo := dh.grownMap hpo hq K
 replace hbm := At.grownMap hbm hq K
 replace d := At.grownMap d hq K
 replace hbs := At.grownMap hbs hq K
 replace hxq := dh.grownMap hxq hq K
 replace hmm := At.grownMap hmm hq K
 replace hrv := dh.grownMap hrv hq K
 replace hLO := LO.grownMap hLO hq K
 replace hB := dy hB K hN0 (fun j hj => by cases hj; exact loq)
 replace ho := dh.grownMap ho hq K
 clear K hq
 replace hq := aG
 rw [jj, IU hl4 hkr hro] at hq
 refine cT <| Zr <| Zf rfl eq <| ZL rv rfl fk hmm rfl <| Zv (dA (v := rv) rfl hrv.sl eb) <| Zi rfl <| cT <| cY fun bc av => c7 ?_
 refine dw (σ := (Nat)) [12, 49, 50, 51, 52, 53, 54, 55, 56, 57, 58, 59, 60, 61, 62] (fun i => [(12, .int .i64 (i : Int))]) (fun i W => (At W bl _ 29) ∧ (At W bp _ 22) ∧ (dh gp 4 49 W N xp _) ∧ (At W bmet _ 108) ∧ (dR mM Value.bool W bq _) ∧ (At W b4 _ 77) ∧ (At W bs _ 24) ∧ (dh d9 1 3 W N xq _) ∧ (At W bm _ 77) ∧ (dh encV 1 80 W N rv _) ∧ (LO 3 N W vs (gT ks)) ∧ (Below N w W) ∧ (dh d9 1 3 W N v0 _) ∧ (i ≤ (gT ks).length) ∧ (∀ q, i ≤ q → q < (gT ks).length → fN (qA l o p.toNat) ((gT ks).getD q []) = true) ∧ (True)) (fun i => i) ((gT ks).length) ⟨congrArg (fun q : Nat => Value.int .i64 (q : Int)) hvl, trivial⟩ ⟨hbl, hbp, hpo, hbm, hq, d, hbs, hxq, hmm, hrv, hLO, hB, ho, (Nat.le_refl _), (fun q h1 h2 => by omega), trivial⟩ ?_
 clear hbl hbp hpo hbm hq d hbs hxq hmm hrv hLO hB ho
 rintro i bd aH ⟨hbl, hbp, hpo, hbm, hq, d, hbs, hxq, hmm, hrv, hLO, hB, ho, hi, hq2, _⟩ bf aI
 refine cY fun bg aJ => ?_
 have hsl := II hkr (i - 1)
 refine Zr <| Zi rfl <| Zv (iQ rfl rfl) <| ZX rfl (fun aK => ?_) fun aK => ?_
 refine Zw v0 rfl <| Zf rfl eq <| ZL rv rfl fk hmm rfl <| Zi rfl <| Zv (kU rfl rfl Om Om) <| Zv (dJ (v := rv) rfl hrv.sl rfl eb Om Ol39_0) <| Zv (dk (v := (vs.getD ((i : Int) - 1).toNat undef)) rfl iO (dM.cell hrv.sl fW undef Om Ol39_0 0 rfl)) ?_
 have P : dM d9 1 aH ((vs.getD ((i : Int) - 1).toNat undef)) ((gT ks).getD (i - 1) []) := (by rw [show ((i : Int) - 1).toNat = i - 1 by omega]; exact (LO.ll hLO).get (i - 1) (by omega))
 refine ZC MT (wX _ _ _ _ _ ho.sl P (by first | assumption | omega) (by first | assumption | omega)) rfl fun bh bi E aL => ?_
 replace hbl := E.at hbl
 replace hbp := E.at hbp
 replace hpo := E.ow hpo
 replace hbm := E.at hbm
 replace hq := E.mapT hq
 replace d := E.at d
 replace hbs := E.at hbs
 replace hxq := E.ow hxq
 replace hmm := E.at hmm
 replace hrv := E.ow hrv
 replace hLO := LO.ext E hLO
 replace hB := dF hB E hN0
 replace ho := E.ow ho
 replace P := E.slT P
 obtain rfl := aL
 refine Zb rfl <| cT <| ZQ rfl (fun Z => ?_) fun Z => ?_
 refine c9 <| aJ _ _ <| c7 <| cZ <| Zi rfl <| Zv (kU rfl rfl Om Om) <| Zi rfl <| cT ?_
 exact aI _ _ (i - 1) Za ⟨congrArg (Value.int .i64) (by omega : (i : Int) - 1 = ((i - 1 : Nat) : Int)), trivial⟩ ⟨hbl, hbp, hpo, hbm, hq, d, hbs, hxq, hmm, hrv, hLO, hB, ho, Om, (fun q h1 h2 => if e : q = i - 1 then by rw [e]; exact Z else hq2 q Om h2), trivial⟩ Zo
 refine dr <| av _ _ ?_
 have hput := GP (i := i) hnd hnr hi hq2 (fun h0 => by first | omega | exact Z)
 have hC : vs.length ≤ iU rv := (Sl.eqv hrv.sl).2.1
 have hone := LO.one hLO
 refine gx eo im (fun ag F => ?_)
 replace hbl := F.at hbl
 replace hbp := F.at hbp
 replace hpo := F.ow hpo
 replace hbm := F.at hbm
 replace hq := F.mapT hq
 replace d := F.at d
 replace hbs := F.at hbs
 replace hxq := F.ow hxq
 replace hmm := F.at hmm
 replace hrv := F.ow hrv
 replace hLO := LO.ext F hLO
 replace hB := dF hB F hN0
 replace ho := F.ow ho
 replace P := F.slT P
 have hS := eo.refl ag
 refine Tf 0 rfl rfl eq hS <| Tk 1 rfl (fun _ hq => dk (v := rv) rfl fk (At.cell (hq.at hmm) rfl)) hS <| Ti 2 rfl rfl hS <| Ti 3 rfl rfl hS <| Tk 4 rfl (fun _ hq => l8 (v := rv) rfl ((hq.ow hrv)).sl eb rfl rfl Om Om Om) hS ?_
 have f : dM encV 1 ag (fV 1 rv 0 i i) ((vs.drop 0).take (i - 0)) := dM.part fW hrv.sl (by omega) (by omega) (by omega) (by omega)
 refine Tw 5 v0 rfl rfl hS <| Tf 7 rfl rfl eq hS <| Tk 8 rfl (fun _ hq => dk (v := rv) rfl fk (At.cell (hq.at hmm) rfl)) hS <| Ti 9 rfl rfl hS <| Tk 10 rfl (fun _ hq => l9 (v := rv) rfl ((hq.ow hrv)).sl eb rfl Om Om) hS ?_
 have g : dM encV 1 ag (fV 1 rv i vs.length (iU rv)) ((vs.drop i).take (vs.length - i)) := dM.part fW hrv.sl (by omega) (by omega) (by omega) (by omega)
 refine To 6 rfl (fc (u := v0) rfl eb jb (by rw [dM.cells ho.sl]; rfl) Dd Dd fun B bj S r V => ⟨.inl (hS.trans r), ?_⟩)
 have ah : N ≤ B := S ▸ (Nat.le_trans hN0 (Below.size hB))
 have X := Nat.le_trans (eo.size hS) (Nat.le_of_eq S.symm)
 have aM := dh.neB (b := B) hrv (Nat.le_of_eq S.symm)
 have aN := dM.far (b := B) f (Nat.le_of_eq S.symm)
 have aO := dM.far (b := B) g (Nat.le_of_eq S.symm)
 clear S
 replace hbl := r.at hbl
 replace hbp := r.at hbp
 replace hpo := r.ow hpo
 replace hbm := r.at hbm
 replace hq := r.mapT hq
 replace d := r.at d
 replace hbs := r.at hbs
 replace hxq := r.ow hxq
 replace hmm := r.at hmm
 replace hrv := r.ow hrv
 replace hLO := LO.ext r hLO
 replace hB := dF hB r hN0
 replace ho := r.ow ho
 replace P := r.slT P
 replace f := r.slT f
 replace g := r.slT g
 replace hS := hS.trans r
 rw [dM.cells ho.sl] at V
 have G := ix (enc := encV) (a := v0) V rfl rfl ah
 refine To 11 rfl (ez (v := .slice (some ⟨B, 0, none⟩) 1 1) (v2 := fV 1 rv i vs.length (iU rv)) rfl rfl eb jb Dd G g ((A6 hone)) (by have := Below.size hB; omega) (by simp; omega) (by simp; omega) fun ai bk z C => ⟨.inl (dy hS z (Nat.le_refl _) (fun j hj => by have e : B = j := Option.some.inj hj; rw [← e]; exact X)), ?_⟩)
 replace hS : eo _ _ := dy hS z (Nat.le_refl _) (fun j hj => by have e : B = j := Option.some.inj hj; rw [← e]; exact X)
 replace C := dh.app (enc := encV) rfl rfl rfl rfl C
 replace hbl := At.grownOw hbl G z Dd
 replace hbp := At.grownOw hbp G z Dd
 replace hpo := dh.grownOw hpo G z Dd
 replace hbm := At.grownOw hbm G z Dd
 replace hq := dR.grownOw hq G z
 replace d := At.grownOw d G z Dd
 replace hbs := At.grownOw hbs G z Dd
 replace hxq := dh.grownOw hxq G z Dd
 replace hmm := At.grownOw hmm G z Dd
 replace hLO := LO.grownOw hLO G z Dd
 replace hB := dy hB z hN0 (fun j hj => (dh.lt G j hj))
 replace ho := dh.grownOw ho G z Dd
 replace f := dM.grownFar f aN z
 replace g := dM.grownFar g aO z
 clear hrv P G
 refine To 12 rfl (js (N := N) (v := fV 1 rv 0 i i) (v2 := ai) rfl rfl eb jb f (qu (by simp; omega)) C.sl (by simp) (Nat.le_trans hN0 (Below.size hB)) (by simp; omega) (by simp; omega) fun aj bn s D => ⟨.inl (hS.trans s), ?_⟩)
 replace D := dh.app (enc := encV) rfl rfl rfl rfl D
 replace hbl := s.at hbl
 replace hbp := s.at hbp
 replace hpo := s.ow hpo
 replace hbm := s.at hbm
 replace hq := s.mapT hq
 replace d := s.at d
 replace hbs := s.at hbs
 replace hxq := s.ow hxq
 replace hmm := s.at hmm
 replace hLO := LO.ext s hLO
 replace hB := dF hB s hN0
 replace ho := s.ow ho
 replace f := s.slT f
 replace g := s.slT g
 replace C := s.ow C
 replace hS := hS.trans s
 refine Tf 13 rfl rfl eq hS <| To 14 rfl (eC (v := aj) rfl rfl fk (dM.one D.sl) hmm (by simp) fun bo H aP => ⟨.inr (by kernel_rfl), ?_⟩)
 replace hbl := At.grownAt hbl hmm H Dd
 replace hbp := At.grownAt hbp hmm H Dd
 replace hpo := dh.grownAt hpo hmm H Dd
 replace hbm := At.grownAt hbm hmm H Dd
 replace hq := dR.grownAt hq hmm H
 replace d := At.grownNe d hne H
 replace hbs := At.grownAt hbs hmm H Dd
 replace hxq := dh.grownAt hxq hmm H Dd
 replace hLO := LO.grownAt hLO hmm H Dd
 replace hB := dy hB H hN0 (fun j hj => by cases hj; exact lom)
 replace ho := dh.grownAt ho hmm H Dd
 replace C := dh.grownAt C hmm H Dd
 replace D := dh.grownAt D hmm H Dd
 clear f g H hmm
 replace hmm := aP
 replace hmm : At _ _ #[_, _] _ := hmm
 refine Td ?_
 repeat (first | refine oK ?_ | refine nc ?_)
 refine m9 ?_
 repeat (first | refine j6 ?_ | refine jp ?_)
 refine HP ?_
 rw [← hput]
 rw [List.drop_zero, Nat.sub_zero, Ab] at D
 exact ⟨hB, hbl, hbp, hpo, hbm, hq, d, hbs, hxq, _, _, hmm, D, LO.put (i := i) hLO ho hi⟩
 refine Zs <| Zs <| Zs <| Zs <| Zs <| Zs <| Zs <| Zs <| Zw (.bool false) rfl <| cT <| d4 rfl <| dr <| av _ _ ?_
 have hput := GP (i := i) hnd hnr hi hq2 (fun h0 => by first | omega | exact Z)
 have hC : vs.length ≤ iU rv := (Sl.eqv hrv.sl).2.1
 have hone := LO.one hLO
 refine gx eo im (fun ak L => ?_)
 replace hbl := L.at hbl
 replace hbp := L.at hbp
 replace hpo := L.ow hpo
 replace hbm := L.at hbm
 replace hq := L.mapT hq
 replace d := L.at d
 replace hbs := L.at hbs
 replace hxq := L.ow hxq
 replace hmm := L.at hmm
 replace hrv := L.ow hrv
 replace hLO := LO.ext L hLO
 replace hB := dF hB L hN0
 replace ho := L.ow ho
 have hS := eo.refl ak
 refine Tf 0 rfl rfl eq hS <| Tk 1 rfl (fun _ hq => dk (v := rv) rfl fk (At.cell (hq.at hmm) rfl)) hS <| Ti 2 rfl rfl hS <| Ti 3 rfl rfl hS <| Tk 4 rfl (fun _ hq => l8 (v := rv) rfl ((hq.ow hrv)).sl eb rfl rfl Om Om Om) hS ?_
 have f : dM encV 1 ak (fV 1 rv 0 i i) ((vs.drop 0).take (i - 0)) := dM.part fW hrv.sl (by omega) (by omega) (by omega) (by omega)
 refine Tw 5 v0 rfl rfl hS <| Tf 7 rfl rfl eq hS <| Tk 8 rfl (fun _ hq => dk (v := rv) rfl fk (At.cell (hq.at hmm) rfl)) hS <| Ti 9 rfl rfl hS <| Tk 10 rfl (fun _ hq => l9 (v := rv) rfl ((hq.ow hrv)).sl eb rfl Om Om) hS ?_
 have g : dM encV 1 ak (fV 1 rv i vs.length (iU rv)) ((vs.drop i).take (vs.length - i)) := dM.part fW hrv.sl (by omega) (by omega) (by omega) (by omega)
 refine To 6 rfl (fc (u := v0) rfl eb jb (by rw [dM.cells ho.sl]; rfl) Dd Dd fun B br T t V => ⟨.inl (hS.trans t), ?_⟩)
 have ah : N ≤ B := T ▸ (Nat.le_trans hN0 (Below.size hB))
 have X := Nat.le_trans (eo.size hS) (Nat.le_of_eq T.symm)
 have aM := dh.neB (b := B) hrv (Nat.le_of_eq T.symm)
 have aQ := dM.far (b := B) f (Nat.le_of_eq T.symm)
 have aR := dM.far (b := B) g (Nat.le_of_eq T.symm)
 clear T
 replace hbl := t.at hbl
 replace hbp := t.at hbp
 replace hpo := t.ow hpo
 replace hbm := t.at hbm
 replace hq := t.mapT hq
 replace d := t.at d
 replace hbs := t.at hbs
 replace hxq := t.ow hxq
 replace hmm := t.at hmm
 replace hrv := t.ow hrv
 replace hLO := LO.ext t hLO
 replace hB := dF hB t hN0
 replace ho := t.ow ho
 replace f := t.slT f
 replace g := t.slT g
 replace hS := hS.trans t
 rw [dM.cells ho.sl] at V
 have I := ix (enc := encV) (a := v0) V rfl rfl ah
 refine To 11 rfl (ez (v := .slice (some ⟨B, 0, none⟩) 1 1) (v2 := fV 1 rv i vs.length (iU rv)) rfl rfl eb jb Dd I g ((A6 hone)) (by have := Below.size hB; omega) (by simp; omega) (by simp; omega) fun ai bt A C => ⟨.inl (dy hS A (Nat.le_refl _) (fun j hj => by have e : B = j := Option.some.inj hj; rw [← e]; exact X)), ?_⟩)
 replace hS : eo _ _ := dy hS A (Nat.le_refl _) (fun j hj => by have e : B = j := Option.some.inj hj; rw [← e]; exact X)
 replace C := dh.app (enc := encV) rfl rfl rfl rfl C
 replace hbl := At.grownOw hbl I A Dd
 replace hbp := At.grownOw hbp I A Dd
 replace hpo := dh.grownOw hpo I A Dd
 replace hbm := At.grownOw hbm I A Dd
 replace hq := dR.grownOw hq I A
 replace d := At.grownOw d I A Dd
 replace hbs := At.grownOw hbs I A Dd
 replace hxq := dh.grownOw hxq I A Dd
 replace hmm := At.grownOw hmm I A Dd
 replace hLO := LO.grownOw hLO I A Dd
 replace hB := dy hB A hN0 (fun j hj => (dh.lt I j hj))
 replace ho := dh.grownOw ho I A Dd
 replace f := dM.grownFar f aQ A
 replace g := dM.grownFar g aR A
 clear hrv I
 refine To 12 rfl (js (N := N) (v := fV 1 rv 0 i i) (v2 := ai) rfl rfl eb jb f (qu (by simp; omega)) C.sl (by simp) (Nat.le_trans hN0 (Below.size hB)) (by simp; omega) (by simp; omega) fun aj bu y D => ⟨.inl (hS.trans y), ?_⟩)
 replace D := dh.app (enc := encV) rfl rfl rfl rfl D
 replace hbl := y.at hbl
 replace hbp := y.at hbp
 replace hpo := y.ow hpo
 replace hbm := y.at hbm
 replace hq := y.mapT hq
 replace d := y.at d
 replace hbs := y.at hbs
 replace hxq := y.ow hxq
 replace hmm := y.at hmm
 replace hLO := LO.ext y hLO
 replace hB := dF hB y hN0
 replace ho := y.ow ho
 replace f := y.slT f
 replace g := y.slT g
 replace C := y.ow C
 replace hS := hS.trans y
 refine Tf 13 rfl rfl eq hS <| To 14 rfl (eC (v := aj) rfl rfl fk (dM.one D.sl) hmm (by simp) fun bv J aS => ⟨.inr (by kernel_rfl), ?_⟩)
 replace hbl := At.grownAt hbl hmm J Dd
 replace hbp := At.grownAt hbp hmm J Dd
 replace hpo := dh.grownAt hpo hmm J Dd
 replace hbm := At.grownAt hbm hmm J Dd
 replace hq := dR.grownAt hq hmm J
 replace d := At.grownNe d hne J
 replace hbs := At.grownAt hbs hmm J Dd
 replace hxq := dh.grownAt hxq hmm J Dd
 replace hLO := LO.grownAt hLO hmm J Dd
 replace hB := dy hB J hN0 (fun j hj => by cases hj; exact lom)
 replace ho := dh.grownAt ho hmm J Dd
 replace C := dh.grownAt C hmm J Dd
 replace D := dh.grownAt D hmm J Dd
 clear f g J hmm
 replace hmm := aS
 replace hmm : At _ _ #[_, _] _ := hmm
 refine Td ?_
 repeat (first | refine oK ?_ | refine nc ?_)
 refine m9 ?_
 repeat (first | refine j6 ?_ | refine jp ?_)
 refine HP ?_
 rw [← hput]
 rw [List.drop_zero, Nat.sub_zero, Ab] at D
 exact ⟨hB, hbl, hbp, hpo, hbm, hq, d, hbs, hxq, _, _, hmm, D, LO.put (i := i) hLO ho hi⟩
theorem yu (S : Sp) (onV mayV : Value) (xa : Value) (l : List Rw) (w : World) (hon : dM gp 4 w onV S.on) (hmay : dM gp 4 w mayV S.may) (hl : dM gv 3 w xa l) (hlb : l.length ≤ 1000000) (hlr : hU l) :
    Fn Tryz.prog 43 #[.agg #[.int .i64 S.n, onV, mayV], xa] w fun v w' => if zj S l = 0 then ∃ rv vs, v = .tuple #[.agg #[.int .i64 (l.length : Int), rv], .int .i64 0] ∧ dh encV 1 80 w' w.heap.size rv vs ∧ LO 3 w.heap.size w' vs (lp S l) else v = .tuple #[.agg #[.int .i64 0, .slice none 0 0], .int .i64 (zj S l)] := by
 refine dq (n := 76) Tryz.func43 rfl rfl (Nat.le_of_ble_eq_true rfl) ?_
 have hB : Below w.heap.size w w := Below.refl _ _
 refine Zr <| Zy (dU (c := #[_, _, _]) rfl rfl fun ad W3 ax aL d => ?_)
 have bz := ZO ax hB
 clear ax
 replace hB := Ze hB aL
 refine Zy (dU (v := xa) (c := #[xa]) rfl (dM.cells (Below.slT hB hl)) fun G W6 ay az f => ?_)
 have bA := ZO ay hB
 clear ay
 replace hB := Ze hB az
 replace d := az.at d
 refine Zy (dt ia rfl fun ae W9 aA al a => ?_)
 have af := ZO aA hB
 clear aA
 replace hB := Ze hB al
 replace d := al.at d
 replace f := al.at f
 refine Zw (.int .i64 0) rfl <| cT <| cY fun bB aM => Zr <| Zv (db rfl eV rfl d) <| ZC (vs := [.agg #[_, _, _]]) q5 (iN S _ _  _ (Below.slT hB hon) (Below.slT hB hmay) ) rfl fun bC bD ag aN => ?_
 replace hB := Ze hB ag
 replace d := ag.at d
 replace f := ag.at f
 replace a := ag.at a
 obtain rfl := aN
 refine Zv (fy rfl) <| cT <| ZQ rfl (fun ao => ?_) fun ao => ?_
 refine Zr <| Zv (pK ) <| Zy (dg rfl rfl dH rfl a rfl rfl fun bE ap aO => ?_)
 replace hB := Zg hB ap af
 replace d := At.grownAt d a ap Dd
 replace f := At.grownAt f a ap Dd
 replace a := aO
 refine Zw (.int .i64 1) rfl <| cT <| Zt <| fw rfl dH a rfl (v1 := .int .i64 1) rfl ⟨hB, ?_⟩
 rw [Ps (by rw [jc ao]; decide), if_neg (by decide)]
 refine c9 <| aM _ _ ?_
 have hr : dP S = true := ie ao
 obtain ⟨h0, h8, h1, h5, h6, _⟩ := d7.1 hr
 refine Zr <| Zy (dt Na rfl fun H bF aB ah g => ?_)
 have aP := ZO aB hB
 clear aB
 replace hB := Ze hB ah
 replace d := ah.at d
 replace f := ah.at f
 replace a := ah.at a
 refine cT <| cY fun bG aQ => Zr <| ZL xa rfl lS f rfl <| Zv (dA (v := xa) rfl (Below.slT hB hl) dT) <| Zw (.int .i64 0) rfl <| cT <| c7 ?_
 refine dw (σ := (Nat) × (Value)) [5, 8, 9, 10, 24, 25, 26, 27, 28, 29, 30, 31, 32, 33, 34, 35, 36, 37, 38, 39, 40, 41, 42, 43, 44] (fun (k, vp) => [(24, .int .i64 (k : Int))]) (fun sg W => match sg with | (k, vp) => (Below w.heap.size w W) ∧ (At W ad _ 24) ∧ (At W G _ 29) ∧ (At W ae _ 77) ∧ (At W H #[vp] 22) ∧ (dh gp 4 49 W w.heap.size vp (s6 l S.n k)) ∧ (k ≤ l.length) ∧ (∀ q, q < k → dY (l.getD q ⟨⟨0, 0⟩, 0⟩).c.m (l.getD q ⟨⟨0, 0⟩, 0⟩).c.v S.n = true) ∧ (True)) (fun (k, vp) => l.length - k) ((0, .slice none 0 0)) ⟨rfl, trivial⟩ ⟨hB, d, f, a, g, dh.nil, (Nat.zero_le _), ff, trivial⟩ ?_
 clear hB d f a g
 rintro ⟨k, vp⟩ bH bI ⟨hB, d, f, a, g, hpo, hk, hq, _⟩ bJ aR
 refine Zr <| Zv (dL rfl rfl) <| cT <| cY fun bK aS => ZQ rfl (fun aT => ?_) fun aT => ?_
 refine c9 <| aS _ _ <| cY fun bL aU => c7 <| Zr <| Zv (dJ (v := xa) rfl (Below.slT hB hl) rfl dT Om Ol39_0) <| Zv (k8 rfl eA (dM.cell (Below.slT hB hl) ej ⟨⟨0, 0⟩, 0⟩ Om Ol39_0 0 rfl) (dM.cell (Below.slT hB hl) ej ⟨⟨0, 0⟩, 0⟩ Om Ol39_0 1 rfl) (dM.cell (Below.slT hB hl) ej ⟨⟨0, 0⟩, 0⟩ Om Ol39_0 2 rfl)) <| Zy (dt kP rfl fun bM bN aC X y => ?_)
 have aV := ZO aC hB
 clear aC
 replace hB := Ze hB X
 replace d := X.at d
 replace f := X.at f
 replace a := X.at a
 replace g := X.at g
 replace hpo := X.ow hpo
 refine Zy (dg rfl rfl eA rfl y rfl rfl fun bO Y aW => ?_)
 replace hB := Zg hB Y aV
 replace d := At.grownAt d y Y Dd
 replace f := At.grownAt f y Y Dd
 replace a := At.grownAt a y Y Dd
 replace g := At.grownAt g y Y Dd
 replace hpo := dh.grownAt hpo y Y Dd
 replace y := aW
 refine cT ?_
 obtain ⟨aX, aY, bP⟩ := hlr.get (k := k) (by omega)
 refine Zr <| Zf rfl gF <| Zv (ig rfl dN (At.cell y rfl) (At.cell y rfl)) <| Zf rfl fQ <| Zl rfl dB d rfl <| ZC (vs := [.agg #[_, _], .int .i64 _]) yN (lc _ _ _ _ aX aY) rfl fun bQ bR N aZ => ?_
 replace hB := Ze hB N
 replace d := N.at d
 replace f := N.at f
 replace a := N.at a
 replace g := N.at g
 replace hpo := N.ow hpo
 replace y := N.at y
 obtain ⟨sa, er, rfl, hhP7_4⟩ := tj aZ
 refine Zw (.tuple #[.agg #[_, _, _, _], .int .i64 _]) rfl <| Zv (dI rfl) <| Zv (dK rfl) <| Zy (dt eM rfl fun aD a0 aq O z => ?_)
 have a1 := ZO aq hB
 have aE := dh.neB (b := aD) hpo (Nat.le_of_eq aq.symm)
 clear aq
 replace hB := Ze hB O
 replace d := O.at d
 replace f := O.at f
 replace a := O.at a
 replace g := O.at g
 replace hpo := O.ow hpo
 replace y := O.at y
 replace z : At a0 aD #[wv 0 0, wv 0 1, wv 0 2, wv 0 3] 49 := z
 refine Zy (dg rfl rfl df rfl z rfl rfl fun bS P a2 => ?_)
 replace hB := Zg hB P a1
 replace d := At.grownAt d z P Dd
 replace f := At.grownAt f z P Dd
 replace a := At.grownAt a z P Dd
 replace g := At.grownAt g z P Dd
 replace hpo := dh.grownAtNe hpo aE P
 replace y := At.grownAt y z P Dd
 replace z := a2
 refine Zi rfl <| cT <| cY fun bT a3 => Zr <| Zi rfl <| Zv (f7 rfl rfl) <| cT <| ZQ rfl (fun ar => ?_) fun ar => ?_
 refine Zr <| Zv (pK ) <| Zi rfl <| Zy (dg rfl rfl dH rfl a rfl rfl fun bU Q a4 => ?_)
 replace hB := Zg hB Q af
 replace d := At.grownAt d a Q Dd
 replace f := At.grownAt f a Q Dd
 replace g := At.grownAt g a Q Dd
 replace hpo := dh.grownAt hpo a Q Dd
 replace y := At.grownAt y a Q Dd
 replace z := At.grownAt z a Q Dd
 replace a := a4
 refine Zi rfl <| cT <| Zt <| fw rfl dH a rfl (v1 := .int .i64 _) rfl ⟨hB, ?_⟩
 obtain ⟨hrr, her⟩ := hhP7_4.resolve_left (fun h => ar h.2.2)
 rw [Pi (k := k) (by omega) (fun q => by have := hrr.symm.trans q; cases this), if_neg (by decide), her]
 refine c9 <| a3 _ _ ?_
 obtain ⟨hrr, hsa, _⟩ := hhP7_4.resolve_right (fun h => ar (fun e => by rw [h.2] at e; cases e))
 subst hsa
 have hpl := Ar (l := l) (n := S.n) (k := k) (by omega)
 refine cZ <| ZL vp rfl eE g rfl <| Zv (db rfl df rfl z) <| Zy (fc (u := .agg #[_, _, _, _]) rfl ea ua rfl Dd Dd fun aF bV ai I a5 => ?_)
 have bW := ZO ai hB
 have bX := dh.neB (b := aF) hpo (Nat.le_of_eq ai.symm)
 have bY := Zn ai z.lt
 clear ai
 replace hB := Ze hB I
 replace d := I.at d
 replace f := I.at f
 replace a := I.at a
 replace g := I.at g
 replace hpo := I.ow hpo
 replace y := I.at y
 replace z := I.at z
 refine Zy (ez (v := vp) (v2 := .slice (some ⟨aF, 0, none⟩) 1 1) rfl rfl ea ua Dd hpo (fG a5 rfl) rfl (by have := Below.size hB; omega) (by first | omega | (simp; omega) | (simp only [cV, cW, cX, da, de]; omega)) (by first | omega | (simp; omega) | (simp only [cV, cW, cX, da, de]; omega)) fun aG bZ R Z => ?_)
 replace Z := dh.snoc (enc := gp) (x := (qI (l.getD k ⟨⟨0, 0⟩, 0⟩).c.m (l.getD k ⟨⟨0, 0⟩, 0⟩).c.v S.n.toNat)) rfl rfl rfl rfl Z
 replace hB := ZG hB R hpo
 replace d := At.grownOw d hpo R Dd
 replace f := At.grownOw f hpo R Dd
 replace a := At.grownOw a hpo R Dd
 replace g := At.grownOw g hpo R Dd
 replace y := At.grownOw y hpo R Dd
 replace z := At.grownOwNe z aE R
 clear hpo
 refine Zy (eC (v := aG) rfl rfl eE (dM.one Z.sl) g (by simp) fun b0 T a6 => ?_)
 replace hB := Zg hB T aP
 replace d := At.grownAt d g T Dd
 replace f := At.grownAt f g T Dd
 replace a := At.grownAt a g T Dd
 replace y := At.grownAt y g T Dd
 replace z := At.grownAt z g T Dd
 replace Z := dh.grownAt Z g T Dd
 replace g := a6
 replace g : At _ _ #[_] _ := g
 refine cT <| aU _ _ <| cZ <| Zv (dp rfl rfl Om Om) <| Zi rfl <| cT ?_
 exact aR _ _ ((k + 1, aG)) Za ⟨rfl, trivial⟩ ⟨hB, d, f, a, g, (by rw [← F8 Om]; exact Z), Om, (ey hq hrr), trivial⟩ (by show l.length - (k + 1) < l.length - k; omega)
 refine dr <| aQ _ _ <| cY fun b1 a7 => ?_
 obtain rfl : k = l.length := by omega
 refine Zr <| ZL xa rfl lS f rfl <| Zv (dA (v := xa) rfl (Below.slT hB hl) dT) <| Zv (iQ rfl rfl) <| cT <| ZQ rfl (fun a8 => ?_) fun a8 => ?_
 refine Zr <| Zv (pK ) <| Zy (dg rfl rfl dH rfl a rfl rfl fun b2 ac a9 => ?_)
 replace hB := Zg hB ac af
 replace d := At.grownAt d a ac Dd
 replace f := At.grownAt f a ac Dd
 replace g := At.grownAt g a ac Dd
 replace hpo := dh.grownAt hpo a ac Dd
 replace a := a9
 refine Zw (.int .i64 3) rfl <| cT <| Zt <| fw rfl dH a rfl (v1 := .int .i64 3) rfl ⟨hB, ?_⟩
 rw [P3 hr hq (by omega), if_neg (by decide)]
 refine c9 <| a7 _ _ <| Zr <| ZL xa rfl lS f rfl <| Zv (dA (v := xa) rfl (Below.slT hB hl) dT) <| Zv (kn (h0 := rfl) (k0 := rfl) (c0_0 := .int .i64 _)) <| Zy (dt ia rfl fun J b3 au aa j => ?_)
 have aH := ZO au hB
 have av := Zn au a.lt
 clear au
 replace hB := Ze hB aa
 replace d := aa.at d
 replace f := aa.at f
 replace a := aa.at a
 replace g := aa.at g
 replace hpo := aa.ow hpo
 refine Zy (dg rfl rfl dH rfl j rfl rfl fun b4 ab ba => ?_)
 replace hB := Zg hB ab aH
 replace d := At.grownAt d j ab Dd
 replace f := At.grownAt f j ab Dd
 replace a := At.grownNe a av ab
 replace g := At.grownAt g j ab Dd
 replace hpo := dh.grownAt hpo j ab Dd
 replace j := ba
 refine cT <| Zr <| Zy (gE (enc := mM) (encV := Value.bool) fun aj b5 aI U t => ?_)
 have bb := ZO aI hB
 clear aI
 replace hB := Ze hB U
 replace d := U.at d
 replace f := U.at f
 replace a := U.at a
 replace g := U.at g
 replace hpo := U.ow hpo
 replace j := U.at j
 replace t : dR mM Value.bool _ _ (ft (([] : List (List Int)).map j8)) := t
 refine Zy (dt LB rfl fun K b6 aJ L r => ?_)
 have bc := ZO aJ hB
 clear aJ
 replace hB := Ze hB L
 replace d := L.at d
 replace f := L.at f
 replace a := L.at a
 replace g := L.at g
 replace hpo := L.ow hpo
 replace j := L.at j
 replace t := L.mapT t
 refine Zy (eC (v := .map (some aj)) rfl rfl wh rfl r (by exact Nat.zero_lt_one) fun b7 M bd => ?_)
 replace hB := Zg hB M bc
 replace d := At.grownAt d r M Dd
 replace f := At.grownAt f r M Dd
 replace a := At.grownAt a r M Dd
 replace g := At.grownAt g r M Dd
 replace hpo := dh.grownAt hpo r M Dd
 replace j := At.grownAt j r M Dd
 replace t := dR.grownAt t r M
 replace r := bd
 replace r : At _ _ #[_] _ := r
 refine cT <| Zr <| Zv (gV (vs := #[.pointer (some ⟨G, 0, none⟩), .pointer (some ⟨H, 0, none⟩), .pointer (some ⟨K, 0, none⟩), .pointer (some ⟨J, 0, none⟩)]) (by simp only [List.map_toArray, List.map_cons, List.map_nil]; rfl)) <| Zw (.func (.func 68) #[] #[.pointer (some ⟨G, 0, none⟩), .pointer (some ⟨H, 0, none⟩), .pointer (some ⟨K, 0, none⟩), .pointer (some ⟨J, 0, none⟩)]) rfl <| cT <| cY fun b8 bf => Zr <| Zf rfl fF <| ZL onV rfl eE d rfl <| Zv (dA (v := onV) rfl (Below.slT hB hon) ea) <| Zw (.int .i64 0) rfl <| cT <| c7 ?_
 refine dw (σ := (Nat) × (Value) × (List Value)) [14, 15, 17, 57, 58, 59, 60, 61, 62, 63, 64, 65, 66, 67, 68, 69, 70, 71, 72, 73, 74] (fun (o, rv, vs) => [(57, .int .i64 (o : Int))]) (fun sg W => match sg with | (o, rv, vs) => (Below w.heap.size w W) ∧ (At W ad _ 24) ∧ (At W G _ 29) ∧ (At W ae _ 77) ∧ (At W H _ 22) ∧ (dh gp 4 49 W w.heap.size vp _) ∧ (At W K _ 108) ∧ (dR mM Value.bool W aj (ft ((j4 S l o).map j8))) ∧ (At W J #[.int .i64 (l.length : Int), rv] 77) ∧ (dh encV 1 80 W w.heap.size rv vs) ∧ (LO 3 w.heap.size W vs (gT (j4 S l o))) ∧ (o ≤ S.on.length) ∧ (True)) (fun (o, rv, vs) => S.on.length - o) ((0, .slice none 0 0, [])) ⟨rfl, trivial⟩ ⟨hB, d, f, a, g, hpo, r, t, j, dh.nil, LO.nil, (Nat.zero_le _), trivial⟩ ?_
 clear hB d f a g hpo j t r
 rintro ⟨o, rv, vs⟩ b9 ca ⟨hB, d, f, a, g, hpo, r, t, j, hrv, hLO, ho, _⟩ cb bg
 refine Zr <| Zv (dL rfl rfl) <| cT <| cY fun cc bh => ZQ rfl (fun bi => ?_) fun bi => ?_
 refine c9 <| bh _ _ <| cY fun cd bj => c7 <| Zr <| Zi rfl <| Zv (dJ (v := onV) rfl (Below.slT hB hon) rfl ea Om Ol39_0) <| Zv (fq rfl df (dM.cell (Below.slT hB hon) dG 0 Om Ol39_0 0 rfl) (dM.cell (Below.slT hB hon) dG 0 Om Ol39_0 1 rfl) (dM.cell (Below.slT hB hon) dG 0 Om Ol39_0 2 rfl) (dM.cell (Below.slT hB hon) dG 0 Om Ol39_0 3 rfl)) <| Zy (dt eM rfl fun aK bk aw C A => ?_)
 have bl := ZO aw hB
 have bm := dh.neB (b := aK) hpo (Nat.le_of_eq aw.symm)
 clear aw
 replace hB := Ze hB C
 replace d := C.at d
 replace f := C.at f
 replace a := C.at a
 replace g := C.at g
 replace hpo := C.ow hpo
 replace r := C.at r
 replace t := C.mapT t
 replace j := C.at j
 replace hrv := C.ow hrv
 replace hLO := LO.ext C hLO
 replace A : At bk aK #[wv 0 0, wv 0 1, wv 0 2, wv 0 3] 49 := A
 refine Zi rfl <| Zy (dg rfl rfl df rfl A rfl rfl fun ce D bn => ?_)
 replace hB := Zg hB D bl
 replace d := At.grownAt d A D Dd
 replace f := At.grownAt f A D Dd
 replace a := At.grownAt a A D Dd
 replace g := At.grownAt g A D Dd
 replace hpo := dh.grownAtNe hpo bm D
 replace r := At.grownAt r A D Dd
 replace t := dR.grownAt t A D
 replace j := At.grownAt j A D Dd
 replace hrv := dh.grownAt hrv A D Dd
 replace hLO := LO.grownAt hLO A D Dd
 replace A := bn
 refine cT <| Zr <| Zv (db rfl df rfl A) <| ZC (vs := [.agg #[_, _, _, _]]) vC (mh (S.on.getD o 0) _) rfl fun ak cf B E => ?_
 have bo := (Below.size hB)
 replace hB := Ze hB B
 replace d := B.at d
 replace f := B.at f
 replace a := B.at a
 replace g := B.at g
 replace hpo := B.ow hpo
 replace r := B.at r
 replace t := B.mapT t
 replace j := B.at j
 replace hrv := B.ow hrv
 replace hLO := LO.ext B hLO
 replace A := B.at A
 replace E := dh.mono E bo
 refine Zv (dA (v := ak) rfl E.sl du) <| Zw (.int .i64 0) rfl <| cT <| c7 ?_
 refine dw (σ := (Nat) × (Value) × (List Value)) [17, 65, 66, 67, 68, 69, 70, 71, 72, 73] (fun (k, rv2, V) => [(65, .int .i64 (k : Int))]) (fun sg W => match sg with | (k, rv2, V) => (Below w.heap.size w W) ∧ (At W ad _ 24) ∧ (At W G _ 29) ∧ (At W ae _ 77) ∧ (At W H _ 22) ∧ (dh gp 4 49 W w.heap.size vp _) ∧ (At W K _ 108) ∧ (dh d9 1 3 W w.heap.size ak _) ∧ (dR mM Value.bool W aj (ft ((sr l o (eg (S.on.getD o 0)) (j4 S l o) k).map j8))) ∧ (At W J #[.int .i64 (l.length : Int), rv2] 77) ∧ (dh encV 1 80 W w.heap.size rv2 V) ∧ (LO 3 w.heap.size W V (gT (sr l o (eg (S.on.getD o 0)) (j4 S l o) k))) ∧ (k ≤ (eg (S.on.getD o 0)).length) ∧ (True)) (fun (k, rv2, V) => (eg (S.on.getD o 0)).length - k) ((0, rv, vs)) ⟨rfl, trivial⟩ ⟨hB, d, f, a, g, hpo, r, E, t, j, hrv, hLO, (Nat.zero_le _), trivial⟩ ?_
 clear hB d f a g hpo r t j hrv hLO A E
 rintro ⟨k, rv2, V⟩ cg ch ⟨hB, d, f, a, g, hpo, r, E, t, j, hrv2, hLO2, hk, _⟩ ci bp
 refine Zr <| Zv (dL rfl rfl) <| cT <| cY fun cj bq => ZQ rfl (fun br => ?_) fun br => ?_
 refine c9 <| bq _ _ <| cY fun ck bs => c7 <| Zr <| Zv (dJ (v := ak) rfl E.sl rfl du Om Ol39_0) <| Zv (dk (v := .int .i64 _) rfl dB (dM.cell E.sl eD 0 Om Ol39_0 0 rfl)) <| Zi rfl <| cT ?_
 have hls := kT (S.on.getD o 0)
 obtain ⟨p, bt, hpb, hpe⟩ := kO (s := S.on.getD o 0) (i := k) (by omega)
 have bu : 0 ≤ (eg (S.on.getD o 0)).getD k 0 ∧ ((eg (S.on.getD o 0)).getD k 0).toNat < 2 ^ S.n.toNat := by rw [hpe]; exact ⟨by omega, by rw [Int.toNat_natCast]; exact Mm hr (by omega) hpb bt⟩
 refine cZ <| Zw (.func (.func 68) #[] #[.pointer (some ⟨G, 0, none⟩), .pointer (some ⟨H, 0, none⟩), .pointer (some ⟨K, 0, none⟩), .pointer (some ⟨J, 0, none⟩)]) rfl <| Zi rfl <| Zi rfl ?_
 refine mG (dd := some 72) rfl rfl rfl (jV (q := 68) (first := #[]) (cap := #[.pointer (some ⟨G, 0, none⟩), .pointer (some ⟨H, 0, none⟩), .pointer (some ⟨K, 0, none⟩), .pointer (some ⟨J, 0, none⟩)]) (vs := #[.int .i64 _, .int .i64 _, .pointer (some ⟨G, 0, none⟩), .pointer (some ⟨H, 0, none⟩), .pointer (some ⟨K, 0, none⟩), .pointer (some ⟨J, 0, none⟩)]) rfl Oi (by simp only [List.map_toArray, List.map_cons, List.map_nil, List.append_toArray, List.nil_append, List.cons_append]; rfl)) (Py w.heap.size o ((eg (S.on.getD o 0)).getD k 0) S.n l (sr l o (eg (S.on.getD o 0)) (j4 S l o) k) G H K J aj ae ad xa _ rv2 ak _ _ V (eg (S.on.getD o 0)) _ (Below.size hB) Om bu Om hlr hq (rq (tP S l o) k) (fun x hx => L8 hx) (G5 Om Om) (Below.slT hB hl) f g hpo r t a d E j hrv2 hLO2 aH bb av) (fun cl cm bv => ?_)
 obtain ⟨hBt, f, g, hpo, r, t, a, d, E, rv3, bw, j, hrv3, hLO3⟩ := bv
 replace hB := Below.trans hB hBt
 clear hrv2 hLO2
 refine cT <| bs _ _ <| cZ <| Zv (dp rfl rfl Om Om) <| Zi rfl <| cT ?_
 exact bp _ _ ((k + 1, rv3, bw)) Za ⟨rfl, trivial⟩ ⟨hB, d, f, a, g, hpo, r, E, (by exact t), j, hrv3, hLO3, Om, trivial⟩ (by show (eg (S.on.getD o 0)).length - (k + 1) < (eg (S.on.getD o 0)).length - k; omega)
 refine dr <| bj _ _ ?_
 obtain rfl : k = (eg (S.on.getD o 0)).length := by omega
 refine cZ <| Zv (dp rfl rfl Om Om) <| Zi rfl <| cT ?_
 exact bg _ _ ((o + 1, rv2, V)) Za ⟨rfl, trivial⟩ ⟨hB, d, f, a, g, hpo, r, (by exact t), j, hrv2, hLO2, Om, trivial⟩ (by show S.on.length - (o + 1) < S.on.length - o; omega)
 refine dr <| bf _ _ ?_
 obtain rfl : o = S.on.length := by omega
 refine Zr <| Zv (db rfl dH rfl j) <| Zy (dg rfl rfl dH rfl a rfl (by simp only [List.all_cons, List.all_nil, dh.one hrv, Bool.and_true]; rfl) fun cn F bx => ?_)
 replace hB := Zg hB F af
 replace d := At.grownAt d a F Dd
 replace f := At.grownAt f a F Dd
 replace g := At.grownAt g a F Dd
 replace hpo := dh.grownAt hpo a F Dd
 replace r := At.grownAt r a F Dd
 replace t := dR.grownAt t a F
 replace j := At.grownNe j (Ne.symm av) F
 replace hrv := dh.grownAt hrv a F Dd
 replace hLO := LO.grownAt hLO a F Dd
 replace a := bx
 refine Zw (.int .i64 0) rfl <| cT <| Zt <| fw rfl dH a rfl (v1 := .int .i64 0) rfl ⟨hB, ?_⟩
 rw [if_pos (Mz hr hq (by omega))]
 exact ⟨_, _, rfl, hrv, hLO⟩
end
section
open Go Go.RowKit
abbrev ML := List (List Int)
def mp (L : ML) (X : List Int) : Prop := ∀ r, r ∈ L → ∃ c, c ∈ r ∧ c ∈ X
def qv (L : ML) (c : Int) : Prop := ∃ r, r ∈ L ∧ c ∈ r
def qK (L : ML) (c : Int) : ML := L.filter fun r => !decide (c ∈ r)
def yn (r : List Int) (c : Int) : List Int := r.filter fun x => !decide (x = c)
def oa (L : ML) (c : Int) : ML := L.map fun r => yn r c
theorem mT {L : ML} {c : Int} {r : List Int} : r ∈ qK L c ↔ r ∈ L ∧ c ∉ r := by
 unfold qK; rw [List.mem_filter]; simp
theorem mX {L : ML} {c : Int} {r : List Int} : r ∈ oa L c ↔ ∃ q, q ∈ L ∧ r = yn q c := by
 unfold oa; rw [List.mem_map]; exact ⟨fun ⟨a, b, e⟩ => ⟨a, b, e.symm⟩, fun ⟨a, b, e⟩ => ⟨a, b, e.symm⟩⟩
theorem lV {q : List Int} {c x : Int} : x ∈ yn q c ↔ x ∈ q ∧ x ≠ c := by
 unfold yn; rw [List.mem_filter]; simp
theorem Ef (X : List Int) : mp [] X := fun r h => by cases h
theorem CB {L : ML} {c : Int} {X : List Int} (h : mp (qK L c) X) : mp L (c :: X) := fun r hr => by
 by_cases hc : c ∈ r
 ·exact ⟨c, hc, List.mem_cons_self ..⟩
 ·obtain ⟨d, h1, h2⟩ := h r (mT.2 ⟨hr, hc⟩)
  exact ⟨d, h1, List.mem_cons_of_mem _ h2⟩
theorem Bw {L : ML} {c : Int} {X : List Int} (hn : X.Nodup) (h : mp L X) : mp (qK L c) (X.erase c) := fun r hr => by
 obtain ⟨h1, h2⟩ := mT.1 hr
 obtain ⟨d, h3, h4⟩ := h r h1
 exact ⟨d, h3, (List.Nodup.mem_erase_iff hn).2 ⟨fun e => h2 (e ▸ h3), h4⟩⟩
theorem Jq {L : ML} {c : Int} {X : List Int} (h : mp L X) (hc : c ∉ X) : mp (oa L c) X := fun r hr => by
 obtain ⟨q, hq, rfl⟩ := mX.1 hr
 obtain ⟨d, h3, h4⟩ := h q hq
 exact ⟨d, lV.2 ⟨h3, fun e => hc (e ▸ h4)⟩, h4⟩
theorem Ij {L : ML} {c : Int} {X : List Int} (h : mp (oa L c) X) : mp L X := fun r hr => by
 obtain ⟨d, h3, h4⟩ := h _ (mX.2 ⟨r, hr, rfl⟩)
 exact ⟨d, (lV.1 h3).1, h4⟩
theorem wr {L : ML} {X Y : List Int} (h : mp L X) (k : ∀ c, c ∈ X → c ∈ Y) : mp L Y := fun r hr => (h r hr).imp fun c q => ⟨q.1, k c q.2⟩
theorem DM {L : ML} {X : List Int} : oF L X = true ↔ mp L X := vN
structure lD (L0 L : ML) (ks : List Int) : Prop where
 nd : ks.Nodup
 dis : ∀ c, c ∈ ks → ¬ qv L c
 sub : ∀ c, qv L c → qv L0 c
 ksub : ∀ c, c ∈ ks → qv L0 c
 up : ∀ X, mp L X → mp L0 (ks ++ X)
 dn : ∀ Y, Y.Nodup → mp L0 Y → ∃ X, X.Nodup ∧ mp L X ∧ ks.length + X.length ≤ Y.length
section
variable {L0 L L' : ML} {ks ks' : List Int} {r : List Int} {c d : Int}
theorem lD.start (L : ML) : lD L L [] := ⟨List.nodup_nil, fun c h => (by cases h), fun c h => h, fun c h => (by cases h), fun X h => h, fun Y h1 h2 => ⟨Y, h1, h2, by simp⟩⟩
theorem lD.take (h : lD L0 L ks) (hr : r ∈ L) (e : r = [c]) : lD L0 (qK L c) (iB ks c) := by
 have hin : qv L c := ⟨r, hr, by rw [e]; exact List.mem_singleton.2 rfl⟩
 have hc : c ∉ ks := fun q => h.dis c q hin
 have ei : iB ks c = ks ++ [c] := if_neg hc
 refine ⟨jl h.nd c, ?_, ?_, ?_, ?_, ?_⟩
 ·rintro d hd ⟨q, hq, hdq⟩
  obtain ⟨hq1, hq2⟩ := mT.1 hq
  rcases gm.1 hd with k | k
  ·exact h.dis d k ⟨q, hq1, hdq⟩
  ·rw [k] at hdq; exact hq2 hdq
 ·rintro d ⟨q, hq, hdq⟩
  exact h.sub d ⟨q, (mT.1 hq).1, hdq⟩
 ·intro d hd
  rcases gm.1 hd with k | k
  ·exact h.ksub d k
  ·rw [k]; exact h.sub c hin
 ·intro X hX
  have := h.up (c :: X) (CB hX)
  rw [ei, List.append_assoc]
  exact this
 ·intro Y hn hY
  obtain ⟨X, h1, h2, h3⟩ := h.dn Y hn hY
  have hcX : c ∈ X := by
   obtain ⟨d, hd, hd2⟩ := h2 r hr
   rw [e] at hd
   rwa [List.mem_singleton.1 hd] at hd2
  refine ⟨X.erase c, h1.erase c, Bw h1 h2, ?_⟩
  rw [ei, List.length_append, List.length_erase_of_mem hcX, List.length_singleton]
  have := List.length_pos_of_mem hcX
  omega
theorem lD.rows (h : lD L0 L ks) (hs : ∀ r, r ∈ L' → r ∈ L) (hu : ∀ X, mp L' X → mp L X) : lD L0 L' ks :=
 ⟨h.nd, fun c hc ⟨r, hr, q⟩ => h.dis c hc ⟨r, hs r hr, q⟩, fun c ⟨r, hr, q⟩ => h.sub c ⟨r, hs r hr, q⟩, h.ksub, fun X hX => h.up X (hu X hX), fun Y hn hY => (h.dn Y hn hY).imp fun X ⟨h1, h2, h3⟩ => ⟨h1, fun r hr => h2 r (hs r hr), h3⟩⟩
theorem lD.cols (h : lD L0 L ks) (hne : ¬ d = c) (hd : ∀ r, r ∈ L → c ∈ r → d ∈ r) : lD L0 (oa L c) ks := by
 refine ⟨h.nd, ?_, ?_, h.ksub, fun X hX => h.up X (Ij hX), ?_⟩
 ·rintro x hx ⟨r, hr, q⟩
  obtain ⟨r0, h0, rfl⟩ := mX.1 hr
  exact h.dis x hx ⟨r0, h0, (lV.1 q).1⟩
 ·rintro x ⟨r, hr, q⟩
  obtain ⟨r0, h0, rfl⟩ := mX.1 hr
  exact h.sub x ⟨r0, h0, (lV.1 q).1⟩
 ·intro Y hn hY
  obtain ⟨X, h1, h2, h3⟩ := h.dn Y hn hY
  by_cases hc : c ∈ X
  ·refine ⟨iB (X.erase c) d, jl (h1.erase c) d, ?_, ?_⟩
   ·intro r hr
    obtain ⟨r0, h0, rfl⟩ := mX.1 hr
    obtain ⟨x, hx1, hx2⟩ := h2 r0 h0
    by_cases e : x = c
    ·subst e
     exact ⟨d, lV.2 ⟨hd r0 h0 hx1, hne⟩, gm.2 (.inr rfl)⟩
    ·exact ⟨x, lV.2 ⟨hx1, e⟩, gm.2 (.inl ((List.Nodup.mem_erase_iff h1).2 ⟨e, hx2⟩))⟩
   ·have h4 := pn (X.erase c) d
    rw [List.length_erase_of_mem hc] at h4
    have := List.length_pos_of_mem hc
    omega
  ·exact ⟨X, h1, Jq h2 hc, h3⟩
theorem lD.perm (h : lD L0 L ks) (hn : ks'.Nodup) (hm : ∀ c, c ∈ ks' ↔ c ∈ ks) (hl : ks'.length = ks.length) : lD L0 L ks' :=
 ⟨hn, fun c hc => h.dis c ((hm c).1 hc), h.sub, fun c hc => h.ksub c ((hm c).1 hc), fun X hX => wr (h.up X hX) fun c hc => by
  rcases List.mem_append.1 hc with k | k
  ·exact List.mem_append.2 (.inl ((hm c).2 k))
  ·exact List.mem_append.2 (.inr k), fun Y h1 h2 => by rw [hl]; exact h.dn Y h1 h2⟩
end
def qP : ML → Nat
 | [] => 0
 | r :: L => r.length + 1 + qP L
theorem B6 (c : Int) : ∀ L : ML, qP (qK L c) ≤ qP L
 | [] => Nat.le_refl _
 | r :: L => by
  have h0 := B6 c L
  unfold qK at *
  rw [List.filter_cons]
  split
  ·simp only [qP]; omega
  ·simp only [qP]; omega
theorem xP {c : Int} : ∀ {L : ML}, qv L c → qP (qK L c) < qP L
 | [], ⟨r, h, _⟩ => by cases h
 | r :: L, ⟨q, hq, hc⟩ => by
  have h0 := B6 c L
  by_cases hr : c ∈ r
  ·unfold qK at *
   rw [List.filter_cons, if_neg (by simp [hr])]
   simp only [qP]; omega
  ·have hq2 : q ∈ L := by
    rcases List.mem_cons.1 hq with e | e
    ·rw [e] at hc; exact absurd hc hr
    ·exact e
   have h1 := xP (L := L) ⟨q, hq2, hc⟩
   unfold qK at *
   rw [List.filter_cons, if_pos (by simp [hr])]
   simp only [qP]; omega
theorem yL (r : List Int) (c : Int) : (yn r c).length ≤ r.length := List.length_filter_le _ _
theorem CR (c : Int) : ∀ L : ML, qP (oa L c) ≤ qP L
 | [] => Nat.le_refl _
 | r :: L => by
  have h0 := CR c L
  have h1 := yL r c
  unfold oa at *
  rw [List.map_cons]
  simp only [qP]; omega
theorem xG {c : Int} : ∀ {L : ML}, qv L c → qP (oa L c) < qP L
 | [], ⟨r, h, _⟩ => by cases h
 | r :: L, ⟨q, hq, hc⟩ => by
  have h0 := CR c L
  have h1 := yL r c
  rcases List.mem_cons.1 hq with e | e
  ·rw [e] at hc
   have h2 : (yn r c).length < r.length := by
    unfold yn
    exact List.length_filter_lt_length_iff_exists.2 ⟨c, hc, by simp⟩
   unfold oa at *
   rw [List.map_cons]
   simp only [qP]; omega
  ·have h2 := xG (L := L) ⟨q, e, hc⟩
   unfold oa at *
   rw [List.map_cons]
   simp only [qP]; omega
theorem GV (L : ML) (c : Int) : (qK L c).length ≤ L.length := List.length_filter_le _ _
theorem xQ {L : ML} {c : Int} (h : qv L c) : (qK L c).length < L.length := by
 obtain ⟨r, hr, hc⟩ := h
 unfold qK
 exact List.length_filter_lt_length_iff_exists.2 ⟨r, hr, by simp [hc]⟩
theorem len_le (L : ML) (c : Int) : (oa L c).length = L.length := by unfold oa; rw [List.length_map]
def FI (L : ML) (i : Nat) : ML := L.take i ++ L.drop (i + 1)
theorem zr : ∀ a b : ML, qP (a ++ b) = qP a + qP b
 | [], b => by simp [qP]
 | r :: a, b => by rw [List.cons_append]; simp only [qP]; rw [zr a b]; omega
theorem I3 {L : ML} {i : Nat} (h : i < L.length) : qP (FI L i) < qP L := by
 have e : L = L.take i ++ (L.getD i [] :: L.drop (i + 1)) := by
  rw [List.getD_eq_getElem?_getD, List.getElem?_eq_getElem h]
  simp
 have h1 := congrArg qP e
 rw [zr] at h1
 unfold FI
 rw [zr]
 simp only [qP] at h1
 omega
theorem Ik {L : ML} {i : Nat} {r : List Int} (h : r ∈ FI L i) : r ∈ L := by
 rcases List.mem_append.1 h with k | k
 ·exact List.mem_of_mem_take k
 ·exact List.mem_of_mem_drop k
theorem Id {L : ML} {i k : Nat} (hk : k < L.length) (hne : ¬ k = i) : L.getD k [] ∈ FI L i := by
 unfold FI
 rw [List.getD_eq_getElem?_getD, List.getElem?_eq_getElem hk]
 rcases Nat.lt_or_ge k i with q | q
 ·refine List.mem_append.2 (.inl (List.mem_take_iff_getElem.2 ⟨k, by omega, rfl⟩))
 ·refine List.mem_append.2 (.inr (List.mem_drop_iff_getElem.2 ⟨k - (i + 1), by omega, ?_⟩))
  show L[i + 1 + (k - (i + 1))] = _
  congr 1
  omega
theorem OI {L : ML} {i k : Nat} {X : List Int} (hi : i < L.length) (hk : k < L.length) (hne : ¬ k = i) (hw : ∀ x, x ∈ L.getD k [] → x ∈ L.getD i []) (h : mp (FI L i) X) : mp L X := fun r hr => by
 obtain ⟨j, hj, rfl⟩ := fo (d := []) hr
 by_cases e : j = i
 ·subst e
  obtain ⟨c, h1, h2⟩ := h _ (Id hk hne)
  exact ⟨c, hw c h1, h2⟩
 ·exact h _ (Id hj e)
theorem Nh {n : Int} {r : List Int} (h : nC n r = true) (c : Int) : nC n (yn r c) = true := by
 have hp : r.Pairwise fun a b => a < b := List.pairwise_iff_getElem.2 fun i j hi hj hij => ?_
 ·exact BK (hp.filter _) fun x hx => by
   obtain ⟨k, hk, rfl⟩ := fo (d := 0) (lV.1 hx).1
   obtain ⟨h1, h2, _⟩ := iV.1 h k hk
   exact ⟨h1, h2⟩
 ·have key : ∀ m, i + 1 + m < r.length → r.getD i 0 < r.getD (i + 1 + m) 0 := by
   intro m
   induction m with
   | zero => intro hm; exact (iV.1 h (i + 1) hm).2.2 (by omega)
   | succ m ih =>
    intro hm
    have h1 := ih (by omega)
    have h2 := (iV.1 h (i + 1 + (m + 1)) hm).2.2 (by omega)
    rw [show i + 1 + (m + 1) - 1 = i + 1 + m by omega] at h2
    omega
  have h3 := key (j - (i + 1)) (by omega)
  rw [show i + 1 + (j - (i + 1)) = j by omega] at h3
  simpa [List.getD_eq_getElem?_getD, List.getElem?_eq_getElem hi, List.getElem?_eq_getElem hj] using h3
theorem wa {n : Int} {L L' : ML} (h : dX n L = true) (k : ∀ r, r ∈ L' → nC n r = true) : dX n L' = true := by
 obtain ⟨h1, h2, _⟩ := fl.1 h
 exact fl.2 ⟨h1, h2, fun i hi => k _ (dS hi)⟩
theorem qe {n : Int} {L : ML} {r : List Int} (h : dX n L = true) (hr : r ∈ L) : nC n r = true := by
 obtain ⟨k, hk, rfl⟩ := fo (d := []) hr
 exact (fl.1 h).2.2 k hk
theorem pO {n : Int} {L : ML} {c : Int} (h : dX n L = true) (hc : qv L c) : 0 ≤ c ∧ c < n := by
 obtain ⟨r, hr, hc⟩ := hc
 obtain ⟨k, hk, rfl⟩ := fo (d := 0) hc
 have := iV.1 (qe h hr) k hk
 exact ⟨this.1, this.2.1⟩
theorem wc {n : Int} {L : ML} (h : dX n L = true) (c : Int) : dX n (qK L c) = true := wa h fun r hr => qe h (mT.1 hr).1
theorem BJ {n : Int} {L : ML} (h : dX n L = true) (c : Int) : dX n (oa L c) = true := wa h fun r hr => by
 obtain ⟨q, hq, rfl⟩ := mX.1 hr
 exact Nh (qe h hq) c
theorem HE {n : Int} {L : ML} (h : dX n L = true) (i : Nat) : dX n (FI L i) = true := wa h fun r hr => qe h (Ik hr)
theorem Cm {n : Int} {r : List Int} (h : nC n r = true) : (r.length : Int) ≤ n ∨ r = [] := by
 rcases Nat.eq_zero_or_pos r.length with e | e
 ·exact .inr (List.eq_nil_of_length_eq_zero e)
 ·left
  have key : ∀ m, m < r.length → (m : Int) ≤ r.getD m 0 := by
   intro m
   induction m with
   | zero => intro hm; exact (iV.1 h 0 hm).1
   | succ m ih =>
    intro hm
    have h1 := ih (by omega)
    have h2 := (iV.1 h (m + 1) hm).2.2 (by omega)
    simp only [Nat.add_sub_cancel] at h2
    omega
  have h3 := key (r.length - 1) (by omega)
  have h4 := (iV.1 h (r.length - 1) (by omega)).2.1
  omega
theorem fJ {n : Int} {L : ML} (h : dX n L = true) (i : Nat) : (L.getD i []).length ≤ 4000 := by
 obtain ⟨h1, h2, h3⟩ := fl.1 h
 by_cases hi : i < L.length
 ·rcases Cm (h3 i hi) with k | k
  ·omega
  ·rw [k]; exact Nat.zero_le _
 ·rw [List.getD_eq_getElem?_getD, List.getElem?_eq_none (by omega)]; exact Nat.zero_le _
def QB (L : ML) (k : Nat) : Bool := L.any fun r => decide ((k : Int) ∈ r)
theorem oC {L : ML} {k : Nat} : QB L k = true ↔ qv L (k : Int) := by
 unfold QB qv
 rw [List.any_eq_true]
 exact ⟨fun ⟨r, h1, h2⟩ => ⟨r, h1, of_decide_eq_true h2⟩, fun ⟨r, h1, h2⟩ => ⟨r, h1, decide_eq_true h2⟩⟩
def cnt (L : ML) : Nat := (List.range 4000).countP (QB L)
theorem l5 {α : Type} {p q : α → Bool} : ∀ {l : List α}, (∀ x, x ∈ l → p x = true → q x = true) → l.countP p ≤ l.countP q
 | [], _ => Nat.le_refl _
 | a :: l, h => by
  have ih := l5 (l := l) fun x hx => h x (List.mem_cons_of_mem _ hx)
  have h0 := h a (List.mem_cons_self ..)
  rw [List.countP_cons, List.countP_cons]
  by_cases e : p a = true
  ·rw [if_pos e, if_pos (h0 e)]; omega
  ·rw [if_neg e]; omega
theorem rl {α : Type} {p q : α → Bool} : ∀ {l : List α}, (∀ x, x ∈ l → p x = true → q x = true) → (∃ x, x ∈ l ∧ q x = true ∧ p x = false) → l.countP p < l.countP q
 | [], _, ⟨x, h, _⟩ => by cases h
 | a :: l, h, ⟨x, hx, hq, hp⟩ => by
  have ih0 := l5 (l := l) fun x hx => h x (List.mem_cons_of_mem _ hx)
  have h0 := h a (List.mem_cons_self ..)
  rw [List.countP_cons, List.countP_cons]
  rcases List.mem_cons.1 hx with e | e
  ·rw [← e, if_pos hq, if_neg (by rw [hp]; decide)]; omega
  ·have ih := rl (l := l) (fun x hx => h x (List.mem_cons_of_mem _ hx)) ⟨x, e, hq, hp⟩
   by_cases e : p a = true
   ·rw [if_pos e, if_pos (h0 e)]; omega
   ·rw [if_neg e]; omega
theorem rG {L L' : ML} (h : ∀ c, qv L c → qv L' c) : cnt L ≤ cnt L' := l5 fun x _ hx => oC.2 (h _ (oC.1 hx))
theorem JO {n : Int} {L L' : ML} {c : Int} (hr : dX n L' = true) (h : ∀ c, qv L c → qv L' c) (h1 : qv L' c) (h2 : ¬ qv L c) : cnt L < cnt L' := by
 obtain ⟨h3, h4⟩ := pO hr h1
 obtain ⟨_, h5, _⟩ := fl.1 hr
 have e : ((c.toNat : Nat) : Int) = c := by omega
 refine rl (fun x _ hx => oC.2 (h _ (oC.1 hx))) ⟨c.toNat, List.mem_range.2 (by omega), oC.2 (by rw [e]; exact h1), ?_⟩
 refine Bool.eq_false_iff.2 fun k => h2 ?_
 have := oC.1 k
 rwa [e] at this
theorem CT {n : Int} {L : ML} {c : Int} (hr : dX n L = true) (h : qv L c) : cnt (qK L c) < cnt L :=
 JO hr (fun d ⟨r, h1, h2⟩ => ⟨r, (mT.1 h1).1, h2⟩) h fun ⟨r, h1, h2⟩ => (mT.1 h1).2 h2
theorem DB {n : Int} {L : ML} {c : Int} (hr : dX n L = true) (h : qv L c) : cnt (oa L c) < cnt L :=
 JO hr (fun d ⟨r, h1, h2⟩ => by obtain ⟨q, hq, rfl⟩ := mX.1 h1; exact ⟨q, hq, (lV.1 h2).1⟩) h fun ⟨r, h1, h2⟩ => by obtain ⟨q, hq, rfl⟩ := mX.1 h1; exact (lV.1 h2).2 rfl
theorem Qb {n : Nat} {L : ML} (h : dX (n : Int) L = true) : cnt L ≤ n := by
 have h1 : cnt L ≤ (List.range 4000).countP fun k => decide (k < n) := l5 fun x _ hx => decide_eq_true (by
  have := pO h (oC.1 hx)
  omega)
 have h2 : ∀ m, (List.range m).countP (fun k => decide (k < n)) ≤ n := by
  intro m
  induction m with
  | zero => exact Nat.zero_le _
  | succ m ih =>
   rw [List.range_succ, List.countP_append, List.countP_cons, List.countP_nil]
   by_cases e : m < n
   ·have : (List.range m).countP (fun k => decide (k < n)) ≤ m := Nat.le_trans List.countP_le_length (by simp)
    rw [if_pos (decide_eq_true e)]; omega
   ·rw [if_neg (by rw [decide_eq_false e]; decide)]; omega
 exact Nat.le_trans h1 (h2 _)
def As (U r : List Int) : Bool := r.any fun c => decide (c ∈ U)
def o4 (U r : List Int) : Nat → List Int
 | 0 => U
 | k + 1 => iB (o4 U r k) (r.getD k 0)
def wT (L : ML) : Nat → List Int
 | 0 => []
 | k + 1 => if As (wT L k) (L.getD k []) then wT L k else o4 (wT L k) (L.getD k []) (L.getD k []).length
def Aw (L : ML) : Nat → Nat
 | 0 => 0
 | k + 1 => if As (wT L k) (L.getD k []) then Aw L k else Aw L k + 1
theorem pT {U r : List Int} {c : Int} : ∀ k, k ≤ r.length → (c ∈ o4 U r k ↔ c ∈ U ∨ c ∈ r.take k)
 | 0, _ => by simp [o4]
 | k + 1, hk => by
  rw [o4, gm, pT k (by omega), List.take_add_one, List.mem_append, List.getD_eq_getElem?_getD, List.getElem?_eq_getElem (show k < r.length by omega), or_assoc]
  simp [eq_comm]
theorem Mu {L : ML} {X : List Int} (h : mp L X) : ∀ k, k ≤ L.length → Aw L k ≤ X.countP fun c => decide (c ∈ wT L k)
 | 0, _ => Nat.zero_le _
 | k + 1, hk => by
  have ih := Mu h k (by omega)
  rw [Aw, wT]
  split
  ·exact ih
  ·rename_i hno
   obtain ⟨c, h1, h2⟩ := h _ (dS (d := []) (show k < L.length by omega))
   have hc : ¬ c ∈ wT L k := fun q => hno (List.any_eq_true.2 ⟨c, h1, decide_eq_true q⟩)
   refine Nat.lt_of_le_of_lt ih (rl (fun x _ hx => decide_eq_true ?_) ⟨c, h2, decide_eq_true ?_, decide_eq_false hc⟩)
   ·exact (pT _ (Nat.le_refl _)).2 (.inl (of_decide_eq_true hx))
   ·exact (pT _ (Nat.le_refl _)).2 (.inr (by rw [List.take_length]; exact h1))
theorem HO {L : ML} {X : List Int} (h : mp L X) : Aw L L.length ≤ X.length := Nat.le_trans (Mu h _ (Nat.le_refl _)) List.countP_le_length
def QL (x : ML × List Int) (Y : List Int) : Prop := ∃ X, X.Nodup ∧ mp x.1 X ∧ x.2.length + X.length ≤ Y.length
structure qB (L0 : ML) (st : List (ML × List Int)) (best : List Int) : Prop where
 bs : mp L0 best
 up : ∀ x, x ∈ st → ∀ X, mp x.1 X → mp L0 (x.2 ++ X)
 dn : ∀ Y, Y.Nodup → mp L0 Y → best.length ≤ Y.length ∨ ∃ x, x ∈ st ∧ QL x Y
section
variable {L0 : ML} {st : List (ML × List Int)} {x : ML × List Int} {best best' T : List Int} {rest : ML} {c : Int}
theorem qB.start (hb : mp L0 best) : qB L0 [(L0, [])] best := ⟨hb, fun x hx X h => (by obtain rfl := List.mem_singleton.1 hx; exact h), fun Y h1 h2 => .inr ⟨_, List.mem_singleton.2 rfl, Y, h1, h2, by simp⟩⟩
theorem qB.drop (h : qB L0 (st ++ [x]) best) (hb : mp L0 best') (hle : best'.length ≤ best.length) (hx : ∀ Y, QL x Y → best'.length ≤ Y.length) : qB L0 st best' := by
 refine ⟨hb, fun y hy => h.up y (List.mem_append.2 (.inl hy)), fun Y h1 h2 => ?_⟩
 rcases h.dn Y h1 h2 with k | ⟨y, hy, k⟩
 ·exact .inl (Nat.le_trans hle k)
 ·rcases List.mem_append.1 hy with q | q
  ·exact .inr ⟨y, q, k⟩
  ·rw [List.mem_singleton.1 q] at k
   exact .inl (hx Y k)
theorem qB.none (h : qB L0 (st ++ [x]) best) {r : List Int} (hr : r ∈ x.1) (hn : r = []) : qB L0 st best := h.drop h.bs (Nat.le_refl _) fun Y ⟨X, _, h2, _⟩ => by
 obtain ⟨c, h3, _⟩ := h2 r hr
 rw [hn] at h3; cases h3
theorem qB.sol (h : qB L0 (st ++ [x]) best) (hr : lD x.1 rest T) (he : rest = []) : mp L0 (x.2 ++ T) := by
 have := h.up x (List.mem_append.2 (.inr (List.mem_singleton.2 rfl))) (T ++ []) (hr.up [] (by rw [he]; exact Ef _))
 rwa [List.append_nil] at this
theorem qB.hop (hr : lD x.1 rest T) {Y : List Int} (k : QL x Y) : ∃ X, X.Nodup ∧ mp rest X ∧ (x.2 ++ T).length + X.length ≤ Y.length := by
 obtain ⟨X, h1, h2, h3⟩ := k
 obtain ⟨X', h4, h5, h6⟩ := hr.dn X h1 h2
 exact ⟨X', h4, h5, by rw [List.length_append]; omega⟩
theorem qB.leaf (h : qB L0 (st ++ [x]) best) (hr : lD x.1 rest T) (he : rest = []) (hl : (x.2 ++ T).length < best.length) : qB L0 st (x.2 ++ T) := h.drop (h.sol hr he) (Nat.le_of_lt hl) fun Y k => by
 obtain ⟨X, _, _, h3⟩ := qB.hop hr k
 omega
theorem qB.leaf0 (h : qB L0 (st ++ [x]) best) (hr : lD x.1 rest T) (hl : ¬ (x.2 ++ T).length < best.length) : qB L0 st best := h.drop h.bs (Nat.le_refl _) fun Y k => by
 obtain ⟨X, _, _, h3⟩ := qB.hop hr k
 omega
theorem qB.prune (h : qB L0 (st ++ [x]) best) (hr : lD x.1 rest T) (hl : best.length ≤ (x.2 ++ T).length + Aw rest rest.length) : qB L0 st best := h.drop h.bs (Nat.le_refl _) fun Y k => by
 obtain ⟨X, _, h2, h3⟩ := qB.hop hr k
 have := HO h2
 omega
theorem qB.branch (h : qB L0 (st ++ [x]) best) (hr : lD x.1 rest T) (c : Int) : qB L0 (st ++ [(oa rest c, x.2 ++ T), (qK rest c, x.2 ++ T ++ [c])]) best := by
 have hx := h.up x (List.mem_append.2 (.inr (List.mem_singleton.2 rfl)))
 refine ⟨h.bs, fun y hy X hX => ?_, fun Y h1 h2 => ?_⟩
 ·rcases List.mem_append.1 hy with q | q
  ·exact h.up y (List.mem_append.2 (.inl q)) X hX
  ·rcases List.mem_cons.1 q with rfl | q
   ·have := hx _ (hr.up X (Ij hX))
    rwa [List.append_assoc]
   ·rw [List.mem_singleton.1 q] at hX ⊢
    have := hx _ (hr.up _ (CB hX))
    simp only [List.append_assoc]
    exact this
 ·rcases h.dn Y h1 h2 with k | ⟨y, hy, k⟩
  ·exact .inl k
  ·rcases List.mem_append.1 hy with q | q
   ·exact .inr ⟨y, List.mem_append.2 (.inl q), k⟩
   ·rw [List.mem_singleton.1 q] at k
    obtain ⟨X, h4, h5, h6⟩ := qB.hop hr k
    right
    by_cases hc : c ∈ X
    ·refine ⟨_, List.mem_append.2 (.inr (List.mem_cons_of_mem _ (List.mem_singleton.2 rfl))), X.erase c, h4.erase c, Bw h4 h5, ?_⟩
     rw [List.length_erase_of_mem hc]
     have := List.length_pos_of_mem hc
     simp only [List.length_append, List.length_singleton] at h6 ⊢
     omega
    ·exact ⟨_, List.mem_append.2 (.inr (List.mem_cons_self ..)), X, h4, Jq h5 hc, h6⟩
end
def zR : List (ML × List Int) → Nat
 | [] => 0
 | x :: st => (2 ^ (cnt x.1 + 1) - 1) + zR st
def D5 : List (ML × List Int) → Nat
 | [] => 0
 | x :: st => (2 ^ cnt x.1 - 1) + D5 st
theorem uz : ∀ a b, zR (a ++ b) = zR a + zR b
 | [], b => by simp [zR]
 | x :: a, b => by rw [List.cons_append, zR, zR, uz a b]; omega
theorem uC : ∀ a b, D5 (a ++ b) = D5 a + D5 b
 | [], b => by simp [D5]
 | x :: a, b => by rw [List.cons_append, D5, D5, uC a b]; omega
theorem HW (st : List (ML × List Int)) (x : ML × List Int) : zR st < zR (st ++ [x]) := by
 have := Nat.two_pow_pos (cnt x.1)
 rw [uz]
 simp only [zR, Nat.pow_succ]
 omega
theorem Js (st : List (ML × List Int)) (x : ML × List Int) : D5 st ≤ D5 (st ++ [x]) := by rw [uC]; omega
section
variable {n : Int} {st : List (ML × List Int)} {x : ML × List Int} {T a b : List Int} {rest : ML} {c : Int}
theorem ss {a k : Nat} (h : a < k) : 2 * 2 ^ a ≤ 2 ^ k := by
 have := Nat.pow_le_pow_right (show 0 < 2 by decide) (show a + 1 ≤ k by omega)
 rw [Nat.pow_succ] at this
 omega
theorem Dz (hr : dX n rest = true) (h : lD x.1 rest T) (hc : qv rest c) : zR (st ++ [(oa rest c, a), (qK rest c, b)]) < zR (st ++ [x]) := by
 have h1 := ss (DB hr hc)
 have h2 := ss (CT hr hc)
 have h3 := Nat.pow_le_pow_right (show 0 < 2 by decide) (rG h.sub)
 have h4 := Nat.two_pow_pos (cnt (oa rest c))
 rw [uz, uz]
 simp only [zR, Nat.pow_succ]
 omega
theorem vi (hr : dX n rest = true) (h : lD x.1 rest T) (hc : qv rest c) : D5 (st ++ [(oa rest c, a), (qK rest c, b)]) + 1 ≤ D5 (st ++ [x]) := by
 have h1 := ss (DB hr hc)
 have h2 := ss (CT hr hc)
 have h3 := Nat.pow_le_pow_right (show 0 < 2 by decide) (rG h.sub)
 have h4 := Nat.two_pow_pos (cnt (oa rest c))
 have h5 := Nat.two_pow_pos (cnt (qK rest c))
 rw [uC, uC]
 simp only [D5]
 omega
end
def kC (l : List Int) (k : Nat) : List Int := ((List.range k).filter fun c : Nat => decide ((c : Int) ∈ l)).map fun c : Nat => (c : Int)
theorem iX (l : List Int) (k : Nat) : kC l (k + 1) = if (k : Int) ∈ l then kC l k ++ [(k : Int)] else kC l k := by
 unfold kC
 rw [List.range_succ, List.filter_append, List.map_append]
 by_cases h : (k : Int) ∈ l
 ·simp [h]
 ·simp [h]
theorem py {l : List Int} {k : Nat} {c : Int} : c ∈ kC l k ↔ c ∈ l ∧ 0 ≤ c ∧ c < k := by
 unfold kC
 simp only [List.mem_map, List.mem_filter, List.mem_range, decide_eq_true_eq]
 constructor
 ·rintro ⟨a, ⟨h1, h2⟩, rfl⟩; exact ⟨h2, by omega, by omega⟩
 ·rintro ⟨h1, h2, h3⟩
  exact ⟨c.toNat, ⟨by omega, by rwa [show ((c.toNat : Nat) : Int) = c by omega]⟩, by omega⟩
theorem J0 (l : List Int) (k : Nat) : (kC l k).Pairwise fun a b => a < b := by
 unfold kC
 rw [List.pairwise_map]
 refine List.Pairwise.filter _ ?_
 exact List.pairwise_lt_range.imp (fun h => by omega)
theorem kM (l : List Int) (k : Nat) : (kC l k).Nodup := (J0 l k).imp fun h e => by omega
theorem sT {α : Type} [DecidableEq α] : ∀ {a b : List α}, a.Nodup → (∀ x, x ∈ a → x ∈ b) → a.length ≤ b.length
 | [], b, _, _ => Nat.zero_le _
 | x :: a, b, hn, h => by
  obtain ⟨h1, h2⟩ := List.nodup_cons.1 hn
  have hx : x ∈ b := h x (List.mem_cons_self ..)
  have ih := sT (a := a) (b := b.erase x) h2 fun y hy => (List.mem_erase_of_ne (fun e => h1 (by rw [e] at hy; exact hy))).2 (h y (List.mem_cons_of_mem _ hy))
  rw [List.length_erase_of_mem hx] at ih
  have := List.length_pos_of_mem hx
  rw [List.length_cons]
  omega
theorem Ag (l : List Int) (k : Nat) : (kC l k).length ≤ l.length := sT (kM l k) fun x hx => (py.1 hx).1
theorem lx (l : List Int) (k : Nat) : (kC l k).length ≤ k := by
 unfold kC
 rw [List.length_map]
 exact Nat.le_trans (List.length_filter_le _ _) (by simp)
theorem pV {n : Int} {L : ML} {l : List Int} (hr : dX n L = true) (h : mp L l) : mp L (kC l n.toNat) := fun r hr2 => by
 obtain ⟨c, h1, h2⟩ := h r hr2
 have := pO hr ⟨r, hr2, h1⟩
 exact ⟨c, h1, py.2 ⟨h2, by omega, by omega⟩⟩
theorem lD.ris {n : Int} {L0 L : ML} {ks : List Int} (hr : dX n L0 = true) (h : lD L0 L ks) : lD L0 L (kC ks n.toNat) := by
 have hm : ∀ c, c ∈ kC ks n.toNat ↔ c ∈ ks := fun c => py.trans ⟨fun q => q.1, fun q => by
  have := pO hr (h.ksub c q)
  exact ⟨q, by omega, by omega⟩⟩
 exact h.perm (kM _ _) hm (Nat.le_antisymm (sT (kM _ _) fun x hx => (hm x).1 hx) (sT h.nd fun x hx => (hm x).2 hx))
structure Kt (L : ML) (n : Int) (X : List Int) : Prop where
 nd : X.Nodup
 lim : ∀ c, c ∈ X → 0 ≤ c ∧ c < n
 slv : mp L X
 min : ∀ Y, Y.Nodup → mp L Y → X.length ≤ Y.length
theorem qB.fin {n : Int} {L0 : ML} {best : List Int} (hr : dX n L0 = true) (h : qB L0 [] best) : Kt L0 n (kC best n.toNat) := by
 obtain ⟨h1, _, _⟩ := fl.1 hr
 refine ⟨kM _ _, fun c hc => ?_, pV hr h.bs, fun Y hn hY => ?_⟩
 ·have := (py.1 hc).2
  omega
 ·rcases h.dn Y hn hY with k | ⟨x, hx, _⟩
  ·exact Nat.le_trans (Ag _ _) k
  ·cases hx
theorem Kt.both {n : Int} {L0 L : ML} {T X : List Int} (h : lD L0 L T) (k : Kt L n X) : mp L0 (T ++ X) ∧ ∀ Y, Y.Nodup → mp L0 Y → (T ++ X).length ≤ Y.length := by
 refine ⟨h.up X k.slv, fun Y hn hY => ?_⟩
 obtain ⟨X', h1, h2, h3⟩ := h.dn Y hn hY
 have := k.min X' h1 h2
 rw [List.length_append]
 omega
end
section
open Go Go.RowKit
theorem LL.last {w : World} {vos : List Value} {A : List (List Int)} {m : Nat} (h : LL w vos (A.take m)) (hm : m ≤ A.length) (h0 : 0 < m) : dM d9 1 w (vos.getD ((vos.length : Int) - 1).toNat undef) (A.getD (m - 1) []) := by
 have hl := h.len
 rw [List.length_take, Nat.min_eq_left hm] at hl
 have g := h.get (m - 1) (by rw [List.length_take]; omega)
 have e : (A.take m).getD (m - 1) [] = A.getD (m - 1) [] := by
  rw [List.getD_eq_getElem?_getD, List.getElem?_take, if_pos (by omega), List.getD_eq_getElem?_getD]
 rw [e] at g
 rw [show ((vos.length : Int) - 1).toNat = m - 1 by omega]
 exact g
theorem F1 (S : Sp) (l : List Rw) : (lp S l).length = (j4 S l S.on.length).length := ya _
theorem GD {S : Sp} {l : List Rw} (hr : dP S = true) : (j4 S l S.on.length).length ≤ 1024 := by
 have h := sR S l S.on.length
 have := (d7.1 hr).2.2.2.1
 omega
theorem LL.two {w : World} {v0 v1 : Value} {l0 l1 : List Int} (h0 : dM d9 1 w v0 l0) (h1 : dM d9 1 w v1 l1) : LL w [v0, v1] [l0, l1] := ((LL.nil w).snoc h0).snoc h1
end
section
open Go Go.RowKit
def rg {α : Type} (d : α) (p : Nat → Bool) (l : List α) : Nat → List α
 | 0 => []
 | k + 1 => if p k then rg d p l k ++ [l.getD k d] else rg d p l k
theorem EI {α : Type} {d : α} {p : Nat → Bool} {l : List α} {k : Nat} (h : p k = true) : rg d p l k ++ [l.getD k d] = rg d p l (k + 1) := by rw [rg, if_pos h]
theorem Fc {α : Type} {d : α} {p : Nat → Bool} {l : List α} {k : Nat} (h : p k = false) : rg d p l k = rg d p l (k + 1) := by rw [rg, if_neg (by rw [h]; decide)]
theorem zy {α : Type} (d : α) (p : Nat → Bool) (l : List α) : ∀ k, (rg d p l k).length ≤ k
 | 0 => Nat.le_refl _
 | k + 1 => by
  have := zy d p l k
  rw [rg]
  split
  ·rw [List.length_append, List.length_singleton]; omega
  ·omega
theorem LO.kp {T : TypeId} {N : Nat} {w : World} {vs : List Value} {L : ML} (h : LO T N w vs L) (p : Nat → Bool) : ∀ k, k ≤ L.length → LO T N w (rg undef p vs k) (rg [] p L k)
 | 0, _ => LO.nil
 | k + 1, hk => by
  have ih := LO.kp h p k (by omega)
  rw [rg, rg]
  split
  ·exact ih.snoc (h.get k (by omega))
  ·exact ih
theorem qm {L : ML} {k : Nat} (h : k < L.length) : L.take (k + 1) = L.take k ++ [L.getD k []] := (HJ h).symm
theorem IO {L : ML} {c : Int} : ∀ k, k ≤ L.length → rg [] (fun k => !decide (c ∈ L.getD k [])) L k = qK (L.take k) c
 | 0, _ => by simp [rg, qK]
 | k + 1, hk => by
  have ih := IO (L := L) (c := c) k (by omega)
  rw [qm (by omega)]
  unfold qK at ih ⊢
  rw [rg, List.filter_append, ← ih]
  generalize rg [] (fun k => !decide (c ∈ L.getD k [])) L k = A
  generalize L.getD k [] = r
  by_cases h : c ∈ r
  ·simp [h]
  ·simp [h]
theorem HI {L : ML} {i : Nat} : ∀ k, k ≤ L.length → rg [] (fun k => decide (¬ (k : Int) = (i : Int))) L k = if k ≤ i then L.take k else FI (L.take k) i
 | 0, _ => by simp [rg]
 | k + 1, hk => by
  have ih := HI (L := L) (i := i) k (by omega)
  rw [rg, ih]
  by_cases h1 : k < i
  ·rw [if_pos (decide_eq_true (by omega)), if_pos (by omega), if_pos (by omega), qm (by omega)]
  ·by_cases h2 : k = i
   ·subst h2
    rw [if_neg (by simp), if_pos (Nat.le_refl _), if_neg (by omega)]
    unfold FI
    rw [List.take_take, Nat.min_eq_left (by omega), List.drop_of_length_le (by rw [List.length_take]; omega), List.append_nil]
   ·rw [if_pos (decide_eq_true (by omega)), if_neg (by omega), if_neg (by omega), qm (by omega)]
    unfold FI
    rw [List.take_append_of_le_length (by rw [List.length_take]; omega), List.drop_append_of_le_length (by rw [List.length_take]; omega), List.append_assoc]
theorem JG (L : ML) (c : Int) : rg [] (fun k => !decide (c ∈ L.getD k [])) L L.length = qK L c := by rw [IO _ (Nat.le_refl _), List.take_length]
theorem P9 {L : ML} {i : Nat} (h : i < L.length) : rg [] (fun k => decide (¬ (k : Int) = (i : Int))) L L.length = FI L i := by rw [HI _ (Nat.le_refl _), if_neg (by omega), List.take_length]
theorem GY {r : List Int} {c : Int} {k : Nat} (hk : k < r.length) (h : r.getD k 0 = c) : Value.bool true = .bool (decide (c ∈ r)) := Bu (decide_eq_true (h ▸ dS hk))
theorem GN {r : List Int} {c : Int} {k : Nat} (hk : k = r.length) (h : ∀ q, q < k → ¬ r.getD q 0 = c) : Value.bool false = .bool (decide (c ∈ r)) := ot fun e => by
 obtain ⟨j, hj, hjc⟩ := fo (d := 0) (of_decide_eq_true e)
 exact h j (by omega) hjc
def zq (a b : List Int) : Bool := a.all fun x => decide (x ∈ b)
theorem rz {a b : List Int} : zq a b = true ↔ ∀ x, x ∈ a → x ∈ b := by
 unfold zq
 rw [List.all_eq_true]
 exact ⟨fun h x hx => of_decide_eq_true (h x hx), fun h x hx => decide_eq_true (h x hx)⟩
theorem Md {a b : List Int} {k : Nat} (hk : k < a.length) (h : (!decide (a.getD k 0 ∈ b)) = true) : Value.bool false = .bool (zq a b) := ot fun e => by
 have := rz.1 e _ (dS (d := 0) hk)
 rw [decide_eq_true this] at h; cases h
theorem Mk {a b : List Int} {k : Nat} (hk : k = a.length) (h : ∀ q, q < k → (!decide (a.getD q 0 ∈ b)) = false) : Value.bool true = .bool (zq a b) := Bu (rz.2 fun x hx => by
 obtain ⟨j, hj, rfl⟩ := fo (d := 0) hx
 have := h j (by omega)
 simpa using this)
theorem dh.hi {α : Type} {enc : α → List Value} {sz : Nat} {T : TypeId} {w : World} {N : Nat} {v : Value} {l : List α} (h : dh enc sz T w N v l) (he : ∀ a, (enc a).length = sz) {k : Nat} (hk : k ≤ l.length) : dh enc sz T w N (fV sz v 0 k (iU v)) (l.take k) := by
 obtain ⟨h1, h2⟩ := h
 have hl : (List.flatMap enc (l.take k)).length = (l.take k).length * sz := ky he _
 refine ⟨hl, ?_⟩
 rcases h2 with ⟨rfl, h3⟩ | ⟨g, cap, cur, rfl, hg, hh, hnc, hcm, hcs, ht⟩
 ·have h0 : l = [] := List.eq_nil_of_length_eq_zero h3
  subst h0
  have hk0 : k = 0 := by simpa using hk
  subst hk0
  exact .inl ⟨rfl, rfl⟩
 ·refine .inr ⟨g, cap, cur, ?_, hg, hh, by rw [List.length_take]; omega, hcm, hcs, ?_⟩
  ·show fV sz (.slice (some ⟨g, 0, none⟩) l.length cap) 0 k cap = _
   unfold fV zI
   rw [List.length_take, Nat.min_eq_left hk]
   by_cases hc : cap = 0
   ·subst hc; simp
   ·rw [if_neg hc]
    simp only [Option.map_some, Nat.zero_mul, Nat.sub_zero]
    rw [gR]
  ·rw [List.length_take, Nat.min_eq_left hk, qo he, ← ht, List.take_take]
   congr 1
   exact (Nat.min_eq_left (Nat.mul_le_mul_right _ hk)).symm
theorem Ig {w : World} {b N : Nat} {T : TypeId} {f0 f1 f2 : Value} (k : At w b #[f0, f1, f2] T) (hN : N ≤ b) : dh encV 1 T w N (.slice (some ⟨b, 0, none⟩) 3 3) [f0, f1, f2] :=
 ⟨rfl, .inr ⟨b, 3, #[f0, f1, f2], rfl, hN, k, Nat.le_refl _, by decide, rfl, rfl⟩⟩
section
variable {P : Program} {f : Nat → Value} {w : World} {d : Option Nat} {ty : TypeId} {ps : String} {af : Array Edge} {g : Option (Nat × Bool)} {x y : Operand}
theorem OD {a b : Int} {tys : Array TypeId} (hx : dO f x = .int .i64 a) (hy : dO f y = .int .i64 b) : (execOp (dO f) ⟨d, .call ⟨.builtin .max, #[x, y], tys⟩, ty, ps, af, g⟩).run P w = .ok (.value (.int .i64 (max a b))) w := by
 simp [execOp, resolve, invoke, builtin, hx, hy, Builtin.max_, Builtin.max2]
 split <;> omega
end
theorem DY {v : Value} (h : v.oneCell' = true) : [v].all Value.oneCell' = true := by rw [List.all_cons, h]; rfl
theorem ib {n : Int} {v : Value} (h : v.oneCell' = true) : [Value.int .i64 n, v].all Value.oneCell' = true := by simp only [List.all_cons, List.all_nil, h, Bool.and_true]; rfl
def Gl (l : List (Int × Value)) (c : Int) : Value := (g6 l c).getD (.slice none 0 0)
structure MO (T : TypeId) (N : Nat) (w : World) (l : List (Int × Value)) (g : Int → List Int) : Prop where
 own : ∀ p, p ∈ l → dh d9 1 T w N p.2 (g p.1)
 ap : ∀ p q, p ∈ l → q ∈ l → ¬ p.1 = q.1 → eO p.2 q.2
 nd : (l.map (·.1)).Nodup
 no : ∀ c, c ∉ l.map (·.1) → g c = []
def CX (g : Int → List Int) (c x : Int) : Int → List Int := fun d => if d = c then g d ++ [x] else g d
section
variable {T : TypeId} {N : Nat} {w w' : World} {l : List (Int × Value)} {g : Int → List Int} {c x : Int}
theorem MO.nil : MO T N w [] (fun _ => []) := ⟨fun p h => (by cases h), fun p q h => (by cases h), List.nodup_nil, fun _ _ => rfl⟩
theorem MO.get (h : MO T N w l g) (c : Int) : dh d9 1 T w N (Gl l c) (g c) := by
 unfold Gl
 cases e : g6 l c with
 | none =>
  rw [h.no c (nD.1 e)]
  exact dh.nil
 | some v => exact h.own (c, v) ((md h.nd).1 e)
theorem MO.ext (h : eo w w') (k : MO T N w l g) : MO T N w' l g := ⟨fun p hp => h.ow (k.own p hp), k.ap, k.nd, k.no⟩
theorem MO.below {W : World} (h : Below w.heap.size w W) (k : MO T N w l g) : MO T N W l g := ⟨fun p hp => Below.ow h (k.own p hp), k.ap, k.nd, k.no⟩
theorem MO.grownAt {b : Nat} {cs : Array Value} {T' : TypeId} (k : MO T N w l g) (hm : At w b cs T') (hG : w.grownBy w' (some b)) (hT : T' ≠ T) : MO T N w' l g := ⟨fun p hp => (k.own p hp).grownAt hm hG hT, k.ap, k.nd, k.no⟩
theorem MO.grownMap {α β : Type} {enc : α → Value} {encV : β → Value} {b : Nat} {m : List (α × β)} (k : MO T N w l g) (hm : dR enc encV w b m) (hG : w.grownBy w' (some b)) : MO T N w' l g := ⟨fun p hp => (k.own p hp).grownMap hm hG, k.ap, k.nd, k.no⟩
theorem MO.grownOw {α : Type} {enc : α → List Value} {sz N' : Nat} {T' : TypeId} {v : Value} {m : List α} (k : MO T N w l g) (h : dh enc sz T' w N' v m) (hG : w.grownBy w' v.ownBlock) (hT : T' ≠ T) : MO T N w' l g := ⟨fun p hp => (k.own p hp).grownOw h hG hT.symm, k.ap, k.nd, k.no⟩
theorem sK {v : Value} {p : Int × Value} (hn : (l.map (·.1)).Nodup) (h : p ∈ g7 l c v) : (p = (c, v)) ∨ (p ∈ l ∧ ¬ p.1 = c) := by
 unfold g7 at h
 split at h
 ·obtain ⟨q, hq, e⟩ := List.mem_map.1 h
  split at e
  ·exact .inl e.symm
  ·rename_i hne
   rw [← e]; exact .inr ⟨hq, hne⟩
 ·rename_i hno
  rcases List.mem_append.1 h with k | k
  ·exact .inr ⟨k, fun e => hno (e ▸ List.mem_map_of_mem k)⟩
  ·exact .inl (List.mem_singleton.1 k)
theorem MO.app {v : Value} (k : MO T N w l g) (hG : w.grownBy w' (Gl l c).ownBlock) (hob : v.ownBlock = (Gl l c).ownBlock ∨ v.ownBlock = some w.heap.size) (hO : dh d9 1 T w' N v (g c ++ [x])) : MO T N w' (g7 l c v) (CX g c x) := by
 have hgo : ∀ p, p ∈ l → ¬ p.1 = c → eO (Gl l c) p.2 := fun p hp hne => by
  unfold Gl
  cases e : g6 l c with
  | none => exact eO.nilL
  | some u => exact k.ap (c, u) p ((md k.nd).1 e) hp (fun q => hne q.symm)
 have hap : ∀ p, p ∈ l → ¬ p.1 = c → eO v p.2 := fun p hp hne => eO.app (hgo p hp hne) hob (k.own p hp)
 refine ⟨fun p hp => ?_, fun p q hp hq hne => ?_, ?_, fun d hd => ?_⟩
 ·rcases sK k.nd hp with rfl | ⟨h1, h2⟩
  ·unfold CX; rw [if_pos rfl]; exact hO
  ·unfold CX; rw [if_neg h2]; exact (k.own p h1).grownAp (hgo p h1 h2) hG
 ·rcases sK k.nd hp with rfl | ⟨h1, h2⟩
  ·rcases sK k.nd hq with rfl | ⟨h3, h4⟩
   ·exact absurd rfl hne
   ·exact hap q h3 h4
  ·rcases sK k.nd hq with rfl | ⟨h3, h4⟩
   ·exact (hap p h1 h2).symm
   ·exact k.ap p q h1 h3 hne
 ·rw [j7]; exact jl k.nd c
 ·rw [j7] at hd
  have h1 : ¬ d = c := fun e => hd (gm.2 (.inr e))
  unfold CX
  rw [if_neg h1]
  exact k.no d fun e => hd (gm.2 (.inl e))
end
def Mh (r : List Int) (i : Nat) (g : Int → List Int) : Nat → Int → List Int
 | 0 => g
 | j + 1 => CX (Mh r i g j) (r.getD j 0) (i : Int)
def nO (L : ML) : Nat → Int → List Int
 | 0 => fun _ => []
 | i + 1 => Mh (L.getD i []) i (nO L i) (L.getD i []).length
theorem DZ {r : List Int} {i : Nat} {g : Int → List Int} {c x : Int} : ∀ j, j ≤ r.length → (x ∈ Mh r i g j c ↔ x ∈ g c ∨ (c ∈ r.take j ∧ x = i))
 | 0, _ => by simp [Mh]
 | j + 1, hj => by
  have ih := DZ (r := r) (i := i) (g := g) (c := c) (x := x) j (by omega)
  rw [Mh, List.take_add_one, List.mem_append, List.getElem?_eq_getElem (show j < r.length by omega)]
  have e : r.getD j 0 = r[j] := by rw [List.getD_eq_getElem?_getD, List.getElem?_eq_getElem (show j < r.length by omega)]; rfl
  unfold CX
  rw [e]
  by_cases h : c = r[j]
  ·rw [if_pos h, List.mem_append, ih, List.mem_singleton]
   simp [h]
   constructor
   ·rintro ((h1 | h1) | h1)
    ·exact .inl h1
    ·exact .inr h1.2
    ·exact .inr h1
   ·rintro (h1 | h1)
    ·exact .inl (.inl h1)
    ·exact .inr h1
  ·rw [if_neg h, ih]
   simp [h]
theorem um {L : ML} {c x : Int} : ∀ k, x ∈ nO L k c ↔ ∃ i, i < k ∧ c ∈ L.getD i [] ∧ x = (i : Int)
 | 0 => by simp [nO]
 | k + 1 => by
  rw [nO, DZ _ (Nat.le_refl _), List.take_length, um k]
  constructor
  ·rintro (⟨i, h1, h2, h3⟩ | ⟨h2, h3⟩)
   ·exact ⟨i, by omega, h2, h3⟩
   ·exact ⟨k, by omega, h2, h3⟩
  ·rintro ⟨i, h1, h2, h3⟩
   by_cases e : i = k
   ·subst e; exact .inr ⟨h2, h3⟩
   ·exact .inl ⟨i, by omega, h2, h3⟩
theorem Ex {L : ML} {c : Int} {q : Nat} (h : q < (nO L L.length c).length) : 0 ≤ (nO L L.length c).getD q 0 ∧ (nO L L.length c).getD q 0 < L.length ∧ c ∈ L.getD ((nO L L.length c).getD q 0).toNat [] := by
 obtain ⟨i, h1, h2, h3⟩ := (um _).1 (dS (d := 0) h)
 rw [h3, Int.toNat_natCast]
 exact ⟨by omega, by omega, h2⟩
theorem zk {r : List Int} {i : Nat} {g : Int → List Int} {c : Int} : ∀ j, (Mh r i g j c).length ≤ (g c).length + j
 | 0 => Nat.le_refl _
 | j + 1 => by
  have ih := zk (r := r) (i := i) (g := g) (c := c) j
  rw [Mh]
  unfold CX
  split
  ·rw [List.length_append, List.length_singleton]; omega
  ·omega
theorem uk {L : ML} {c : Int} (h : ∀ i, (L.getD i []).length ≤ 4000) : ∀ k, (nO L k c).length ≤ 4000 * k
 | 0 => Nat.le_refl _
 | k + 1 => by
  have ih := uk (c := c) h k
  have h1 := zk (r := L.getD k []) (i := k) (g := nO L k) (c := c) (L.getD k []).length
  have h2 := h k
  rw [nO]; omega
theorem Od {L : ML} {c d : Int} (h : zq (nO L L.length c) (nO L L.length d) = true) : ∀ r, r ∈ L → c ∈ r → d ∈ r := fun r hr hc => by
 obtain ⟨i, hi, rfl⟩ := fo (d := []) hr
 obtain ⟨j, _, h2, h3⟩ := (um _).1 (rz.1 h _ ((um _).2 ⟨i, hi, hc, rfl⟩))
 have e : j = i := by omega
 rw [e] at h2
 exact h2
theorem BI {r : List Int} {c : Int} {k : Nat} (hk : k < r.length) : yn (r.take (k + 1)) c = if r.getD k 0 = c then yn (r.take k) c else yn (r.take k) c ++ [r.getD k 0] := by
 unfold yn
 rw [List.take_add_one, List.getElem?_eq_getElem hk, List.filter_append, List.getD_eq_getElem?_getD, List.getElem?_eq_getElem hk]
 by_cases h : r[k] = c
 ·simp [h]
 ·simp [h]
theorem E2 {r : List Int} {c : Int} {k : Nat} (hk : k < r.length) (h : ¬ r.getD k 0 = c) : yn (r.take k) c ++ [r.getD k 0] = yn (r.take (k + 1)) c := by rw [BI hk, if_neg h]
theorem Eu {r : List Int} {c : Int} {k : Nat} (hk : k < r.length) (h : r.getD k 0 = c) : yn (r.take k) c = yn (r.take (k + 1)) c := by rw [BI hk, if_pos h]
theorem Bt {L : ML} {c : Int} {k : Nat} (hk : k < L.length) : oa (L.take k) c ++ [yn (L.getD k []) c] = oa (L.take (k + 1)) c := by
 rw [qm hk]
 unfold oa
 rw [List.map_append]
 rfl
theorem zf {L : ML} {c : Int} {k : Nat} (hk : k = L.length) : oa (L.take k) c = oa L c := by rw [hk, List.take_length]
theorem EF (L : ML) (c : Int) (k : Nat) : (oa (L.take k) c).length ≤ k := by unfold oa; rw [List.length_map, List.length_take]; omega
theorem DJ (r : List Int) (c : Int) (k : Nat) : (yn (r.take k) c).length ≤ k := by
 have := yL (r.take k) c
 rw [List.length_take] at this; omega
def Qj (L L' : ML) (c : Int) (b : Bool) : Prop := (b = true ∧ (∃ r, r ∈ L ∧ r = [c]) ∧ L' = qK L c) ∨ (b = false ∧ L' = L)
theorem PU {L : ML} {k : Nat} {C : Int} (hk : k < L.length) (h1 : ((L.getD k []).length : Int) = 1) (hC : C = (L.getD k []).getD 0 0) : Qj L (rg [] (fun k => !decide (C ∈ L.getD k [])) L L.length) C true := by
 refine .inl ⟨rfl, ⟨L.getD k [], dS (d := []) hk, ?_⟩, JG L C⟩
 generalize L.getD k [] = r at *
 match r, h1 with
 | [a], _ => rw [hC]; rfl
theorem PH (L : ML) : Qj L L 0 false := .inr ⟨rfl, rfl⟩
def O8 (L L' : ML) (b : Bool) : Prop := (b = true ∧ ((∃ i k, i < L.length ∧ k < L.length ∧ ¬ k = i ∧ (∀ x, x ∈ L.getD k [] → x ∈ L.getD i []) ∧ L' = FI L i) ∨ ∃ c d, qv L c ∧ ¬ d = c ∧ (∀ r, r ∈ L → c ∈ r → d ∈ r) ∧ L' = oa L c)) ∨ (b = false ∧ L' = L)
theorem Iv (L : ML) : O8 L L false := .inr ⟨rfl, rfl⟩
theorem zA {L : ML} {i k : Nat} (hi : i < L.length) (hk : k < L.length) (hne : ¬ (k : Int) = (i : Int)) (hw : zq (L.getD k []) (L.getD i []) = true) : O8 L (rg [] (fun k => decide (¬ (k : Int) = (i : Int))) L L.length) true :=
 .inl ⟨rfl, .inl ⟨i, k, hi, hk, fun e => hne (by rw [e]), fun x hx => rz.1 hw x hx, P9 hi⟩⟩
theorem D8 {L : ML} {c d : Int} {i : Nat} (h0 : (nO L L.length c).length ≠ 0) (hne : ¬ d = c) (hw : zq (nO L L.length c) (nO L L.length d) = true) : O8 L (oa L c) true := by
 refine .inl ⟨rfl, .inr ⟨c, d, ?_, hne, Od hw, rfl⟩⟩
 obtain ⟨h1, h2, h3⟩ := Ex (q := 0) (Nat.pos_of_ne_zero h0)
 exact ⟨_, dS (by omega), h3⟩
structure Mg (L0 L' L : ML) (ks' : List Int) (n : Int) (b : Bool) : Prop where
 rd : lD L0 L' ks'
 r : dX n L' = true
 sz : qP L' ≤ qP L
 szt : b = true → qP L' < qP L
 len : L'.length ≤ L.length
theorem AR {L0 L : ML} {ks : List Int} {n : Int} (h : lD L0 L ks) (hr : dX n L = true) : Mg L0 L L ks n false := ⟨h, hr, Nat.le_refl _, fun e => Bool.noConfusion e, Nat.le_refl _⟩
theorem Ic {L0 L L' : ML} {ks : List Int} {n c : Int} (h : lD L0 L ks) (hr : dX n L = true) (k : Qj L L' c true) : Mg L0 L' L (iB ks c) n true := by
 obtain ⟨_, ⟨r, h1, h2⟩, rfl⟩ | ⟨h1, _⟩ := k
 ·have hin : qv L c := ⟨r, h1, by rw [h2]; exact List.mem_singleton.2 rfl⟩
  exact ⟨h.take h1 h2, wc hr c, B6 c L, fun _ => xP hin, GV L c⟩
 ·cases h1
theorem FC {L0 L L' : ML} {ks : List Int} {n c : Int} (h : lD L0 L ks) (hr : dX n L = true) (k : Qj L L' c false) : Mg L0 L' L ks n false := by
 obtain ⟨h1, _⟩ | ⟨_, rfl⟩ := k
 ·cases h1
 ·exact AR h hr
theorem Iz {L0 L L' : ML} {ks : List Int} {n : Int} {b : Bool} (h : lD L0 L ks) (hr : dX n L = true) (k : O8 L L' b) : Mg L0 L' L ks n b := by
 obtain ⟨rfl, ⟨i, j, h1, h2, h3, h4, rfl⟩ | ⟨c, d, h1, h2, h3, rfl⟩⟩ | ⟨rfl, rfl⟩ := k
 ·refine ⟨h.rows (fun r => Ik) (fun X hX => OI h1 h2 h3 h4 hX), HE hr i, Nat.le_of_lt (I3 h1), fun _ => I3 h1, ?_⟩
  unfold FI
  rw [List.length_append, List.length_take, List.length_drop]; omega
 ·exact ⟨h.cols h2 h3, BJ hr c, CR c L, fun _ => xG h1, Nat.le_of_eq (len_le L c)⟩
 ·exact AR h hr
end
end Go.Proofs.YteimkklmmanncaaGreat
