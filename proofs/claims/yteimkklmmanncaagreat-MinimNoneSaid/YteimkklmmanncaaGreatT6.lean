/- The walks of building, of parts, of what holds none, of the least, and of counting. The walks of new diagrams, of telling and listing members, and of marking nodes. Primes as members: what both halves have, and what one alone has, with a literal. No program in it. What is needed for more deeds with  -/
import Derived.Test.YteimkklmmanncaaGreatWZdd3
namespace Go.Proofs.YteimkklmmanncaaGreat
set_option linter.unusedVariables false
set_option linter.unusedSimpArgs false
section
open Go Go.RowKit
theorem yY : dC Tryz.prog 125 = true := by kernel_rfl
def EJ (n : Nat) : Prop := ∀ (N ba bm bz R : Nat) (ns : List Nd) (xl : Value) (l : List Int) (lv : Nat) (w : World), (N ≤ w.heap.size) → (At w bz #[.pointer (some ⟨ba, 0, none⟩)] 141) → (fD 163 188 N ba bm R w ns) → (dM d9 1 w xl l) → (∀ m, m ∈ l → 0 ≤ m ∧ m < 16777216) → (l.length ≤ 1000000) → (lv ≤ 24) → 25 - lv ≤ n →
  qJ Tryz.prog 125 #[.pointer (some ⟨bz, 0, none⟩), xl, .int .i64 (lv : Int)] w fun v w' => PO 163 188 N ba bm R w ns (uM lv l) (lv) (bS l lv) v w'
set_option maxRecDepth 10000 in
theorem KD (n : Nat) (N ba bm bz R : Nat) (ns : List Nd) (xl : Value) (l : List Int) (lv : Nat) (w : World) (ih : EJ n) (hN0 : N ≤ w.heap.size) (hz : At w bz #[.pointer (some ⟨ba, 0, none⟩)] 141) (hD : fD 163 188 N ba bm R w ns) (hl : dM d9 1 w xl l) (hm : ∀ m, m ∈ l → 0 ≤ m ∧ m < 16777216) (hll : l.length ≤ 1000000) (hlv : lv ≤ 24) (hn : 25 - lv ≤ n + 1) :
    qJ Tryz.prog 125 #[.pointer (some ⟨bz, 0, none⟩), xl, .int .i64 (lv : Int)] w fun v w' => PO 163 188 N ba bm R w ns (uM lv l) (lv) (bS l lv) v w' := by
 refine eX (n := 71) Tryz.func125 rfl rfl (Nat.le_of_ble_eq_true rfl) ?_
 have hB : Below N w w := Below.refl _ _
 have hX : Dx 188 N [ba, bm] w w := Dx.refl
 have hwf := hD.wf
 have hroom := hD.room
 have htop := hD.top
 refine Zr <| Zw (.int .i64 0) rfl <| Zw (.int .i64 0) rfl <| cT <| cY fun K3 M => c7 <| Zr <| Zw xl rfl <| Zv (dA (v := xl) rfl hl du) <| Zv (eB rfl rfl) <| Zb rfl <| cT <| ZQ rfl (fun O => ?_) fun O => ?_
 refine Zr <| Zw (.int .i64 0) rfl <| Zw (.int .i64 0) rfl <| cT <| Zt <| dZ (v := .int .i64 0) rfl (v1 := .int .i64 0) rfl ?_
 exact ⟨ns, 0, 0, rfl, hX, hD, jv.same Om (by rw [LR]; exact hlv) (KH Om)⟩
 refine Zr <| Zi rfl <| Zv (eB rfl rfl) <| Zb rfl <| cT <| ZQ rfl (fun P => ?_) fun P => ?_
 refine Zr <| Zw (.int .i64 1) rfl <| Zw (.int .i64 0) rfl <| cT <| Zt <| dZ (v := .int .i64 1) rfl (v1 := .int .i64 0) rfl ?_
 obtain rfl : lv = 24 := by omega
 exact ⟨ns, 1, 0, rfl, hX, hD, jv.same Om (by rw [kL Dd]; exact hlv) (Kv Om hm)⟩
 refine c9 <| M _ _ ?_
 have p := hB
 replace hB := Below.refl w.heap.size w
 have hne : 1 ≤ l.length := by omega
 have h24 : lv < 24 := by omega
 refine Zr <| Zw (.slice none 0 0) rfl <| Zw (.slice none 0 0) rfl <| cT <| cY fun ap Q => Zr <| Zw xl rfl <| Zv (dA (v := xl) rfl (Below.slT hB hl) du) <| Zw (.int .i64 0) rfl <| cT <| c7 ?_
 refine dw (σ := (Nat) × (Value) × (Value)) [8, 9, 11, 24, 25, 26, 27, 28, 29, 30, 31, 32, 33, 34, 35, 36, 37, 38, 39, 40, 41] (fun (k, v0, v1) => [(24, .int .i64 (k : Int)), (8, v0), (9, v1)]) (fun sg W => match sg with | (k, v0, v1) => (Below w.heap.size w W) ∧ (dh d9 1 3 W w.heap.size v0 (x5 l lv k)) ∧ (dh d9 1 3 W w.heap.size v1 (yb l lv k)) ∧ (eO v0 v1) ∧ (k ≤ l.length) ∧ (True)) (fun (k, v0, v1) => l.length - k) ((0, .slice none 0 0, .slice none 0 0)) ⟨rfl, rfl, rfl, trivial⟩ ⟨hB, dh.nil, dh.nil, eO.nilL, (Nat.zero_le _), trivial⟩ ?_
 clear hB
 rintro ⟨k, v0, v1⟩ aq ar ⟨hB, ho, hoo, hap, hk, _⟩ au C
 refine Zr <| Zv (dL rfl rfl) <| cT <| cY fun av S => ZQ rfl (fun T => ?_) fun T => ?_
 refine c9 <| S _ _ <| cY fun aw D => c7 <| Zr <| Zv (dJ (v := xl) rfl (Below.slT hB hl) rfl du Om Om) <| Zv (dk (v := .int .i64 _) rfl dB (dM.cell (Below.slT hB hl) eD 0 Om Om 0 rfl)) <| Zi rfl <| cT ?_
 obtain ⟨U, ax⟩ := hm (l.getD k 0) (dS (by omega))
 have hbl : (l.getD k 0).toNat < 9223372036854775808 := by omega
 have hwl := He l lv k
 rw [List.length_take] at hwl
 refine Zr <| Zi rfl <| Zi rfl <| Zv (OO rfl rfl U Om Om) <| Zv (nE (n := 1) rfl rfl rfl (by exact Nat.lt_of_le_of_lt (Nat.div_le_self _ _) hbl) Dd) <| Zv (eB rfl rfl) <| cT <| ZQ rfl (fun r => ?_) fun r => ?_
 have hbt : (l.getD k 0).toNat.testBit lv = true := zZ.1 r
 refine cZ <| Zw v1 rfl <| Zi rfl <| Zy (fc (u := .int .i64 _) rfl du fv rfl Dd Dd fun s ay e t V => ?_)
 have az := ZO e hB
 have aA := dh.neB (b := s) ho (Nat.le_of_eq e.symm)
 have aB := dh.neB (b := s) hoo (Nat.le_of_eq e.symm)
 clear e
 replace hB := Ze hB t
 replace ho := t.ow ho
 replace hoo := t.ow hoo
 refine Zy (jr (v := v1) (v2 := .slice (some ⟨s, 0, none⟩) 1 1) rfl rfl du fv Dd hoo (fG V rfl) rfl (by have := Below.size hB; omega) (by first | omega | (simp; omega)) (by first | omega | (simp; omega)) fun E aC F f X => ?_)
 have Y := eO.app (eO.symm hap) X ho
 replace f := dh.snoc (enc := d9) (x := (l.getD k 0)) rfl rfl rfl rfl f
 replace hB := ZG hB F hoo
 replace ho := dh.grownAp ho (eO.symm hap) F
 clear hoo
 refine Zw E rfl <| cT <| D _ _ <| cZ <| Zv (dp rfl rfl Om Om) <| Zi rfl <| cT ?_
 exact C _ _ ((k + 1, v0, E)) Za ⟨rfl, rfl, rfl, trivial⟩ ⟨hB, (by first | (rw [← (Kx Om hbt).2]; exact ho) | (rw [← (Kc Om hbt).1]; exact ho)), (by first | (rw [← (Kx Om hbt).1]; exact f) | (rw [← (Kc Om hbt).2]; exact f)), (eO.symm Y), Om, trivial⟩ (by show l.length - (k + 1) < l.length - k; omega)
 have hbt : ¬ (l.getD k 0).toNat.testBit lv = true := fun q => r (zZ.2 q)
 refine cZ <| Zw v0 rfl <| Zi rfl <| Zy (fc (u := .int .i64 _) rfl du fv rfl Dd Dd fun y aD g z Z => ?_)
 have aE := ZO g hB
 have aF := dh.neB (b := y) ho (Nat.le_of_eq g.symm)
 have aG := dh.neB (b := y) hoo (Nat.le_of_eq g.symm)
 clear g
 replace hB := Ze hB z
 replace ho := z.ow ho
 replace hoo := z.ow hoo
 refine Zy (jr (v := v0) (v2 := .slice (some ⟨y, 0, none⟩) 1 1) rfl rfl du fv Dd ho (fG Z rfl) rfl (by have := Below.size hB; omega) (by first | omega | (simp; omega)) (by first | omega | (simp; omega)) fun G aH H i aa => ?_)
 have ab := eO.app hap aa hoo
 replace i := dh.snoc (enc := d9) (x := (l.getD k 0)) rfl rfl rfl rfl i
 replace hB := ZG hB H ho
 replace hoo := dh.grownAp hoo hap H
 clear ho
 refine Zw G rfl <| cT <| D _ _ <| cZ <| Zv (dp rfl rfl Om Om) <| Zi rfl <| cT ?_
 exact C _ _ ((k + 1, G, v1)) Za ⟨rfl, rfl, rfl, trivial⟩ ⟨hB, (by first | (rw [← (Kx Om hbt).2]; exact i) | (rw [← (Kc Om hbt).1]; exact i)), (by first | (rw [← (Kx Om hbt).1]; exact hoo) | (rw [← (Kc Om hbt).2]; exact hoo)), ab, Om, trivial⟩ (by show l.length - (k + 1) < l.length - k; omega)
 refine dr <| Q _ _ ?_
 replace hz := Below.atI hB hz
 replace hD := fD.below hB hD
 replace hX := Dx.trans hX (Dx.below hB)
 clear hl
 have hzs := Nat.le_trans hN0 (Below.size p)
 replace ho := dh.mono ho hzs
 replace hoo := dh.mono hoo hzs
 replace hB := Below.trans p (Below.mono hB hzs)
 clear p hzs
 obtain rfl : k = l.length := by omega
 have hwl := He l lv l.length
 rw [List.take_length] at hwl
 have hbc := H6 (l := l) h24
 refine Zr <| Zp rfl <| Zw v0 rfl <| Zi rfl <| Zv (dp rfl rfl Om Om) <| ZH yY (ih N ba bm bz R ns _ (x5 l lv l.length) (lv + 1) _ (Nat.le_trans hN0 (Below.size hB)) hz hD ho.sl (fun m h => hm m (NV h)) Om Om Om) rfl fun aI aJ ac => ?_
 obtain ⟨ad, I, J, rfl, a, ae, j⟩ := ac
 replace hz := At.dx hD a hz Dd Dd
 replace hX := Dx.trans hX (a)
 replace hB := Below.dx hB (Nat.le_refl _) hN0 a
 replace ho := dh.dx hD a ho Dd Dd
 replace hoo := dh.dx hD a hoo Dd Dd
 replace hD := ae
 refine Zw (.tuple #[.int .i64 (I : Int), .int .i64 J]) rfl <| Zv (dI rfl) <| Zv (dK rfl) <| Zi rfl <| Zi rfl <| cT <| cY fun aK af => Zr <| Zi rfl <| Zv (f7 rfl rfl) <| cT <| ZQ rfl (fun A => ?_) fun A => ?_
 refine Zr <| Zi rfl <| Zw (.int .i64 0) rfl <| Zi rfl <| cT <| Zt <| dZ (v := .int .i64 0) rfl (v1 := .int .i64 _) rfl ?_
 exact ⟨_, 0, _, rfl, hX, hD, j.fail A Om⟩
 refine c9 <| af _ _ ?_
 have he : J = 0 := Decidable.of_not_not A
 subst he
 refine Zr <| Zp rfl <| Zw v1 rfl <| Zi rfl <| Zv (dp rfl rfl Om Om) <| ZH yY (ih N ba bm bz R ad _ (yb l lv l.length) (lv + 1) _ (Nat.le_trans hN0 (Below.size hB)) hz hD hoo.sl (fun m h => hm m (Oo h)) Om Om Om) rfl fun aL aM ag => ?_
 obtain ⟨ah, K, L, rfl, c, ai, o⟩ := ag
 replace hz := At.dx hD c hz Dd Dd
 replace hX := Dx.trans hX (c)
 replace hB := Below.dx hB (Nat.le_refl _) hN0 c
 replace ho := dh.dx hD c ho Dd Dd
 replace hoo := dh.dx hD c hoo Dd Dd
 replace hD := ai
 refine Zw (.tuple #[.int .i64 (K : Int), .int .i64 L]) rfl <| Zv (dI rfl) <| Zv (dK rfl) <| Zi rfl <| Zi rfl <| cT <| cY fun aN aj => Zr <| Zi rfl <| Zv (f7 rfl rfl) <| cT <| ZQ rfl (fun B => ?_) fun B => ?_
 refine Zr <| Zi rfl <| Zw (.int .i64 0) rfl <| Zi rfl <| cT <| Zt <| dZ (v := .int .i64 0) rfl (v1 := .int .i64 _) rfl ?_
 exact ⟨_, 0, _, rfl, hX, hD, j.fail2 o B Om⟩
 refine c9 <| aj _ _ ?_
 have he : L = 0 := Decidable.of_not_not B
 subst he
 have hw16 := hD.wf
 obtain ⟨v1, aO, _⟩ := j.ok rfl
 obtain ⟨p1, _, p3⟩ := o.old v1
 obtain ⟨q1, q2, _⟩ := o.ok rfl
 refine Zr <| Zp rfl <| Zi rfl <| Zi rfl <| Zi rfl <| ZH EA (m0 N ba bm bz R ah lv I K _ (Nat.le_trans hN0 (Below.size hB)) hz hD p1 q1 Om Om h24) rfl fun aP aQ ak => ?_
 obtain ⟨aR, aS, aT, rfl, d, al, ao⟩ := ak
 replace hz := At.dx hD d hz Dd Dd
 replace hX := Dx.trans hX (d)
 replace hB := Below.dx hB (Nat.le_refl _) hN0 d
 replace ho := dh.dx hD d ho Dd Dd
 replace hoo := dh.dx hD d hoo Dd Dd
 replace hD := al
 refine Zv (dI rfl) <| Zv (dK rfl) <| Zi rfl <| Zi rfl <| cT <| Zt <| dZ (v := .int .i64 _) rfl (v1 := .int .i64 _) rfl ?_
 exact ⟨_, _, _, rfl, hX, hD, Gf hw16 h24 hne j o ao⟩
theorem AC : ∀ n, EJ n
  | 0 => fun N ba bm bz R ns xl l lv w _ _ _ _ _ _ hlv hn => by omega
  | n + 1 => fun N ba bm bz R ns xl l lv w => KD n N ba bm bz R ns xl l lv w (AC n)
theorem oR (N ba bm bz R : Nat) (ns : List Nd) (xl : Value) (l : List Int) (w : World) (hN0 : N ≤ w.heap.size) (hz : At w bz #[.pointer (some ⟨ba, 0, none⟩)] 141) (hD : fD 163 188 N ba bm R w ns) (hl : dM d9 1 w xl l) (hll : l.length ≤ 1000000) :
    qJ Tryz.prog 105 #[.pointer (some ⟨bz, 0, none⟩), xl] w fun v w' => PE 163 188 N ba bm R w ns (yP l) (uM 0 l) (0) (bS l 0) v w' := by
 refine eX (n := 28) Tryz.func105 rfl rfl (Nat.le_of_ble_eq_true rfl) ?_
 have hB : Below N w w := Below.refl _ _
 have hX : Dx 188 N [ba, bm] w w := Dx.refl
 have hwf := hD.wf
 have hroom := hD.room
 have htop := hD.top
 refine Zr <| Zw (.int .i64 0) rfl <| Zw (.int .i64 0) rfl <| cT <| cY fun K3 d => Zr <| Zp rfl <| Zv (pu rfl rfl Tryz.underlying102) <| cT <| d4 rfl <| c9 <| d _ _ <| cY fun K7 e => Zr ?_
 refine Zw xl rfl <| Zv (dA (v := xl) rfl hl du) <| Zw (.int .i64 0) rfl <| cT <| c7 ?_
 refine dw (σ := (Nat)) [4, 5, 7, 12, 13, 14, 15, 16, 17, 18, 19, 20, 21, 22] (fun k => [(12, .int .i64 (k : Int))]) (fun k W => (At W bz _ 141) ∧ (fD 163 188 N ba bm R W ns) ∧ (Dx 188 N [ba, bm] w W) ∧ (dM d9 1 W xl _) ∧ (Below N w W) ∧ (k ≤ l.length) ∧ (∀ q, q < k → 0 ≤ l.getD q 0 ∧ l.getD q 0 < 16777216) ∧ (True)) (fun k => l.length - k) (0) ⟨rfl, trivial⟩ ⟨hz, hD, hX, hl, hB, (Nat.zero_le _), ff, trivial⟩ ?_
 clear hz hD hX hl hB
 rintro k p r ⟨hz, hD, hX, hl, hB, hk, hq, _⟩ s f
 refine Zr <| Zv (dL rfl rfl) <| cT <| cY fun t g => ZQ rfl (fun h => ?_) fun h => ?_
 refine c9 <| g _ _ <| cY fun u i => c7 <| Zr <| Zv (dJ (v := xl) rfl hl rfl du Om Om) <| Zv (dk (v := .int .i64 _) rfl dB (dM.cell hl eD 0 Om Om 0 rfl)) <| Zi rfl <| cT <| Zr <| Zi rfl <| Zv (dL rfl rfl) <| ZX rfl (fun a => ?_) fun a => ?_
 refine Zs <| Zs <| Zw (.bool true) rfl <| cT <| dz rfl <| Zr <| Zw (.int .i64 0) rfl <| Zw (.int .i64 1) rfl <| cT <| Zt <| dZ (v := .int .i64 0) rfl (v1 := .int .i64 1) rfl ?_
 exact ⟨ns, 0, 1, rfl, hX, hD, .inr ⟨Mj (k := k) Om (.inl a), rfl, rfl, rfl⟩⟩
 refine Zi rfl <| Zv (nJ rfl rfl) <| Zb rfl <| cT <| ZQ rfl (fun b => ?_) fun b => ?_
 refine Zr <| Zw (.int .i64 0) rfl <| Zw (.int .i64 1) rfl <| cT <| Zt <| dZ (v := .int .i64 0) rfl (v1 := .int .i64 1) rfl ?_
 exact ⟨ns, 0, 1, rfl, hX, hD, .inr ⟨Mj (k := k) Om (.inr b), rfl, rfl, rfl⟩⟩
 refine c9 <| i _ _ <| cZ <| Zv (dp rfl rfl Om Om) <| Zi rfl <| cT ?_
 exact f _ _ (k + 1) Za ⟨rfl, trivial⟩ ⟨hz, hD, hX, hl, hB, Om, (ey hq ⟨Int.not_lt.1 a, Int.not_le.1 b⟩), trivial⟩ Zo
 refine dr <| e _ _ ?_
 have hok := LX (l := l) (k := k) (by omega) hq
 refine Zr <| Zp rfl <| Zw xl rfl <| ZH yY (AC 25 N ba bm bz R ns _ l 0 _ (Nat.le_trans hN0 (Below.size hB)) hz hD hl (qn.1 hok) hll Om Om) rfl fun x y j => ?_
 obtain ⟨z, A, B, rfl, c, m, o⟩ := j
 replace hz := At.dx hD c hz Dd Dd
 replace hX := Dx.trans hX (c)
 try clear hl
 replace hB := Below.dx hB (Nat.le_refl _) hN0 c
 replace hD := m
 refine Zv (dI rfl) <| Zv (dK rfl) <| Zi rfl <| Zi rfl <| cT <| Zt <| dZ (v := .int .i64 _) rfl (v1 := .int .i64 _) rfl ?_
 exact ⟨_, _, _, rfl, hX, hD, .inl ⟨hok, o⟩⟩
end
section
open Go Go.RowKit
theorem KA : eL Tryz.prog 163 = some (.agg #[.int .i64 0, .slice none 0 0, .map none]) := by kernel_rfl
theorem Ca : (Tryz.prog.info? 160).map (·.size) = some 1 := by kernel_rfl
theorem Co : (Tryz.prog.info? 161).map (·.size) = some 1 := by kernel_rfl
theorem t7 {f : Nat → Value} {w : World} {d : Option Nat} {ty : TypeId} {ps : String} {af : Array Edge} {g : Option (Nat × Bool)} {x0 x1 : Operand} {c0_0 c1_0 : Value} (h0 : dO f x0 = c0_0) (k0 : c0_0.cells = #[c0_0]) (h1 : dO f x1 = c1_0) (k1 : c1_0.cells = #[c1_0]) :
    (execOp (dO f) ⟨d, .build 163 #[(0, x0), (2, x1)], ty, ps, af, g⟩).run Tryz.prog w = .ok (.value (.agg #[c0_0, .slice none 0 0, c1_0])) w := by
  obtain ⟨i0, hi0, hz0⟩ := Option.bind_eq_some_iff.1 (show (Tryz.prog.info? 163).bind (·.zero) = _ from KA)
  obtain ⟨j3, hj3, hs3⟩ := Option.map_eq_some_iff.1 ik
  obtain ⟨j160, hj160, hs160⟩ := Option.map_eq_some_iff.1 Ca
  obtain ⟨j161, hj161, hs161⟩ := Option.map_eq_some_iff.1 Co
  simp [execOp, h0, k0, h1, k1, Instr.build, zeroValue, typeInfo, sizeOf, hi0, hz0, run_underlying Tryz.underlying163, Instr.fill, eW, hj3, hs3, hj160, hs160, hj161, hs161]
theorem NS : dC Tryz.prog 99 = true := by kernel_rfl
theorem J7 : eL Tryz.prog 141 = some (.agg #[.pointer none]) := by kernel_rfl
theorem De : (Tryz.prog.info? 137).map (·.size) = some 1 := by kernel_rfl
theorem xh {f : Nat → Value} {w : World} {d : Option Nat} {ty : TypeId} {ps : String} {af : Array Edge} {g : Option (Nat × Bool)} {x0 : Operand} {c0_0 : Value} (h0 : dO f x0 = c0_0) (k0 : c0_0.cells = #[c0_0]) :
    (execOp (dO f) ⟨d, .build 141 #[(0, x0)], ty, ps, af, g⟩).run Tryz.prog w = .ok (.value (.agg #[c0_0])) w := by
  obtain ⟨i0, hi0, hz0⟩ := Option.bind_eq_some_iff.1 (show (Tryz.prog.info? 141).bind (·.zero) = _ from J7)
  obtain ⟨j137, hj137, hs137⟩ := Option.map_eq_some_iff.1 De
  simp [execOp, h0, k0, Instr.build, zeroValue, typeInfo, sizeOf, hi0, hz0, run_underlying Tryz.underlying141, Instr.fill, eW, hj137, hs137]
theorem AG (R : Nat) (w : World) (hR : R ≤ 20000) :
    Fn Tryz.prog 99 #[.int .i64 (R : Int)] w fun v w' => ∃ ba bm, v = .tuple #[.pointer (some ⟨ba, 0, none⟩), .int .i64 0] ∧ fD 163 188 w.heap.size ba bm R w' [] := by
 refine dq (n := 14) Tryz.func99 rfl rfl (Nat.le_of_ble_eq_true rfl) ?_
 have hB : Below w.heap.size w w := Below.refl _ _
 refine Zr <| Zw (.pointer none) rfl <| Zw (.int .i64 0) rfl <| cT <| cY fun K3 h => Zr <| Zi rfl <| Zv (dL rfl rfl) <| ZX rfl (fun b => ?_) fun b => ?_
 exact absurd b Om
 refine Zi rfl <| Zv (iQ rfl rfl) <| Zb rfl <| cT <| ZQ rfl (fun d => ?_) fun d => ?_
 exact absurd d Om
 refine c9 <| h _ _ <| Zr <| Zi rfl <| Zy (gE (enc := tk) (encV := eK) fun i W9 e j a => ?_)
 have k := ZO e hB
 clear e
 replace hB := Ze hB j
 refine Zv (t7 (h0 := rfl) (k0 := rfl) (h1 := rfl) (k1 := rfl) (c0_0 := .int .i64 _) (c1_0 := .map (some i))) <| Zy (dU (c := #[_, _, _]) rfl rfl fun l p f g m => ?_)
 have o := ZO f hB
 clear f
 replace hB := Ze hB g
 replace a := g.mapT a
 refine Zp rfl <| Zw (.int .i64 0) rfl <| cT <| Zt <| dZ (v := .pointer (some ⟨l, 0, none⟩)) rfl (v1 := .int .i64 0) rfl ⟨hB, ?_⟩
 exact ⟨_, _, rfl, ⟨⟨_, m, dh.nil⟩, a, o, k, Wf.nil, Nat.zero_le _, hR⟩⟩
theorem Fh (R : Nat) (w : World) (hR : R ≤ 20000) :
    Fn Tryz.prog 65 #[.int .i64 (R : Int)] w fun v w' => ∃ bz ba bm, v = .tuple #[.pointer (some ⟨bz, 0, none⟩), .int .i64 0] ∧ At w' bz #[.pointer (some ⟨ba, 0, none⟩)] 141 ∧ fD 163 188 w.heap.size ba bm R w' [] := by
 refine dq (n := 17) Tryz.func65 rfl rfl (Nat.le_of_ble_eq_true rfl) ?_
 have hB : Below w.heap.size w w := Below.refl _ _
 refine Zr <| Zw (.pointer none) rfl <| Zw (.int .i64 0) rfl <| cT <| Zr <| Zi rfl <| ZC NS (AG _ _ (by first | assumption | omega)) rfl fun k W5 e f => ?_
 have g := (Below.size hB)
 replace hB := Ze hB e
 obtain ⟨ba, bm, rfl, hD⟩ := f
 replace hD := fD.mono hD g
 refine Zw (.tuple #[.pointer (some ⟨ba, 0, none⟩), .int .i64 0]) rfl <| Zv (dI rfl) <| Zv (dK rfl) <| Zp rfl <| Zw (.int .i64 0) rfl <| cT <| cY fun K8 h => Zr <| Zw (.int .i64 0) rfl <| Zv (f7 rfl rfl) <| cT <| ZQ rfl (fun a => ?_) fun a => ?_
 exact absurd rfl a
 refine c9 <| h _ _ <| Zr <| Zp rfl <| Zv (xh (h0 := rfl) (k0 := rfl) (c0_0 := .pointer (some ⟨ba, 0, none⟩))) <| Zy (dU (c := #[_]) rfl rfl fun i l b d j => ?_)
 have m := ZO b hB
 clear b
 replace hB := Ze hB d
 replace hD := fD.ext d hD
 refine Zp rfl <| Zw (.int .i64 0) rfl <| cT <| Zt <| dZ (v := .pointer (some ⟨i, 0, none⟩)) rfl (v1 := .int .i64 0) rfl ⟨hB, ?_⟩
 exact ⟨_, _, _, rfl, j, hD⟩
end
section
open Go Go.RowKit
def nH (m v : Nat) : Nat → Nat
 | 0 => 0
 | k + 1 => nH m v k + (if m.testBit k = true then 2 ^ (2 * k + (if v.testBit k = true then 1 else 0)) else 0)
def qH (c : Cb) : Nat := nH c.m c.v 8
theorem Nw (k : Nat) : 2 ^ (2 * k) + 2 ^ (2 * k) + 2 ^ (2 * k) + 2 ^ (2 * k) = 2 ^ (2 * (k + 1)) := by
 rw [show 2 * (k + 1) = 2 * k + 1 + 1 by omega, Nat.pow_succ, Nat.pow_succ]
 omega
theorem Kj (k : Nat) : 2 ^ (2 * k + 1) = 2 ^ (2 * k) + 2 ^ (2 * k) := by rw [Nat.pow_succ]; omega
theorem zo (m v : Nat) : ∀ k, nH m v k < 2 ^ (2 * k)
 | 0 => by simp [nH]
 | k + 1 => by
  have ih := zo m v k
  have h1 := Nw k
  have h2 := Kj k
  rw [nH]
  split
  ·split
   ·rw [h2]; omega
   ·rw [Nat.add_zero]; omega
  ·omega
theorem IY {x a e t : Nat} (hx : x < 2 ^ a) (ha : a ≤ e) : (x + 2 ^ e).testBit t = (x.testBit t || decide (t = e)) := by
 have hlt : x < 2 ^ e := Nat.lt_of_lt_of_le hx (Nat.pow_le_pow_right (by decide) ha)
 have h := Nat.two_pow_add_eq_or_of_lt hlt 1
 rw [Nat.mul_one] at h
 rw [Nat.add_comm, h, Nat.testBit_or, Nat.testBit_two_pow, Bool.or_comm]
 by_cases q : t = e
 ·subst q; simp
 ·have : ¬ e = t := fun k => q k.symm
  simp [q, this]
theorem pd (m v : Nat) : ∀ (k j b : Nat), b < 2 → ((nH m v k).testBit (2 * j + b) = true ↔ j < k ∧ m.testBit j = true ∧ v.testBit j = decide (b = 1))
 | 0, j, b, _ => by simp [nH]
 | k + 1, j, b, hb => by
  have ih := pd m v k j b hb
  rw [nH]
  by_cases hm : m.testBit k = true
  ·rw [if_pos hm]
   generalize hv : (if v.testBit k = true then 1 else 0 : Nat) = d
   have hd : d < 2 ∧ v.testBit k = decide (d = 1) := by
    subst hv
    split
    ·rename_i h; exact ⟨by omega, by rw [h]; rfl⟩
    ·rename_i h; exact ⟨by omega, by simpa using h⟩
   rw [IY (zo m v k) (by omega), Bool.or_eq_true, ih, decide_eq_true_iff]
   constructor
   ·rintro (⟨h1, h2, h3⟩ | h)
    ·exact ⟨by omega, h2, h3⟩
    ·obtain rfl : j = k := by omega
     obtain rfl : b = d := by omega
     exact ⟨by omega, hm, hd.2⟩
   ·rintro ⟨h1, h2, h3⟩
    by_cases e : j = k
    ·subst e
     rw [hd.2] at h3
     have : (d = 1) ↔ (b = 1) := decide_eq_decide.1 h3
     exact .inr (by omega)
    ·exact .inl ⟨by omega, h2, h3⟩
  ·rw [if_neg hm, Nat.add_zero, ih]
   constructor
   ·rintro ⟨h1, h2⟩; exact ⟨by omega, h2⟩
   ·rintro ⟨h1, h2, h3⟩
    refine ⟨?_, h2, h3⟩
    by_cases e : j = k
    ·subst e; exact absurd h2 hm
    ·omega
theorem yO {c d : Cb} (h : qH c = qH d) {j : Nat} (hj : j < 8) (hc : c.m.testBit j = true) : d.m.testBit j = true ∧ d.v.testBit j = c.v.testBit j := by
 unfold qH at h
 cases hv : c.v.testBit j with
 | false =>
  have h1 := (pd c.m c.v 8 j 0 (by decide)).2 ⟨hj, hc, hv⟩
  rw [h] at h1
  exact ((pd d.m d.v 8 j 0 (by decide)).1 h1).2
 | true =>
  have h1 := (pd c.m c.v 8 j 1 (by decide)).2 ⟨hj, hc, hv⟩
  rw [h] at h1
  exact ((pd d.m d.v 8 j 1 (by decide)).1 h1).2
theorem Br {c d : Cb} (hc : c.m < 256) (hd : d.m < 256) (vc : c.v &&& c.m = c.v) (vd : d.v &&& d.m = d.v) (h : qH c = qH d) : c = d := by
 have hi : ∀ (a : Nat), a < 256 → ∀ j, 8 ≤ j → a.testBit j = false := fun a ha j hj => (fZ (n := 8)).1 ha j hj
 have em : c.m = d.m := Nat.eq_of_testBit_eq fun j => by
  rcases Nat.lt_or_ge j 8 with hj | hj
  ·cases e1 : c.m.testBit j with
   | true => exact (yO h hj e1).1.symm
   | false =>
    cases e2 : d.m.testBit j with
    | false => rfl
    | true => rw [(yO h.symm hj e2).1] at e1; cases e1
  ·rw [hi _ hc j hj, hi _ hd j hj]
 have ev : c.v = d.v := Nat.eq_of_testBit_eq fun j => by
  rcases Nat.lt_or_ge j 8 with hj | hj
  ·cases e1 : c.m.testBit j with
   | true => exact (yO h hj e1).2.symm
   | false => rw [eU vc, eU vd, ← em, e1, Bool.and_false, Bool.and_false]
  ·rw [eU vc, eU vd, hi _ hc j hj, hi _ hd j hj, Bool.and_false, Bool.and_false]
 cases c; cases d
 simp only [Cb.mk.injEq]
 exact ⟨em, ev⟩
theorem Ax (m v i : Nat) (h : ∀ j, j < i → m.testBit j = false) : ∀ k, 2 ^ (2 * i) ∣ nH m v k
 | 0 => Nat.dvd_zero _
 | k + 1 => by
  rw [nH]
  refine Nat.dvd_add (Ax m v i h k) ?_
  split
  ·rename_i hk
   refine Nat.pow_dvd_pow 2 ?_
   have : ¬ k < i := fun q => by rw [h k q] at hk; cases hk
   omega
  ·exact Nat.dvd_zero _
theorem xK {c : Cb} {i one : Nat} (h1 : one = 0 ∨ one = 1) (hm : c.m.testBit i = false) (hv : c.v.testBit i = false) : ∀ k, nH (iq i one c).m (iq i one c).v k = nH c.m c.v k + (if i < k then 2 ^ (2 * i + one) else 0)
 | 0 => by simp [nH]
 | k + 1 => by
  have ih := xK h1 hm hv k
  have lm := ji c i one k
  have lv : (iq i one c).v.testBit k = (c.v.testBit k || (decide (k = i) && decide (one = 1))) := by
   rcases h1 with rfl | rfl
   ·rw [nf]; simp
   ·rw [mW]; simp
  rw [nH, nH, ih, lm, lv]
  by_cases e : k = i
  ·subst e
   rcases h1 with rfl | rfl <;> simp [hm, hv]
  ·rw [decide_eq_false e, Bool.or_false, Bool.false_and, Bool.or_false]
   by_cases q : i < k
   ·have q2 : i < k + 1 := by omega
    rw [if_pos q, if_pos q2]
    omega
   ·have q2 : ¬ i < k + 1 := by omega
    rw [if_neg q, if_neg q2]
    omega
structure Rt (n : Nat) (c : Cb) : Prop where
 m : c.m < 2 ^ n
 v : c.v &&& c.m = c.v
def D0 (n s : Nat) (c : Cb) : Prop := ∀ p, p < 2 ^ n → hold c p → s.testBit p = true
theorem Nj {n : Nat} (h8 : n ≤ 8) {c : Cb} : dY c.m c.v (n : Int) = true ↔ Rt n c := by
 rw [dW, Int.toNat_natCast]
 exact ⟨fun h => ⟨h.2.2.1, h.2.2.2⟩, fun h => ⟨by omega, by omega, h.m, h.v⟩⟩
theorem D4 {n i : Nat} {c : Cb} (hi : i < 8) (h : Rt n c) : Rt n (i6 c i) := by
 refine ⟨fZ.2 fun j hj => ?_, ?_⟩
 ·show (jx c.m (i : Int)).testBit j = false
  rw [eN hi, fZ.1 h.m j hj, Bool.false_and]
 ·show (c.v &&& jx c.m (i : Int)) &&& jx c.m (i : Int) = _
  rw [Nat.and_assoc, Nat.and_self]
  rfl
theorem fL {n s : Nat} (h8 : n ≤ 8) {c : Cb} : gK c.m c.v s (n : Int) = true ↔ Rt n c ∧ D0 n s c ∧ ∀ i, i < n → c.m.testBit i = true → ¬ D0 n s (i6 c i) := by
 have hw : ∀ d : Cb, o0 d.m d.v s (n : Int) = true ↔ Rt n d ∧ D0 n s d := fun d => by
  have := f6 (s := s) (n := (n : Int)) (c := d)
  rw [Nj h8, Int.toNat_natCast] at this
  exact this
 rw [fY, hw, Int.toNat_natCast]
 constructor
 ·rintro ⟨⟨h1, h2⟩, h3⟩
  refine ⟨h1, h2, fun i hi hb hq => ?_⟩
  have h4 := h3 i hi
  unfold ke at h4
  rw [hb, Bool.true_and] at h4
  have h5 := (hw (i6 c i)).2 ⟨D4 (by omega) h1, hq⟩
  have h6 : o0 (jx c.m (i : Int)) (c.v &&& jx c.m (i : Int)) s (n : Int) = true := h5
  rw [h4] at h6
  cases h6
 ·rintro ⟨h1, h2, h3⟩
  refine ⟨⟨h1, h2⟩, fun i hi => Bool.eq_false_iff.2 fun h4 => ?_⟩
  unfold ke at h4
  obtain ⟨h5, h6⟩ := Bool.and_eq_true_iff.1 h4
  exact h3 i hi h5 ((hw (i6 c i)).1 h6).2
def sO (n s x : Nat) : Prop := ∃ c : Cb, gK c.m c.v s (n : Int) = true ∧ x = qH c
structure tW (n s i : Nat) : Prop where
 le : i ≤ n
 out : ∀ p, p < 256 → s.testBit p = true → p < 2 ^ n
 free : ∀ p j, p < 256 → j < i → s.testBit (p ^^^ 2 ^ j) = s.testBit p
theorem Hu {n s : Nat} (h : ∀ p, p < 256 → s.testBit p = true → p < 2 ^ n) : tW n s 0 := ⟨Nat.zero_le _, h, fun _ j _ hj => absurd hj (Nat.not_lt_zero j)⟩
section
variable {n s t i : Nat}
theorem tW.good (h : tW n s i) : mQ n 0 s i := ⟨h.le, fun p _ hq => (by rw [Nat.zero_testBit] at hq; cases hq), h.out, fun p j _ _ => (by rw [Nat.zero_testBit, Nat.zero_testBit]), h.free⟩
theorem tW.side (h8 : n ≤ 8) (h : tW n s i) (hi : i < n) (x : Bool) : tW n (dm s i x) (i + 1) := by
 have g := h.good.side h8 hi x
 exact ⟨g.le, g.out, g.freeM⟩
theorem tW.and (h : tW n s i) (k : tW n t i) : tW n (s &&& t) i := by
 refine ⟨h.le, fun p hp hq => ?_, fun p j hp hj => ?_⟩
 ·rw [Nat.testBit_and, Bool.and_eq_true] at hq
  exact h.out p hp hq.1
 ·rw [Nat.testBit_and, Nat.testBit_and, h.free p j hp hj, k.free p j hp hj]
theorem tW.lt (h8 : n ≤ 8) (h : tW n s i) (h0 : ¬ wR s 0 = true) (h1 : ¬ wR s (fj n) = true) : i < n := by
 rcases Nat.lt_or_ge i n with k | k
 ·exact k
 ·obtain rfl : i = n := by have := h.le; omega
  have g : mQ i s s i := ⟨h.le, fun _ _ q => q, h.out, h.free, h.free⟩
  rcases g.end h8 with q | q
  ·exact absurd q h0
  ·exact absurd q h1
theorem L9 {c : Cb} {j : Nat} (hj : j < 8) (hv : c.v &&& c.m = c.v) (hb : c.m.testBit j = false) : i6 c j = c := by
 have e : jx c.m (j : Int) = c.m := Nat.eq_of_testBit_eq fun q => by
  rw [eN hj]
  by_cases k : q = j
  ·subst k; rw [hb]; rfl
  ·simp [k]
 show Cb.mk (jx c.m (j : Int)) (c.v &&& jx c.m (j : Int)) = c
 rw [e, hv]
theorem BM (h8 : n ≤ 8) {c : Cb} (hc : Rt n c) {j : Nat} (hj : j < n) (hf : ∀ p, p < 2 ^ n → s.testBit (p ^^^ 2 ^ j) = s.testBit p) (h : D0 n s c) : D0 n s (i6 c j) := by
 intro p hp hh
 by_cases hb : c.m.testBit j = true
 ·have hh' : p &&& jx c.m (j : Int) = c.v &&& jx c.m (j : Int) := hh
  rcases (xL (by omega) hb hc.v).1 hh' with k | k
  ·exact h p hp k
  ·rw [← hf p hp]
   refine h _ (yI hj hp) ?_
   unfold hold
   refine Nat.eq_of_testBit_eq fun q => ?_
   have e := congrArg (fun x => x.testBit q) k
   simp only [Nat.testBit_and, mZ] at e ⊢
   by_cases e2 : q = j
   ·subst e2
    rw [if_pos rfl]
    rw [if_pos rfl, hb, Bool.and_true] at e
    rw [hb, Bool.and_true, e, Bool.not_not]
   ·rw [if_neg e2] at e ⊢
    exact e
 ·refine h p hp ?_
  have e : i6 c j = c := L9 (by omega) hc.v (by simpa using hb)
  rw [e] at hh
  exact hh
theorem qW (h8 : n ≤ 8) (h : tW n s i) {c : Cb} (hp : gK c.m c.v s (n : Int) = true) {j : Nat} (hj : j < i) : c.m.testBit j = false := by
 obtain ⟨h1, h2, h3⟩ := (fL h8).1 hp
 have hle := h.le
 have h256 := fT h8
 refine Bool.eq_false_iff.2 fun hb => h3 j (by omega) hb ?_
 exact BM h8 h1 (by omega) (fun p hp => h.free p j (by omega) hj) h2
theorem sE (h8 : n ≤ 8) (h : tW n s i) {x : Nat} (hx : sO n s x) : 2 ^ (2 * i) ∣ x := by
 obtain ⟨c, hc, rfl⟩ := hx
 exact Ax _ _ _ (fun j hj => qW h8 h hc hj) 8
theorem zD (h8 : n ≤ 8) {x : Nat} (hx : sO n s x) : x < 2 ^ (2 * n) := by
 obtain ⟨c, hc, rfl⟩ := hx
 obtain ⟨h1, _, _⟩ := (fL h8).1 hc
 have key : ∀ d, nH c.m c.v (n + d) = nH c.m c.v n := fun d => by
  induction d with
  | zero => rfl
  | succ d ih => rw [← Nat.add_assoc, nH, fZ.1 h1.m (n + d) (by omega), ih]; simp
 unfold qH
 rw [show 8 = n + (8 - n) by omega, key]
 exact zo _ _ _
theorem Ph (h8 : n ≤ 8) (h : wR s 0 = true) (x : Nat) : ¬ sO n s x := by
 rintro ⟨c, hc, rfl⟩
 obtain ⟨h1, h2, _⟩ := (fL h8).1 hc
 have h256 := fT h8
 have hv : c.v < 2 ^ n := fZ.2 fun j hj => by rw [eU h1.v, fZ.1 h1.m j hj, Bool.and_false]
 have h3 := h2 c.v hv h1.v
 rw [qj.1 h c.v (by omega), Nat.zero_testBit] at h3
 cases h3
theorem KU (h8 : n ≤ 8) (h : wR s (fj n) = true) (x : Nat) : sO n s x ↔ x = 0 := by
 have h256 := fT h8
 have all : ∀ c, D0 n s c := fun c p hp _ => by rw [qj.1 h p (by omega), fP]; exact decide_eq_true hp
 constructor
 ·rintro ⟨c, hc, rfl⟩
  obtain ⟨h1, h2, h3⟩ := (fL h8).1 hc
  have hm : ∀ j, c.m.testBit j = false := fun j => by
   rcases Nat.lt_or_ge j n with k | k
   ·exact Bool.eq_false_iff.2 fun hb => h3 j k hb (all _)
   ·exact fZ.1 h1.m j k
  have key : ∀ k, nH c.m c.v k = 0 := fun k => by
   induction k with
   | zero => rfl
   | succ k ih => rw [nH, ih, hm]; rfl
  exact key 8
 ·rintro rfl
  refine ⟨⟨0, 0⟩, (fL h8).2 ⟨⟨Nat.two_pow_pos n, rfl⟩, all _, fun i _ hb => ?_⟩, rfl⟩
  rw [Nat.zero_testBit] at hb; cases hb
theorem uh (h8 : n ≤ 8) (hi : i < n) {c : Cb} (hc : Rt n c) (hm : c.m.testBit i = false) (b : Bool) : D0 n (dm s i b) c ↔ D0 n s (iq i (if b = true then 1 else 0) c) := by
 have h256 := fT h8
 have h1 : (if b = true then 1 else 0 : Nat) = 0 ∨ (if b = true then 1 else 0 : Nat) = 1 := by cases b; exact .inl rfl; exact .inr rfl
 have hb : decide ((if b = true then 1 else 0 : Nat) = 1) = b := by cases b <;> rfl
 constructor
 ·intro h p hp hh
  obtain ⟨k1, k2⟩ := (sx h1 hc.v hm).1 hh
  rw [hb] at k1
  have := ((fM (by omega)).1 (h p hp k2)).2
  rwa [kd k1] at this
 ·intro h p hp hh
  refine (fM (by omega)).2 ⟨by omega, h _ ((kc hi).2 hp) ((sx h1 hc.v hm).2 ⟨?_, (wn hm).2 hh⟩)⟩
  rw [iK, if_pos rfl, hb]
theorem un (h8 : n ≤ 8) (hi : i < n) {c : Cb} (hm : c.m.testBit i = false) : D0 n (dm s i false &&& dm s i true) c ↔ D0 n s c := by
 have h256 := fT h8
 constructor
 ·intro h p hp hh
  have h2 := h p hp hh
  rw [Nat.testBit_and, Bool.and_eq_true] at h2
  cases hb : p.testBit i with
  | false => have := ((fM (by omega)).1 h2.1).2; rwa [kd hb] at this
  | true => have := ((fM (by omega)).1 h2.2).2; rwa [kd hb] at this
 ·intro h p hp hh
  rw [Nat.testBit_and, Bool.and_eq_true]
  exact ⟨(fM (by omega)).2 ⟨by omega, h _ ((kc hi).2 hp) ((wn hm).2 hh)⟩, (fM (by omega)).2 ⟨by omega, h _ ((kc hi).2 hp) ((wn hm).2 hh)⟩⟩
theorem p6 {c : Cb} {j q : Nat} (hj : j < 8) : (i6 c j).m.testBit q = (c.m.testBit q && decide (q ≠ j)) := eN hj q
theorem Ej {c : Cb} {i j one : Nat} (hi : i < 8) (hj : j < 8) (hij : ¬ j = i) (h1 : one = 0 ∨ one = 1) (hv : c.v.testBit i = false) : i6 (iq i one c) j = iq i one (i6 c j) := by
 have e1 : (i6 (iq i one c) j).m = (iq i one (i6 c j)).m := Nat.eq_of_testBit_eq fun q => by
  rw [p6 hj, ji, ji, p6 hj]
  by_cases e : q = i
  ·subst e; have : ¬ q = j := fun k => hij k.symm; simp [this]
  ·simp [e]
 have vv : ∀ (d : Cb) (q : Nat), (i6 d j).v.testBit q = (d.v.testBit q && (d.m.testBit q && decide (q ≠ j))) := fun d q => by
  show (d.v &&& jx d.m (j : Int)).testBit q = _
  rw [Nat.testBit_and, eN hj]
 have e2 : (i6 (iq i one c) j).v = (iq i one (i6 c j)).v := Nat.eq_of_testBit_eq fun q => by
  rw [vv, ji]
  rcases h1 with rfl | rfl
  ·rw [nf, nf, vv]
   by_cases e : q = i
   ·subst e
    rw [hv, Bool.false_and, Bool.false_and]
   ·simp [e]
  ·rw [mW, mW, vv]
   by_cases e : q = i
   ·subst e; have : ¬ q = j := fun k => hij k.symm; simp [this]
   ·simp [e]
 cases h : i6 (iq i one c) j
 cases k : iq i one (i6 c j)
 rw [h, k] at e1 e2
 simp_all
theorem N1 {c : Cb} {one : Nat} (h1 : one = 0 ∨ one = 1) (hi : i < n) (hc : Rt n c) : Rt n (iq i one c) := by
 refine ⟨fZ.2 fun j hj => ?_, Nat.eq_of_testBit_eq fun j => ?_⟩
 ·rw [ji, fZ.1 hc.m j hj, Bool.false_or, decide_eq_false (by omega)]
 ·have hb := eU hc.v j
  rw [Nat.testBit_and, ji]
  rcases h1 with rfl | rfl
  ·rw [nf, hb]
   cases c.v.testBit j <;> cases c.m.testBit j <;> rfl
  ·rw [mW]
   by_cases e : j = i
   ·subst e; simp
   ·simp only [decide_eq_false e, Bool.or_false]
    rw [hb]
    cases c.v.testBit j <;> cases c.m.testBit j <;> rfl
theorem HD (hi : i < n) (h8 : n ≤ 8) {c : Cb} (hc : Rt n c) (hm : c.m.testBit i = true) : c = iq i (if c.v.testBit i = true then 1 else 0) (i6 c i) := by
 have hi8 : i < 8 := by omega
 have vv : ∀ q : Nat, (i6 c i).v.testBit q = (c.v.testBit q && (c.m.testBit q && decide (q ≠ i))) := fun q => by
  show (c.v &&& jx c.m (i : Int)).testBit q = _
  rw [Nat.testBit_and, eN hi8]
 have e1 : c.m = (iq i (if c.v.testBit i = true then 1 else 0) (i6 c i)).m := Nat.eq_of_testBit_eq fun q => by
  rw [ji, p6 hi8]
  by_cases e : q = i
  ·subst e; simp [hm]
  ·simp [e]
 have e2 : c.v = (iq i (if c.v.testBit i = true then 1 else 0) (i6 c i)).v := Nat.eq_of_testBit_eq fun q => by
  have hb := eU hc.v q
  cases hv : c.v.testBit i with
  | false =>
   rw [if_neg (by decide), nf, vv]
   by_cases e : q = i
   ·subst e; simp [hv]
   ·simp only [ne_eq, e, not_false_eq_true, decide_true, Bool.and_true]; exact hb
  | true =>
   rw [if_pos rfl, mW, vv]
   by_cases e : q = i
   ·subst e; simp [hv]
   ·simp only [ne_eq, e, not_false_eq_true, decide_true, Bool.and_true, decide_false, Bool.or_false]; exact hb
 cases h : iq i (if c.v.testBit i = true then 1 else 0) (i6 c i)
 rw [h] at e1 e2
 cases c
 simp only [Cb.mk.injEq]
 exact ⟨e1, e2⟩
theorem FD (h8 : n ≤ 8) (h : tW n s i) (hi : i < n) (x : Nat) :
  sO n s x ↔ sO n (dm s i false &&& dm s i true) x ∨ (∃ y, (sO n (dm s i false) y ∧ ¬ sO n (dm s i false &&& dm s i true) y) ∧ x = y + 2 ^ (2 * i)) ∨ (∃ y, (sO n (dm s i true) y ∧ ¬ sO n (dm s i false &&& dm s i true) y) ∧ x = y + 2 ^ (2 * i + 1)) := by
 have hi8 : i < 8 := by omega
 have h256 := fT h8
 have hS := fun b => h.side h8 hi b
 have hC := (hS false).and (hS true)
 have wsub : ∀ b c, D0 n (dm s i false &&& dm s i true) c → D0 n (dm s i b) c := fun b c k p hp hh => by
  have := k p hp hh
  rw [Nat.testBit_and, Bool.and_eq_true] at this
  cases b with
  | false => exact this.1
  | true => exact this.2
 have one : ∀ b : Bool, (if b = true then 1 else 0 : Nat) = 0 ∨ (if b = true then 1 else 0 : Nat) = 1 := fun b => by cases b; exact .inl rfl; exact .inr rfl
 have A : ∀ c : Cb, c.m.testBit i = false → (gK c.m c.v s (n : Int) = true ↔ gK c.m c.v (dm s i false &&& dm s i true) (n : Int) = true) := fun c hm => by
  rw [fL h8, fL h8, un h8 hi hm]
  refine and_congr_right fun hc => and_congr_right fun _ => ?_
  refine forall_congr' fun j => forall_congr' fun hj => forall_congr' fun hb => not_congr ?_
  exact (un h8 hi (by rw [p6 (by omega), hm, Bool.false_and])).symm
 have B : ∀ (b : Bool) (c : Cb), Rt n c → c.m.testBit i = false → (gK (iq i (if b = true then 1 else 0) c).m (iq i (if b = true then 1 else 0) c).v s (n : Int) = true ↔ gK c.m c.v (dm s i b) (n : Int) = true ∧ ¬ gK c.m c.v (dm s i false &&& dm s i true) (n : Int) = true) := fun b c hc hm => by
  have hv : c.v.testBit i = false := by rw [eU hc.v, hm, Bool.and_false]
  have hrt := N1 (one b) hi hc
  have drop : i6 (iq i (if b = true then 1 else 0) c) i = c := by
   have e1 : (i6 (iq i (if b = true then 1 else 0) c) i).m = c.m := Nat.eq_of_testBit_eq fun q => by
    rw [p6 hi8, ji]
    by_cases e : q = i
    ·subst e; simp [hm]
    ·simp [e]
   have e2 : (i6 (iq i (if b = true then 1 else 0) c) i).v = c.v := Nat.eq_of_testBit_eq fun q => by
    show ((iq i (if b = true then 1 else 0) c).v &&& jx (iq i (if b = true then 1 else 0) c).m (i : Int)).testBit q = _
    have hb := eU hc.v q
    rw [Nat.testBit_and, eN hi8, ji]
    by_cases e : q = i
    ·subst e; rw [hv]; simp
    ·cases b with
     | false => rw [if_neg (by decide), nf]; simp only [decide_false, Bool.or_false, ne_eq, e, not_false_eq_true, decide_true, Bool.and_true]; exact hb.symm
     | true => rw [if_pos rfl, mW]; simp only [decide_false, Bool.or_false, ne_eq, e, not_false_eq_true, decide_true, Bool.and_true]; exact hb.symm
   cases k : i6 (iq i (if b = true then 1 else 0) c) i
   rw [k] at e1 e2
   cases c
   simp only [Cb.mk.injEq]
   exact ⟨e1, e2⟩
  rw [fL h8, fL h8]
  constructor
  ·rintro ⟨_, h2, h3⟩
   have g2 := (uh h8 hi hc hm b).2 h2
   refine ⟨⟨hc, g2, fun j hj hb hq => ?_⟩, fun hp => ?_⟩
   ·have hji : ¬ j = i := fun e => by rw [e, hm] at hb; cases hb
    refine h3 j hj (by rw [ji, hb, Bool.true_or]) ?_
    rw [Ej hi8 (by omega) hji (one b) hv]
    exact (uh h8 hi (D4 (by omega) hc) (by rw [p6 (by omega), hm, Bool.false_and]) b).1 hq
   ·refine h3 i hi (by rw [ji, decide_eq_true rfl, Bool.or_true]) ?_
    rw [drop]
    exact (un h8 hi hm).1 ((fL h8).1 hp).2.1
  ·rintro ⟨⟨_, h2, h3⟩, hn⟩
   refine ⟨hrt, (uh h8 hi hc hm b).1 h2, fun j hj hb hq => ?_⟩
   by_cases hji : j = i
   ·subst hji
    rw [drop] at hq
    have g := (un h8 hi hm).2 hq
    exact hn ((fL h8).2 ⟨hc, g, fun q hq2 hb2 hw => h3 q hq2 hb2 (wsub b _ hw)⟩)
   ·rw [ji, decide_eq_false hji, Bool.or_false] at hb
    rw [Ej hi8 (by omega) hji (one b) hv] at hq
    exact h3 j hj hb ((uh h8 hi (D4 (by omega) hc) (by rw [p6 (by omega), hm, Bool.false_and]) b).2 hq)
 have inj : ∀ c d : Cb, Rt n c → Rt n d → qH c = qH d → c = d := fun c d hc hd e => Br (by have := hc.m; omega) (by have := hd.m; omega) hc.v hd.v e
 have nz : ∀ (b : Bool) (c : Cb), gK c.m c.v (dm s i b) (n : Int) = true → Rt n c ∧ c.m.testBit i = false := fun b c hc => ⟨((fL h8).1 hc).1, qW h8 (hS b) hc (Nat.lt_succ_self i)⟩
 have mem : ∀ (b : Bool) (c : Cb), Rt n c → c.m.testBit i = false → qH (iq i (if b = true then 1 else 0) c) = qH c + 2 ^ (2 * i + (if b = true then 1 else 0)) := fun b c hc hm => by
  have hv : c.v.testBit i = false := by rw [eU hc.v, hm, Bool.and_false]
  have := xK (one b) hm hv 8
  rw [if_pos hi8] at this
  exact this
 constructor
 ·rintro ⟨c, hc, rfl⟩
  have hrt := ((fL h8).1 hc).1
  cases hm : c.m.testBit i with
  | false => exact .inl ⟨c, (A c hm).1 hc, rfl⟩
  | true =>
   have e := HD hi h8 hrt hm
   have hd : (i6 c i).m.testBit i = false := by rw [p6 hi8]; simp
   have hdr := D4 hi8 hrt
   rw [e] at hc
   obtain ⟨g1, g2⟩ := (B _ _ hdr hd).1 hc
   have em : qH c = qH (i6 c i) + 2 ^ (2 * i + (if c.v.testBit i = true then 1 else 0)) := by
    conv => lhs; rw [e]
    exact mem _ _ hdr hd
   have hno : ¬ sO n (dm s i false &&& dm s i true) (qH (i6 c i)) := fun ⟨d, h1, h2⟩ => by
    have := inj _ _ hdr ((fL h8).1 h1).1 h2
    rw [this] at g2
    exact g2 h1
   cases hv : c.v.testBit i with
   | false =>
    rw [hv] at g1 em
    exact .inr (.inl ⟨_, ⟨⟨_, g1, rfl⟩, hno⟩, em⟩)
   | true =>
    rw [hv] at g1 em
    exact .inr (.inr ⟨_, ⟨⟨_, g1, rfl⟩, hno⟩, em⟩)
 ·have back : ∀ (b : Bool) (y : Nat), sO n (dm s i b) y → ¬ sO n (dm s i false &&& dm s i true) y → sO n s (y + 2 ^ (2 * i + (if b = true then 1 else 0))) := fun b y ⟨c, hc, e⟩ hn => by
   obtain ⟨h1, h2⟩ := nz b c hc
   exact ⟨_, (B b c h1 h2).2 ⟨hc, fun k => hn ⟨c, k, e⟩⟩, by rw [mem b c h1 h2, e]⟩
  rintro (⟨c, hc, rfl⟩ | ⟨y, ⟨h1, h2⟩, rfl⟩ | ⟨y, ⟨h1, h2⟩, rfl⟩)
  ·exact ⟨c, (A c (qW h8 hC hc (Nat.lt_succ_self i))).2 hc, rfl⟩
  ·exact back false y h1 h2
  ·exact back true y h1 h2
end
end
section
section
open Go Go.RowKit
theorem DS (i : Nat) : ∀ n lv, JQ n lv (2 ^ i) ≤ 1 ∧ (i < lv → JQ n lv (2 ^ i) = 0)
 | 0, _ => ⟨Nat.zero_le _, fun _ => rfl⟩
 | n + 1, lv => by
  obtain ⟨h1, h2⟩ := DS i n (lv + 1)
  rw [JQ, Nat.testBit_two_pow]
  by_cases h : i = lv
  ·subst h
   rw [decide_eq_true rfl, if_pos rfl, h2 (Nat.lt_succ_self i)]
   exact ⟨Nat.le_refl _, fun k => absurd k (Nat.lt_irrefl _)⟩
  ·rw [decide_eq_false h, if_neg (by decide)]
   exact ⟨by omega, fun k => by rw [h2 (by omega)]⟩
theorem J5 (i : Nat) : uM 0 [((2 ^ i : Nat) : Int)] ≤ 1 := by
 have h := (DS i (24 - 0) 0).1
 have e : uM 0 [((2 ^ i : Nat) : Int)] = JQ (24 - 0) 0 (((2 ^ i : Nat) : Int)).toNat + 0 := rfl
 rw [Int.toNat_natCast] at e
 omega
section
variable {ns ns' : List Nd} {f g i : Nat}
def zt (ns : List Nd) (g i : Nat) : Prop := ∀ x, x ∈ dQ ns g ↔ x = 2 ^ i
theorem zt.node (h : Wf ns) (hg : g < ns.length + 2) (hi : i < 24) (hs : zt ns g i) : 2 ≤ g ∧ d8 ns g = i ∧ dV ns g i = 0 ∧ ee ns g i = 1 := by
 have hm : 2 ^ i ∈ dQ ns g := (hs _).2 rfl
 have h2 : 2 ≤ g := by
  rcases Nat.lt_or_ge g 2 with k | k
  ·exfalso
   have e : g = 0 ∨ g = 1 := by omega
   rcases e with rfl | rfl
   ·rw [mj] at hm; cases hm
   ·rw [mu, List.mem_singleton] at hm
    have := Nat.two_pow_pos i
    omega
  ·exact k
 have h24 := np h hg h2
 have H := gZ h hg (Nat.le_refl _) h24
 have hl : d8 ns g = i := by
  have hB : ee ns g (d8 ns g) ≠ 0 := by
   obtain ⟨j, rfl⟩ : ∃ j, g = j + 2 := ⟨g - 2, by omega⟩
   unfold ee
   rw [if_pos ⟨by omega, rfl⟩, Nat.add_sub_cancel]
   exact (h.ok j (by omega)).2.2.1
  obtain ⟨y, hy⟩ := iv h _ H.vb hB
  have e := (hs _).1 ((H.mem _).2 (.inr ⟨y, hy, rfl⟩))
  have hb := jK (gN H.lb (fe h _ H.vb y hy).1)
  rw [e, Nat.testBit_two_pow] at hb
  exact (of_decide_eq_true hb).symm
 rw [hl] at H
 refine ⟨h2, hl, ?_, ?_⟩
 ·rcases Nat.eq_zero_or_pos (dV ns g i) with k | k
  ·exact k
  ·exfalso
   obtain ⟨y, hy⟩ := iv h _ H.va (by omega)
   have e := (hs _).1 ((H.mem _).2 (.inl hy))
   have hb := gi (gN H.la (fe h _ H.va y hy).1)
   rw [e, Nat.testBit_two_pow] at hb
   exact absurd hb (by simp)
 ·refine G3 h _ H.vb 1 (by omega) fun x => ?_
  rw [mu, List.mem_singleton]
  constructor
  ·intro hx
   have e := (hs _).1 ((H.mem _).2 (.inr ⟨x, hx, rfl⟩))
   omega
  ·rintro rfl
   rcases (H.mem _).1 hm with k | ⟨y, hy, e⟩
   ·exfalso
    have hb := gi (gN H.la (fe h _ H.va _ k).1)
    rw [Nat.testBit_two_pow] at hb
    exact absurd hb (by simp)
   ·have : y = 0 := by omega
    rw [← this]; exact hy
theorem sq {n : Nat} (h : (BZ f g).2 = true) : wU n ns f g = 0 := by
 cases n with
 | zero => rfl
 | succ n => rw [wU, if_pos h]
theorem Km (h : Wf ns) (hf : f < ns.length + 2) (hg : g < ns.length + 2) (hi : i < 24) (hs : zt ns g i) (hl : i < d8 ns f) : pc ns f g ≤ 1 := by
 obtain ⟨g2, gl, gA, gB⟩ := hs.node h hg hi
 unfold pc
 cases he : (BZ f g).2 with
 | true => rw [sq he]; omega
 | false =>
  obtain ⟨n, hn⟩ : ∃ n, 25 - min (d8 ns f) (d8 ns g) = n + 1 := ⟨24 - min (d8 ns f) (d8 ns g), by omega⟩
  have e : min (d8 ns f) (d8 ns g) = i := by omega
  have fA : dV ns f i = f := if_neg (fun k => by omega)
  have fB : ee ns f i = 0 := if_neg (fun k => by omega)
  rw [hn, wU, if_neg (by rw [he]; decide), e, fA, fB, gA, gB]
  have e0 : ∀ x, (BZ x 0).2 = true := fun x => by unfold BZ; rw [if_pos (.inr rfl)]
  have e1 : ∀ x, (BZ 0 x).2 = true := fun x => by unfold BZ; rw [if_pos (.inl rfl)]
  have e2 : (BZ f 1).2 = true := by
   unfold BZ
   split
   ·rfl
   ·split
    ·rfl
    ·rfl
  rw [sq (e0 f), sq (e0 0), sq e2, sq (e1 1)]
  unfold JS uJ
  rw [mj]
  simp
structure uy (ns ns' : List Nd) (R c : Nat) (e : Int) : Prop where
 pre : ns <+: ns'
 st : (e = 0 ∧ ns'.length ≤ ns.length + c) ∨ (e = 5 ∧ R ≤ ns.length + c)
variable {ns1 ns2 : List Nd} {R c c1 c2 l id : Nat} {e e1 er : Int} {S : Nat → Prop}
theorem uy.refl : uy ns ns R 0 0 := ⟨List.prefix_refl _, .inl ⟨rfl, by omega⟩⟩
theorem uy.mono (h : uy ns ns' R c e) (hc : c ≤ c2) : uy ns ns' R c2 e := ⟨h.pre, h.st.imp (fun k => ⟨k.1, by omega⟩) (fun k => ⟨k.1, by omega⟩)⟩
theorem uy.ers (h : uy ns ns' R c e) : e = 0 ∨ e = 5 := h.st.imp (·.1) (·.1)
theorem uy.ok (h : uy ns ns' R c e) (hR : ns.length + c < R) : e = 0 ∧ ns'.length ≤ ns.length + c := by
 rcases h.st with k | k
 ·exact k
 ·omega
def io (e er : Int) : Int := if e = 0 then er else e
def jC (e er : Int) (id : Nat) : Nat := if io e er = 0 then id else 0
theorem gW : io e er = 0 ↔ e = 0 ∧ er = 0 := by
 unfold io
 by_cases h : e = 0
 ·rw [if_pos h]; exact ⟨fun k => ⟨h, k⟩, fun k => k.2⟩
 ·rw [if_neg h]; exact ⟨fun k => absurd k h, fun k => absurd k.1 h⟩
theorem kR (h : io e er = 0) : jC e er id = id := if_pos h
theorem n4 (hv : id < ns.length + 2) : jC e er id < ns.length + 2 := by
 unfold jC
 split
 ·exact hv
 ·omega
theorem uy.did (h : uy ns ns1 R c e) (g : jv ns1 ns2 R c1 l S id er) (hc : e = 0 → c1 ≤ c2) : uy ns ns2 R (c + c2) (io e er) := by
 refine ⟨h.pre.trans g.pre, ?_⟩
 have gc := g.cost
 rcases h.st with ⟨h1, h2⟩ | ⟨h1, h2⟩
 ·have := hc h1
  rcases g.res with ⟨k1, _⟩ | ⟨k1, _, k3⟩
  ·exact .inl ⟨gW.2 ⟨h1, k1⟩, by omega⟩
  ·refine .inr ⟨?_, by omega⟩
   unfold io; rw [if_pos h1]; exact k1
 ·refine .inr ⟨?_, by omega⟩
  unfold io; rw [if_neg (by rw [h1]; decide)]; exact h1
theorem uy.step (h : uy ns ns1 R c e) (g : e = 0 → uy ns1 ns2 R c2 e1) (g5 : ¬ e = 0 → ns1 <+: ns2 ∧ e1 = e) : uy ns ns2 R (c + c2) e1 := by
 rcases h.st with ⟨h1, h2⟩ | ⟨h1, h2⟩
 ·have k := g h1
  refine ⟨h.pre.trans k.pre, ?_⟩
  rcases k.st with ⟨k1, k2⟩ | ⟨k1, k2⟩
  ·exact .inl ⟨k1, by omega⟩
  ·exact .inr ⟨k1, by omega⟩
 ·obtain ⟨k1, k2⟩ := g5 (by rw [h1]; decide)
  exact ⟨h.pre.trans k1, .inr ⟨by rw [k2]; exact h1, by omega⟩⟩
end
structure Ob (ns ns' : List Nd) (R : Nat) (e e' : Int) (f i id : Nat) : Prop where
 v : id < ns'.length + 2
 pre : ns <+: ns'
 sta : e = 0 → i < d8 ns f → uy ns ns' R 2 e'
 err : ¬ e = 0 → e' = e
 m : e' = 0 → ∀ x, x ∈ dQ ns' id ↔ mH (M ns f) (· = 2 ^ i) x
theorem Qf {ns ns1 ns2 : List Nd} {R f i l0 l1 idA idB : Nat} {e erA erB : Int} (hw1 : Wf ns1) (gA : jv ns ns1 R (uM 0 [((1 * 2 ^ i : Nat) : Int)]) l0 (bS [((1 * 2 ^ i : Nat) : Int)] 0) idA erA) (gB : jv ns1 ns2 R (qa.cst ns1 f (jC e erA idA)) l1 (qa.res (M ns1 f) (M ns1 (jC e erA idA))) idB erB) (hf : f < ns.length + 2) (hi : i < 24) :
  Ob ns ns2 R e (io (io e erA) erB) f i (jC (io e erA) erB idB) := by
 rw [Nat.one_mul] at gA
 have p1 := fX gA.pre
 have hS : erA = 0 → zt ns1 idA i := fun h x => by
  rw [(gA.ok h).2.2 x]
  constructor
  ·rintro ⟨m, hm, e⟩
   rw [List.mem_singleton.1 hm, Int.toNat_natCast, x8] at e
   exact e
  ·rintro rfl
   exact ⟨_, List.mem_singleton.2 rfl, by rw [Int.toNat_natCast, x8]⟩
 refine ⟨n4 gB.valid, gA.pre.trans gB.pre, fun he hl => ?_, fun he => ?_, fun h0 x => ?_⟩
 ·subst he
  refine ((uy.refl.did gA (c2 := 1) (fun _ => J5 i)).did gB (c2 := 1) (fun h => ?_)).mono (by omega)
  rw [kR h]
  exact Km hw1 (by omega) gA.valid hi (hS (gW.1 h).2) (by rw [gH gA.pre hf]; exact hl)
 ·have h1 : io e erA = e := if_neg he
  rw [h1]; exact if_neg he
 ·obtain ⟨h1, h2⟩ := gW.1 h0
  have k := (gB.ok h2).2.2
  rw [kR h1, iA gA.pre hf] at k
  rw [kR h0, k x]
  have e2 : M ns1 idA = (· = 2 ^ i) := fH (hS (gW.1 h1).2)
  rw [e2]; rfl
def Wk (T : TypeId) (bw bz bd : Nat) (w : World) : Prop := ∃ e, At w bw #[.pointer (some ⟨bz, 0, none⟩), .map (some bd), .int .i64 e] T
structure Dw (Tn T : TypeId) (N bw bz bd ba bm : Nat) (w w' : World) : Prop where
 dx : Dx Tn N [bw, bd, ba, bm] w w'
 wk : Wk T bw bz bd w → Wk T bw bz bd w'
section
variable {Ta Tn T : TypeId} {N bw bz bd ba bm R : Nat} {w w' w'' : World} {ns ns' : List Nd} {e e' : Int}
theorem PO.dx {c l : Nat} {S : Nat → Prop} {v : Value} (h : PO Ta Tn N ba bm R w ns c l S v w') : Dx Tn N [ba, bm] w w' := by
 obtain ⟨_, _, _, _, h, _⟩ := h; exact h
theorem PE.dx {ok : Bool} {c l : Nat} {S : Nat → Prop} {v : Value} (h : PE Ta Tn N ba bm R w ns ok c l S v w') : Dx Tn N [ba, bm] w w' := by
 obtain ⟨_, _, _, _, h, _⟩ := h; exact h
theorem Wk.c0 (h : Wk T bw bz bd w) : w.cell? ⟨bw, 0, none⟩ = some (.pointer (some ⟨bz, 0, none⟩)) := by
 obtain ⟨e, h⟩ := h
 exact At.cell h rfl
theorem Wk.c1 (h : Wk T bw bz bd w) : w.cell? ⟨bw, 1, none⟩ = some (.map (some bd)) := by
 obtain ⟨e, h⟩ := h
 exact At.cell h rfl
theorem Dw.refl : Dw Tn T N bw bz bd ba bm w w := ⟨Dx.refl, id⟩
theorem Dw.trans (h : Dw Tn T N bw bz bd ba bm w w') (k : Dw Tn T N bw bz bd ba bm w' w'') : Dw Tn T N bw bz bd ba bm w w'' := ⟨h.dx.trans k.dx, fun q => k.wk (h.wk q)⟩
theorem Dw.ext (h : eo w w') : Dw Tn T N bw bz bd ba bm w w' := ⟨Dx.ext h, fun ⟨e, q⟩ => ⟨e, h.at q⟩⟩
theorem Dw.zdd (D : fD Ta Tn N ba bm R w ns) (h : Dx Tn N [ba, bm] w w') (hTa : T ≠ Ta) (hTn : T ≠ Tn) : Dw Tn T N bw bz bd ba bm w w' := ⟨h.mono (fun x hx => List.mem_cons_of_mem _ (List.mem_cons_of_mem _ hx)), fun ⟨e, q⟩ => ⟨e, At.dx D h q hTa hTn⟩⟩
theorem Dw.did (h : w.grownBy w' (some bw)) (hN : N ≤ bw) (q : At w' bw #[.pointer (some ⟨bz, 0, none⟩), .map (some bd), .int .i64 e'] T) : Dw Tn T N bw bz bd ba bm w w' := ⟨Dx.grown h (List.mem_cons_self ..) hN, fun _ => ⟨e', q⟩⟩
end
end
section
open Go Go.RowKit
theorem pU {ns : List Nd} (h : Wf ns) {f j : Nat} (hf : f < ns.length + 2) (hj : j ≤ 24) (hd : ∀ x, x ∈ dQ ns f → 2 ^ j ∣ x) : j ≤ d8 ns f := by
 rcases Nat.lt_or_ge f 2 with k | k
 ·rw [kL k]; exact hj
 ·rcases Nat.lt_or_ge (d8 ns f) j with q | q
  ·exfalso
   have H := gZ h hf (Nat.le_refl _) (np h hf k)
   have hB : ee ns f (d8 ns f) ≠ 0 := by
    obtain ⟨i, rfl⟩ : ∃ i, f = i + 2 := ⟨f - 2, by omega⟩
    unfold ee
    rw [if_pos ⟨by omega, rfl⟩, Nat.add_sub_cancel]
    exact (h.ok i (by omega)).2.2.1
   obtain ⟨y, hy⟩ := iv h _ H.vb hB
   have h1 := hd _ ((H.mem _).2 (.inr ⟨y, hy, rfl⟩))
   have h2 := jK (gN H.lb (fe h _ H.vb y hy).1)
   have h3 := gi (gN q h1)
   rw [h2] at h3; cases h3
  ·exact q
def wS (ab : Bool) (F G : Nat → Prop) (x : Nat) : Prop := F x ∧ ∃ y, G y ∧ (if ab = true then HK x y else HK y x)
theorem IX {F : Nat → Prop} {l : Nat} (hF : KN l F) (x : Nat) : mH F (· = 2 ^ l) x ↔ ∃ y, F y ∧ x = y + 2 ^ l := by
 have key : ∀ y, F y → y ||| 2 ^ l = y + 2 ^ l := fun y hy => by
  have h := (q7 (hF y hy) (Nat.dvd_zero (2 ^ (l + 1)))).2.1
  rw [Nat.zero_add, Nat.or_zero] at h
  exact h
 constructor
 ·rintro ⟨y, b, hy, rfl, rfl⟩
  exact ⟨y, hy, key y hy⟩
 ·rintro ⟨y, hy, rfl⟩
  exact ⟨y, 2 ^ l, hy, rfl, (key y hy).symm⟩
end
section
open Go Go.RowKit
end
section
open Go Go.RowKit
structure yU (ab : Bool) (ns : List Nd) (p : Nd × Int) : Prop where
 v1 : p.1.l < ns.length + 2
 v2 : p.1.lo < ns.length + 2
 id : ∃ id : Nat, p.2 = (id : Int) ∧ id < ns.length + 2 ∧ ∀ x, x ∈ dQ ns id ↔ wS ab (M ns p.1.l) (M ns p.1.lo) x
def qM (ab : Bool) (ns : List Nd) (dl : List (Nd × Int)) : Prop := ∀ p, p ∈ dl → yU ab ns p
section
variable {ab : Bool} {ns ns' : List Nd} {dl : List (Nd × Int)} {f g i id : Nat}
theorem qM.nil : qM ab ns [] := fun p h => by cases h
theorem yU.pre {p : Nd × Int} (hp : ns <+: ns') (h : yU ab ns p) : yU ab ns' p := by
 have hl := fX hp
 obtain ⟨id, h1, h2, h3⟩ := h.id
 refine ⟨by have := h.v1; omega, by have := h.v2; omega, id, h1, by omega, ?_⟩
 rw [iA hp h.v1, iA hp h.v2, gC hp h2]
 exact h3
theorem qM.pre (hp : ns <+: ns') (h : qM ab ns dl) : qM ab ns' dl := fun p q => (h p q).pre hp
theorem qM.put (h : qM ab ns dl) (hf : f < ns.length + 2) (hg : g < ns.length + 2) (hi : id < ns.length + 2) (hm : ∀ x, x ∈ dQ ns id ↔ wS ab (M ns f) (M ns g) x) : qM ab ns (g7 dl ⟨f, g, i⟩ (id : Int)) := fun p hp => by
 rcases AS hp with hp | rfl
 ·exact h p hp
 ·exact ⟨hf, hg, id, rfl, hi, hm⟩
theorem qM.met {v : Int} (h : qM ab ns dl) (hg : g6 dl ⟨f, g, i⟩ = some v) : ∃ id : Nat, v = (id : Int) ∧ id < ns.length + 2 ∧ ∀ x, x ∈ dQ ns id ↔ wS ab (M ns f) (M ns g) x := (h _ (vR hg)).id
end
section
variable {ab : Bool} {ns : List Nd} {R f g i id : Nat} {e : Int}
end
theorem jN {e e' : Int} (err : ¬ e = 0 → e' = e) (h : e' = 0) : e = 0 := by
 by_cases q : e = 0
 ·exact q
 ·rw [err q] at h; exact h
end
section
open Go Go.RowKit
end
section
open Go Go.RowKit
section
variable {Ta Tn T T' : TypeId} {N bw bz bd ba bm R b : Nat} {w w' w'' : World} {ns : List Nd} {c cw : Array Value} {dl : List (Nd × Int)}
theorem Dw.new (h : Dw Tn T N bw bz bd ba bm w w') (hb : w.heap.size ≤ b) (hN : N ≤ b) (hG : w'.grownBy w'' (some b)) (q : At w' b c T') (hT : T' ≠ T) : Dw Tn T N bw bz bd ba bm w w'' := by
 refine ⟨h.dx.new hb (Dx.grown hG (List.mem_cons_self ..) hN), fun k => ?_⟩
 obtain ⟨e, k2⟩ := h.wk k
 exact ⟨e, At.grownAt k2 q hG hT.symm⟩
theorem Dw.map (hG : w.grownBy w' (some bd)) (hN : N ≤ bd) (hdn : dR tk eK w bd dl) : Dw Tn T N bw bz bd ba bm w w' := by
 refine ⟨Dx.grown hG (List.mem_cons_of_mem _ (List.mem_cons_self ..)) hN, fun ⟨e, k⟩ => ⟨e, At.grownMap k hdn hG⟩⟩
end
section
variable {ab : Bool} {ns ns1 ns2 ns3 ns4 : List Nd} {R f g i fa fb ga gb idU ida lU cU : Nat} {e e1 e2 e4 erU : Int}
end
end
section
open Go Go.RowKit
section
variable {Ta Tn T T' : TypeId} {N bw bz bd ba bm R b : Nat} {w w' w'' : World} {ns ns' : List Nd} {xs : List Nat}
def PW (Ta Tn : TypeId) (N ba bm R : Nat) (w : World) (ns : List Nd) (S : List Nd → Nat → Int → Prop) (v : Value) (w' : World) : Prop :=
 ∃ (ns' : List Nd) (id : Nat) (er : Int), v = .tuple #[.int .i64 (id : Int), .int .i64 er] ∧ Dx Tn N [ba, bm] w w' ∧ fD Ta Tn N ba bm R w' ns' ∧ S ns' id er
theorem PW.dx {S : List Nd → Nat → Int → Prop} {v : Value} (h : PW Ta Tn N ba bm R w ns S v w') : Dx Tn N [ba, bm] w w' := by
 obtain ⟨_, _, _, _, h, _⟩ := h; exact h
end
end
end
section
open Go Go.RowKit
def tC : Nat → Nat
 | 0 => 0
 | k + 1 => 3 * tC k + 2 * (2 * k * 3 ^ k) + 7
section
variable {ns ns' ns1 ns2 ns3 ns4 : List Nd} {R f g i l : Nat}
theorem Gt (h : Wf ns) {g l : Nat} (hg : g < ns.length + 2) (hl : l ≤ d8 ns g) (h24 : l < 24) (ha : ∀ x, M ns g x → x.testBit l = true) : dV ns g l = 0 := by
 have H := gZ h hg hl h24
 refine Decidable.byContradiction fun k => ?_
 obtain ⟨y, hy⟩ := iv h _ H.va k
 have h1 := ha y ((H.mem y).2 (.inl hy))
 rw [gi (gN H.la (fe h _ H.va y hy).1)] at h1
 cases h1
theorem s9 {n f g : Nat} {en : Nat → Nat → Nat × Bool} (h : (en f g).2 = true) : cP en n ns f g = 0 := by
 cases n with
 | zero => rfl
 | succ n => rw [cP, if_pos h]
theorem MR (g : Nat) : (nI.ends 0 g).2 = true := by show (Kd 0 g).2 = true; unfold Kd; rw [if_pos (.inl rfl)]
theorem yB (f : Nat) : (nI.ends f 0).2 = true := by
 show (Kd f 0).2 = true
 unfold Kd
 split
 ·rfl
 ·rfl
theorem CS (h : Wf ns) (hf : f < ns.length + 2) (hg : g < ns.length + 2) (hl : l < d8 ns f) (hlg : l ≤ d8 ns g) (h24 : l < 24) (ha : ∀ x, M ns g x → x.testBit l = true) : nI.cst ns f g ≤ 1 := by
 show cE nI.ends ns f g ≤ 1
 by_cases he : (nI.ends f g).2 = true
 ·unfold cE; rw [s9 he]; omega
 ·have g0 : ¬ g = 0 := fun e => by subst e; exact he (yB f)
  have hlv : d8 ns g = l := by
   obtain ⟨x, hx⟩ := iv h g hg g0
   have h1 := ha x hx
   rcases Nat.lt_or_ge l (d8 ns g) with k | k
   ·rw [gi (gN k (fe h g hg x hx).1)] at h1; cases h1
   ·omega
  have hmin : min (d8 ns f) (d8 ns g) = l := by omega
  have hA := Gt h hg hlg h24 ha
  have hfB : ee ns f l = 0 := if_neg fun k => by omega
  unfold cE
  rw [hmin, show 25 - l = (24 - l) + 1 by omega, cP, if_neg he, hmin, hA, hfB, s9 (yB _), s9 (MR _)]
  omega
theorem ON (h : Wf ns) (hf : f < ns.length + 2) (hg : g < ns.length + 2) (hlf : l ≤ d8 ns f) (hlg : l + 1 ≤ d8 ns g) (h24 : l + 1 < 24) (hc : ∀ x, M ns f x → x.testBit l = false → 2 ^ (l + 2) ∣ x) (ha : ∀ x, M ns g x → x.testBit (l + 1) = true) : nI.cst ns f g ≤ 2 := by
 rcases Nat.lt_or_ge l (d8 ns f) with k | k
 ·have : l + 2 ≤ d8 ns f := pU h hf (by omega) fun x hx => hc x hx (gi (gN k (fe h f hf x hx).1))
  have := CS (l := l + 1) h hf hg (by omega) hlg h24 ha
  omega
 ·have hlv : d8 ns f = l := by omega
  show cE nI.ends ns f g ≤ 2
  by_cases he : (nI.ends f g).2 = true
  ·unfold cE; rw [s9 he]; omega
  ·have H := gZ h hf hlf (by omega)
   have hmin : min (d8 ns f) (d8 ns g) = l := by omega
   have hgA : dV ns g l = g := if_neg fun q => by omega
   have hgB : ee ns g l = 0 := if_neg fun q => by omega
   have hla := H.la
   have hA : l + 2 ≤ d8 ns (dV ns f l) := pU h H.va (by omega) fun x hx => hc x ((H.mem x).2 (.inl hx)) (gi (gN H.la (fe h _ H.va x hx).1))
   have k2 := CS (l := l + 1) h H.va hg (by omega) hlg h24 ha
   have k3 : cE nI.ends ns (dV ns f l) g ≤ 1 := k2
   have k4 := zz (en := nI.ends) (ns := ns) (show 24 - l ≤ 24 - l from Nat.le_refl _) (dV ns f l) g
   have k5 : cP nI.ends (24 - l) ns (dV ns f l) g ≤ 1 := by
    by_cases he2 : (nI.ends (dV ns f l) g).2 = true
    ·rw [s9 he2]; omega
    ·have g0 : ¬ g = 0 := fun e => by subst e; exact he (yB f)
     have hlvg : d8 ns g = l + 1 := by
      obtain ⟨x, hx⟩ := iv h g hg g0
      have h1 := ha x hx
      rcases Nat.lt_or_ge (l + 1) (d8 ns g) with k | k
      ·rw [gi (gN k (fe h g hg x hx).1)] at h1; cases h1
      ·omega
     have hmin2 : min (d8 ns (dV ns f l)) (d8 ns g) = l + 1 := by omega
     have e : cE nI.ends ns (dV ns f l) g = cP nI.ends (24 - l) ns (dV ns f l) g := by
      unfold cE
      rw [hmin2, show 25 - (l + 1) = 24 - l by omega]
     rw [← e]; exact k3
   unfold cE
   rw [hmin, show 25 - l = (24 - l) + 1 by omega, cP, if_neg he, hmin, hgA, hgB, s9 (yB _)]
   omega
end
structure Jn (ns ns' : List Nd) (R : Nat) (e e' : Int) (n i s id : Nat) : Prop where
 v : id < ns'.length + 2
 pre : ns <+: ns'
 sta : e = 0 → uy ns ns' R (tC (n - i)) e'
 err : ¬ e = 0 → e' = e
 m : e' = 0 → M ns' id = sO n s
 crd : e' = 0 → (dQ ns' id).length ≤ 3 ^ (n - i)
theorem OH {ns : List Nd} {R n i s : Nat} {e : Int} (he : ¬ e = 0) : Jn ns ns R e e n i s 0 := ⟨by omega, List.prefix_refl _, fun h => absurd h he, fun _ => rfl, fun h => absurd h he, fun h => absurd h he⟩
theorem QM {ns : List Nd} {R n i s : Nat} {e : Int} (he : e = 0) (h8 : n ≤ 8) (h : wR s 0 = true) : Jn ns ns R e e n i s 0 := by
 refine ⟨by omega, List.prefix_refl _, fun _ => ⟨List.prefix_refl _, .inl ⟨he, by omega⟩⟩, fun _ => rfl, fun _ => fH fun x => ?_, fun _ => ?_⟩
 ·exact ⟨fun k => absurd k (Gm ns x), fun k => absurd k (Ph h8 h x)⟩
 ·rw [mj]; exact Nat.zero_le _
theorem Qx {ns : List Nd} {R n i s : Nat} {e : Int} (he : e = 0) (h8 : n ≤ 8) (h : wR s (fj n) = true) : Jn ns ns R e e n i s 1 := by
 refine ⟨by omega, List.prefix_refl _, fun _ => ⟨List.prefix_refl _, .inl ⟨he, by omega⟩⟩, fun _ => rfl, fun _ => fH fun x => ?_, fun _ => ?_⟩
 ·rw [KU h8 h]
  show x ∈ dQ ns 1 ↔ _
  rw [mu, List.mem_singleton]
 ·rw [mu]; exact Nat.pow_pos (show 0 < 3 by decide)
def LQ (s i : Nat) (k : Nat) : Nat := dm s i (decide (k = 1))
def yX (s i : Nat) : Nat := dm s i false &&& dm s i true
def Ow (n s i k : Nat) (y : Nat) : Prop := sO n (LQ s i k) y ∧ ¬ sO n (yX s i) y
def w8 (n s i k : Nat) (x : Nat) : Prop := sO n (yX s i) x ∨ (1 ≤ k ∧ ∃ y, Ow n s i 0 y ∧ x = y + 2 ^ (2 * i)) ∨ (2 ≤ k ∧ ∃ y, Ow n s i 1 y ∧ x = y + 2 ^ (2 * i + 1))
theorem Hi {n s i : Nat} : w8 n s i 0 = sO n (yX s i) := fH fun x => ⟨fun h => h.elim id fun k => k.elim (fun q => absurd q.1 (by decide)) fun q => absurd q.1 (by decide), .inl⟩
theorem N7 {n s i : Nat} (h8 : n ≤ 8) (h : tW n s i) (hi : i < n) : w8 n s i 2 = sO n s := fH fun x => by
 rw [FD h8 h hi]
 unfold w8 Ow LQ yX
 constructor
 ·rintro (h | ⟨_, h⟩ | ⟨_, h⟩)
  ·exact .inl h
  ·exact .inr (.inl h)
  ·exact .inr (.inr h)
 ·rintro (h | h | h)
  ·exact .inl h
  ·exact .inr (.inl ⟨by decide, h⟩)
  ·exact .inr (.inr ⟨by decide, h⟩)
theorem JA {n s i k x : Nat} (hk : k < 2) : w8 n s i (k + 1) x ↔ w8 n s i k x ∨ ∃ y, Ow n s i k y ∧ x = y + 2 ^ (2 * i + k) := by
 have : k = 0 ∨ k = 1 := by omega
 unfold w8
 rcases this with rfl | rfl
 ·constructor
  ·rintro (h | ⟨_, h⟩ | ⟨h, _⟩)
   ·exact .inl (.inl h)
   ·exact .inr h
   ·exact absurd h (by decide)
  ·rintro ((h | ⟨h, _⟩ | ⟨h, _⟩) | h)
   ·exact .inl h
   ·exact absurd h (by decide)
   ·exact absurd h (by decide)
   ·exact .inr (.inl ⟨by decide, h⟩)
 ·constructor
  ·rintro (h | ⟨_, h⟩ | ⟨_, h⟩)
   ·exact .inl (.inl h)
   ·exact .inl (.inr (.inl ⟨by decide, h⟩))
   ·exact .inr h
  ·rintro ((h | ⟨_, h⟩ | ⟨h, _⟩) | h)
   ·exact .inl h
   ·exact .inr (.inl ⟨by decide, h⟩)
   ·exact absurd h (by decide)
   ·exact .inr (.inr ⟨by decide, h⟩)
theorem Cu {n s i : Nat} (h8 : n ≤ 8) (h : tW n s i) (hi : i < n) (k : Nat) : tW n (LQ s i k) (i + 1) := h.side h8 hi _
theorem DF {n s i : Nat} (h8 : n ≤ 8) (h : tW n s i) (hi : i < n) : tW n (yX s i) (i + 1) := (h.side h8 hi false).and (h.side h8 hi true)
structure P8 (ns nsc : List Nd) (R : Nat) (n i s k : Nat) (ec : Int) (com out : Nat) : Prop where
 vc : com < nsc.length + 2
 vo : out < nsc.length + 2
 pre : ns <+: nsc
 sta : uy ns nsc R (tC (n - (i + 1)) + k * (tC (n - (i + 1)) + 2 * (n - (i + 1)) * 3 ^ (n - (i + 1)) + 2) + (if k = 0 then 0 else if k = 1 then 1 else 3)) ec
 mc : ec = 0 → M nsc com = sO n (yX s i)
 cc : ec = 0 → (dQ nsc com).length ≤ 3 ^ (n - (i + 1))
 mo : ec = 0 → M nsc out = w8 n s i k
 co : ec = 0 → (dQ nsc out).length ≤ (k + 1) * 3 ^ (n - (i + 1))
section
variable {ns nsc ns1 ns2 ns3 ns4 : List Nd} {R n i s k com out idh idl idw ido lL lO : Nat} {ec e1 e3 erL erO : Int}
theorem I8 (p : Jn ns ns1 R 0 e1 n (i + 1) (yX s i) com) : P8 ns ns1 R n i s 0 e1 com com :=
 ⟨p.v, p.v, p.pre, (p.sta rfl).mono (by simp), p.m, p.crd, fun z => by rw [Hi]; exact p.m z, fun z => by have := p.crd z; omega⟩
theorem KW (h8 : n ≤ 8) (hs : tW n s i) (hi : i < n) (hk : k < 2) (h : P8 ns nsc R n i s k ec com out) (hw1 : Wf ns1) (hw2 : Wf ns2) (hw3 : Wf ns3) (hw4 : Wf ns4)
  (p : Jn nsc ns1 R ec e1 n (i + 1) (LQ s i k) idh) (gL : jv ns1 ns2 R (sQ.cst ns1 idh com) lL (sQ.res (M ns1 idh) (M ns1 com)) idl erL) (q : Ob ns2 ns3 R (io e1 erL) e3 (jC e1 erL idl) (2 * i + k) idw)
  (gO : jv ns3 ns4 R (nI.cst ns3 out idw) lO (nI.res (M ns3 out) (M ns3 idw)) ido erO) : P8 ns ns4 R n i s (k + 1) (io e3 erO) com (jC e3 erO ido) := by
 have p01 := fX p.pre
 have p12 := fX gL.pre
 have p23 := fX q.pre
 have p34 := fX gO.pre
 have hvc := h.vc
 have hvo := h.vo
 have hvh := p.v
 have hvl : jC e1 erL idl < ns2.length + 2 := n4 gL.valid
 have hfc := DF h8 hs hi
 have hfs := Cu h8 hs hi k
 have i24 : 2 * i + 2 ≤ 24 := by omega
 have M1h : e1 = 0 → M ns1 idh = sO n (LQ s i k) := p.m
 have M1c : e1 = 0 → M ns1 com = sO n (yX s i) := fun z => by rw [iA p.pre h.vc]; exact h.mc (jN p.err z)
 have M2l : io e1 erL = 0 → M ns2 (jC e1 erL idl) = Ow n s i k := fun z => by
  obtain ⟨z1, z2⟩ := gW.1 z
  rw [kR z, show M ns2 idl = sQ.res (M ns1 idh) (M ns1 com) from fH (gL.ok z2).2.2, M1h z1, M1c z1]
  rfl
 have dv : ∀ y, Ow n s i k y → 2 ^ (2 * i + 2) ∣ y := fun y hy => by
  have := sE h8 hfs hy.1
  rwa [show 2 * (i + 1) = 2 * i + 2 by omega] at this
 have dvk : ∀ y, Ow n s i k y → 2 ^ (2 * i + k + 1) ∣ y := fun y hy => Nat.dvd_trans (Nat.pow_dvd_pow 2 (by omega)) (dv y hy)
 have levO : KN (2 * i + k) (Ow n s i k) := fun y hy => dvk y hy
 have M3w : e3 = 0 → ∀ x, M ns3 idw x ↔ ∃ y, Ow n s i k y ∧ x = y + 2 ^ (2 * i + k) := fun z x => by
  have z2 := jN q.err z
  have hq := q.m z x
  rw [M2l z2] at hq
  exact hq.trans (IX levO x)
 have M3o : e3 = 0 → M ns3 out = w8 n s i k := fun z => by
  have z1 := (gW.1 (jN q.err z)).1
  rw [iA ((p.pre.trans gL.pre).trans q.pre) h.vo]
  exact h.mo (jN p.err z1)
 have tpP : ∀ {x s'}, sO n s' x → x < 2 ^ (2 * n) := fun hx => zD h8 hx
 have cL : e1 = 0 → sQ.cst ns1 idh com ≤ 2 * (n - (i + 1)) * 3 ^ (n - (i + 1)) := fun z => by
  have t1 : tp ns1 idh ≤ 2 * n := ln.2 fun x hx => tpP (by have hx' : M ns1 idh x := hx; rw [M1h z] at hx'; exact hx')
  have t2 : tp ns1 com ≤ 2 * n := ln.2 fun x hx => tpP (by have hx' : M ns1 com x := hx; rw [M1c z] at hx'; exact hx')
  have l1 : 2 * i + 2 ≤ d8 ns1 idh := pU hw1 hvh i24 fun x hx => by
   have hx' : M ns1 idh x := hx
   rw [M1h z] at hx'
   have := sE h8 hfs hx'
   rwa [show 2 * (i + 1) = 2 * i + 2 by omega] at this
  have l2 : 2 * i + 2 ≤ d8 ns1 com := pU hw1 (by omega) i24 fun x hx => by
   have hx' : M ns1 com x := hx
   rw [M1c z] at hx'
   have := sE h8 hfc hx'
   rwa [show 2 * (i + 1) = 2 * i + 2 by omega] at this
  refine Nat.le_trans (LJ hw1 Cd.endF hvh (by omega) t1 t2) (Nat.mul_le_mul (by omega) ?_)
  have := p.crd z
  omega
 have lw : e3 = 0 → 2 * i + k ≤ d8 ns3 idw := fun z => pU hw3 q.v (by omega) fun x hx => by
  obtain ⟨y, hy, e⟩ := (M3w z x).1 hx
  rw [e]
  exact Cj (dvk y hy)
 have bw : e3 = 0 → ∀ x, M ns3 idw x → x.testBit (2 * i + k) = true := fun z x hx => by
  obtain ⟨y, hy, e⟩ := (M3w z x).1 hx
  rw [e]
  exact jK (dvk y hy)
 have oc : ∀ x, w8 n s i 0 x → 2 ^ (2 * i + 2) ∣ x := fun x hx => by
  rw [Hi] at hx
  have := sE h8 hfc hx
  rwa [show 2 * (i + 1) = 2 * i + 2 by omega] at this
 have cO : e3 = 0 → nI.cst ns3 out idw ≤ k + 1 := fun z => by
  have : k = 0 ∨ k = 1 := by omega
  rcases this with rfl | rfl
  ·refine CS (l := 2 * i) hw3 (by omega) q.v ?_ (lw z) (by omega) (bw z)
   have : 2 * i + 2 ≤ d8 ns3 out := pU hw3 (by omega) i24 fun x hx => oc x (by have hx' : M ns3 out x := hx; rw [M3o z] at hx'; exact hx')
   omega
  ·have hou : ∀ x, M ns3 out x → w8 n s i 0 x ∨ ∃ y, Ow n s i 0 y ∧ x = y + 2 ^ (2 * i + 0) := fun x hx => by
    rw [M3o z] at hx
    exact (JA (by decide)).1 hx
   have dv0 : ∀ y, Ow n s i 0 y → 2 ^ (2 * i + 2) ∣ y := fun y hy => by
    have := sE h8 (Cu h8 hs hi 0) hy.1
    rwa [show 2 * (i + 1) = 2 * i + 2 by omega] at this
   refine ON (l := 2 * i) hw3 (by omega) q.v (pU hw3 (by omega) (by omega) fun x hx => ?_) (lw z) (by omega) (fun x hx hb => ?_) (bw z)
   ·rcases hou x hx with k | ⟨y, hy, e⟩
    ·exact Nat.dvd_trans (Nat.pow_dvd_pow 2 (by omega)) (oc x k)
    ·rw [e, Nat.add_zero]
     exact Cj (Nat.dvd_trans (Nat.pow_dvd_pow 2 (by omega)) (dv0 y hy))
   ·rcases hou x hx with k | ⟨y, hy, e⟩
    ·exact oc x k
    ·rw [e, Nat.add_zero, jK (Nat.dvd_trans (Nat.pow_dvd_pow 2 (by omega)) (dv0 y hy))] at hb
     cases hb
 have s1 := h.sta.step p.sta (fun z => ⟨p.pre, p.err z⟩)
 have s2 := s1.did gL cL
 have s3 := s2.step (c2 := 2) (fun z => q.sta z (by
  have : 2 * i + k + 1 ≤ d8 ns2 (jC e1 erL idl) := pU hw2 hvl (by omega) fun x hx => by
   have hx' : M ns2 (jC e1 erL idl) x := hx
   rw [M2l z] at hx'
   exact dvk x hx'
  omega)) (fun z => ⟨q.pre, q.err z⟩)
 have s4 := s3.did gO cO
 have pall := ((p.pre.trans gL.pre).trans q.pre).trans gO.pre
 refine ⟨by omega, n4 gO.valid, h.pre.trans pall, s4.mono ?_, fun z => ?_, fun z => ?_, fun z => fH fun x => ?_, fun z => ?_⟩
 ·have : k = 0 ∨ k = 1 := by omega
  rcases this with rfl | rfl
  ·simp; omega
  ·simp; omega
 ·have z1 := (gW.1 (jN q.err (gW.1 z).1)).1
  rw [iA pall hvc]
  exact h.mc (jN p.err z1)
 ·have z1 := (gW.1 (jN q.err (gW.1 z).1)).1
  rw [gC pall hvc]
  exact h.cc (jN p.err z1)
 ·obtain ⟨z3, zO⟩ := gW.1 z
  rw [kR z, JA hk]
  refine ((gO.ok zO).2.2 x).trans ?_
  show (M ns3 out x ∨ M ns3 idw x) ↔ _
  rw [M3o z3, M3w z3]
 ·obtain ⟨z3, zO⟩ := gW.1 z
  have z2 := jN q.err z3
  have z1 := (gW.1 z2).1
  rw [kR z]
  have h1 := HL hw4 (gO.ok zO).1 (a := out) (b := idw) (ns := ns3) fun x hx => ((gO.ok zO).2.2 x).1 hx
  have h2 : (dQ ns3 idw).length ≤ (dQ ns1 idh).length := by
   have := iY (l2 := (dQ ns1 idh).map fun y => y + 2 ^ (2 * i + k)) (jo hw3 idw q.v) fun x hx => by
    obtain ⟨y, hy, e⟩ := (M3w z3 x).1 hx
    exact List.mem_map.2 ⟨y, (show M ns1 idh y by rw [M1h z1]; exact hy.1), e.symm⟩
   rw [List.length_map] at this
   exact this
  have h3 := p.crd z1
  have h4 : (dQ ns3 out).length = (dQ nsc out).length := by rw [gC ((p.pre.trans gL.pre).trans q.pre) hvo]
  have h5 := h.co (jN p.err z1)
  have h6 : (k + 1 + 1) * 3 ^ (n - (i + 1)) = (k + 1) * 3 ^ (n - (i + 1)) + 3 ^ (n - (i + 1)) := by rw [Nat.add_mul (k + 1), Nat.one_mul]
  omega
theorem Ol (h8 : n ≤ 8) (hs : tW n s i) (hi : i < n) (h : P8 ns nsc R n i s 2 ec com out) : Jn ns nsc R 0 ec n i s out := by
 obtain ⟨m, hm⟩ : ∃ m, n - i = m + 1 := ⟨n - (i + 1), by omega⟩
 have hm2 : n - (i + 1) = m := by omega
 refine ⟨h.vo, h.pre, fun _ => h.sta.mono ?_, fun z => absurd rfl z, fun z => by rw [← N7 h8 hs hi]; exact h.mo z, fun z => ?_⟩
 ·rw [hm, hm2, tC]
  simp
  omega
 ·have := h.co z
  rw [hm2] at this
  rw [hm, Nat.pow_succ]
  omega
end
end
section
open Go Go.RowKit
def Wc (T : TypeId) (bc bz : Nat) (w : World) : Prop := ∃ e, At w bc #[.pointer (some ⟨bz, 0, none⟩), .int .i64 e] T
structure Dc (Tn T : TypeId) (N bc bz ba bm : Nat) (w w' : World) : Prop where
 dx : Dx Tn N [bc, ba, bm] w w'
 wk : Wc T bc bz w → Wc T bc bz w'
section
variable {Ta Tn T T' : TypeId} {N bc bz ba bm R b : Nat} {w w' w'' : World} {ns ns' : List Nd} {e e' : Int} {c cw : Array Value}
theorem Wc.c0 (h : Wc T bc bz w) : w.cell? ⟨bc, 0, none⟩ = some (.pointer (some ⟨bz, 0, none⟩)) := by
 obtain ⟨e, h⟩ := h
 exact At.cell h rfl
theorem Dc.refl : Dc Tn T N bc bz ba bm w w := ⟨Dx.refl, id⟩
theorem Dc.trans (h : Dc Tn T N bc bz ba bm w w') (k : Dc Tn T N bc bz ba bm w' w'') : Dc Tn T N bc bz ba bm w w'' := ⟨h.dx.trans k.dx, fun q => k.wk (h.wk q)⟩
theorem Dc.ext (h : eo w w') : Dc Tn T N bc bz ba bm w w' := ⟨Dx.ext h, fun ⟨e, q⟩ => ⟨e, h.at q⟩⟩
theorem Dc.zdd (D : fD Ta Tn N ba bm R w ns) (h : Dx Tn N [ba, bm] w w') (hTa : T ≠ Ta) (hTn : T ≠ Tn) : Dc Tn T N bc bz ba bm w w' := ⟨h.mono (fun x hx => List.mem_cons_of_mem _ hx), fun ⟨e, q⟩ => ⟨e, At.dx D h q hTa hTn⟩⟩
theorem Dc.did (h : w.grownBy w' (some bc)) (hN : N ≤ bc) (q : At w' bc #[.pointer (some ⟨bz, 0, none⟩), .int .i64 e'] T) : Dc Tn T N bc bz ba bm w w' := ⟨Dx.grown h (List.mem_cons_self ..) hN, fun _ => ⟨e', q⟩⟩
theorem At.dc (D : fD Ta Tn N ba bm R w ns) (hw : At w bc cw T) (h : Dc Tn T N bc bz ba bm w w') (q : At w b c T') (h1 : T' ≠ Ta) (h2 : T' ≠ Tn) (h3 : T' ≠ T) : At w' b c T' := by
 obtain ⟨n1, n2⟩ := D.ne q h1
 have n3 : b ≠ bc := fun e => by subst e; exact At.neT q hw h3 rfl
 unfold At at *
 rw [h.dx.block b (iF q) (.inr ⟨by simp [n1, n2, n3], fun c' fr e => by rw [q] at e; simp at e; exact h2 e.2.1⟩)]
 exact q
theorem Dc.new (h : Dc Tn T N bc bz ba bm w w') (hb : w.heap.size ≤ b) (hN : N ≤ b) (hG : w'.grownBy w'' (some b)) (q : At w' b c T') (hT : T' ≠ T) : Dc Tn T N bc bz ba bm w w'' := by
 refine ⟨h.dx.new hb (Dx.grown hG (List.mem_cons_self ..) hN), fun k => ?_⟩
 obtain ⟨e, k2⟩ := h.wk k
 exact ⟨e, At.grownAt k2 q hG hT.symm⟩
theorem Dx.new1 {b1 : Nat} {xs : List Nat} (h : Dx Tn N xs w w') (h1 : w.heap.size ≤ b1) (k : Dx Tn N (b1 :: xs) w' w'') : Dx Tn N xs w w'' := h.new h1 k
end
end
section
open Go Go.RowKit
theorem jU : fx Tryz.prog 144 1 = some 1 := by kernel_rfl
theorem jL : fp Tryz.prog 30 = true := by kernel_rfl
theorem jh : fx Tryz.prog 144 0 = some 0 := by kernel_rfl
theorem Et : dC Tryz.prog 105 = true := by kernel_rfl
theorem m8 : dC Tryz.prog 102 = true := by kernel_rfl
theorem DE : dC Tryz.prog 104 = true := by kernel_rfl
theorem uj : eL Tryz.prog 164 = some (.agg #[.int .u64 0, .int .u64 0, .int .u64 0, .int .u64 0, .int .u64 0, .int .u64 0, .int .u64 0, .int .u64 0]) := by kernel_rfl
theorem yD : dC Tryz.prog 117 = true := by kernel_rfl
theorem Ln : dC Tryz.prog 116 = true := by kernel_rfl
theorem gQ : Gg Tryz.prog 164 = some (2, 4) := by kernel_rfl
theorem yx : dC Tryz.prog 101 = true := by kernel_rfl
theorem Hv : kY Tryz.prog 164 = some 8 := by kernel_rfl
theorem DL : dC Tryz.prog 103 = true := by kernel_rfl
theorem Lr : dC Tryz.prog 118 = true := by kernel_rfl
theorem w6 (s i : Nat) (w : World) (hi : i < 8) :
    Fn Tryz.prog 116 #[eP s, .int .i64 (i : Int)] w fun v w' => v = eP (jM (eg s) s i (eg s).length) := by
 refine dq (n := 24) Tryz.func116 rfl rfl (Nat.le_of_ble_eq_true rfl) ?_
 have hB : Below w.heap.size w w := Below.refl _ _
 refine Zr <| Zy (dU (c := #[_, _, _, _]) rfl rfl fun F W3 y G a => ?_)
 have X := ZO y hB
 clear y
 replace hB := Ze hB G
 refine Zy (dt eM rfl fun z W6 q A b => ?_)
 have H := ZO q hB
 have I := Zn q a.lt
 clear q
 replace hB := Ze hB A
 replace a := A.at a
 replace b : At W6 z #[wv 0 0, wv 0 1, wv 0 2, wv 0 3] 49 := b
 refine cT <| Zr <| Zv (db rfl df rfl a) <| Zy (dt eM rfl fun B J h r d => ?_)
 have C := ZO h hB
 have D := Zn h a.lt
 have t := Zn h b.lt
 clear h
 replace hB := Ze hB r
 replace a := r.at a
 replace b := r.at b
 replace d : At J B #[wv 0 0, wv 0 1, wv 0 2, wv 0 3] 49 := d
 refine Zy (dg rfl rfl df rfl d rfl rfl fun Y u K => ?_)
 replace hB := Zg hB u C
 replace a := At.grownNe a D u
 replace b := At.grownNe b t u
 replace d := K
 refine cT <| cY fun Z L => Zr <| Zv (db rfl df rfl a) <| ZC (vs := [.agg #[_, _, _, _]]) vC (mh _ _) rfl fun x aa j e => ?_
 have M := (Below.size hB)
 replace hB := Ze hB j
 replace a := j.at a
 replace b := j.at b
 replace d := j.at d
 replace e := dh.mono e M
 refine Zv (dA (v := x) rfl e.sl du) <| Zw (.int .i64 0) rfl <| cT <| c7 ?_
 refine dw (σ := (Nat)) [7, 12, 13, 14, 15, 16, 17, 18, 19, 20, 21, 22] (fun k => [(12, .int .i64 (k : Int))]) (fun k W => (Below w.heap.size w W) ∧ (At W F _ 49) ∧ (At W z _ 49) ∧ (dh d9 1 3 W w.heap.size x _) ∧ (At W B #[wv (jM (eg s) s i k) 0, wv (jM (eg s) s i k) 1, wv (jM (eg s) s i k) 2, wv (jM (eg s) s i k) 3] 49) ∧ (k ≤ (eg s).length) ∧ (True)) (fun k => (eg s).length - k) (0) ⟨rfl, trivial⟩ ⟨hB, a, b, e, d, (Nat.zero_le _), trivial⟩ ?_
 clear hB a b d e
 rintro k ab ac ⟨hB, a, b, e, d, hk, _⟩ ad N
 have hll := kT s
 refine Zr <| Zv (dL rfl rfl) <| cT <| cY fun ae O => ZQ rfl (fun P => ?_) fun P => ?_
 refine c9 <| O _ _ <| cY fun af Q => c7 ?_
 obtain ⟨p, ag, ah, E⟩ := kO (s := s) (i := k) (by omega)
 have h7 := zE (show i < 8 by omega)
 refine Zr <| Zv (dJ (v := x) rfl e.sl rfl du Om (by first | omega | (simp only [cV, cW, cX, da]; omega))) <| Zv (dk (v := .int .i64 _) rfl dB (dM.cell e.sl eD 0 Om (by first | omega | (simp only [cV, cW, cX, da]; omega)) 0 rfl)) <| Zi rfl <| cT ?_
 have R : (eg s).getD (k : Int).toNat 0 = (p : Int) := E
 rw [R]
 refine gx eo im (fun S g => ?_)
 replace hB := Ze hB g
 replace a := g.at a
 replace b := g.at b
 replace e := g.ow e
 replace d := g.at d
 have hS := eo.refl S
 refine Tk 0 rfl (fun _ hq => db rfl df rfl (hq.at d)) hS <| Ti 1 rfl rfl hS <| Ti 2 rfl rfl hS <| Tk 3 rfl (fun _ _ => jB (m := 1) rfl rfl Om (by simp only [IntKind.bits]; omega) (by simp only [d5, Int.toNat_natCast]; omega)) hS <| Tk 4 rfl (fun _ _ => JN (n := _) rfl rfl rfl (by simp only [d5]; omega) (by simp only [d5, Int.toNat_natCast]; omega)) hS <| To 5 rfl (TC (vs := [.agg #[_, _, _, _], .int .i64 _]) vq (mr _ _ _) rfl fun ai aj f T => ⟨.inl (hS.trans f), ?_⟩)
 replace hB := Ze hB f
 replace a := f.at a
 replace b := f.at b
 replace e := f.ow e
 replace d := f.at d
 replace hS := hS.trans f
 obtain rfl := T
 refine To 6 rfl (dg rfl rfl df rfl d rfl rfl fun ak l U => ⟨.inr (by kernel_rfl), ?_⟩)
 replace hB := Zg hB l C
 replace a := At.grownNe a D l
 replace b := At.grownNe b t l
 replace e := dh.grownAt e d l Dd
 replace d := U
 refine Td <| Q _ _ <| cZ <| Zv (dp rfl rfl Om Om) <| Zi rfl <| cT ?_
 exact N _ _ (k + 1) Za ⟨rfl, trivial⟩ ⟨hB, a, b, e, (by rw [tD Om, E, Int.toNat_natCast, ← Nat.one_mul (2 ^ i)]; exact d), Om, trivial⟩ (by show (eg s).length - (k + 1) < (eg s).length - k; omega)
 refine dr <| L _ _ <| Zr <| Zv (db rfl df rfl d) <| Zy (dg rfl rfl df rfl b rfl rfl fun al o V => ?_)
 replace hB := Zg hB o H
 replace a := At.grownNe a I o
 replace e := dh.grownAt e b o Dd
 replace d := At.grownNe d (Ne.symm t) o
 replace b := V
 refine cT <| Zt <| jD rfl df b rfl ⟨hB, ?_⟩
 obtain rfl : k = (eg s).length := by omega
 rfl
theorem eT (N bc bz : Nat) (e : Int) (id : Nat) (er : Int) (w : World) (hN0 : N ≤ w.heap.size) (hc : At w bc #[.pointer (some ⟨bz, 0, none⟩), .int .i64 e] 144) (loc : N ≤ bc) :
    qJ Tryz.prog 102 #[.pointer (some ⟨bc, 0, none⟩), .int .i64 (id : Int), .int .i64 er] w fun v w' => w.grownBy w' (some bc) ∧ At w' bc #[.pointer (some ⟨bz, 0, none⟩), .int .i64 (io e er)] 144 ∧ v = .int .i64 ((jC e er id : Nat) : Int) := by
 refine eX (n := 22) Tryz.func102 rfl rfl (Nat.le_of_ble_eq_true rfl) ?_
 have hB : Below N w w := Below.refl _ _
 have c : w.grownBy w (some bc) := World.grownBy.refl w (some bc)
 refine Zr <| Zw (.int .i64 0) rfl <| cT <| cY fun K3 f => Zr <| Zp rfl <| Zc rfl <| Zf rfl jU <| Zl rfl jL hc rfl <| Zv (eB rfl rfl) <| cT <| ZQ rfl (fun a => ?_) fun a => ?_
 refine cZ <| Zp rfl <| Zi rfl <| Zc rfl <| Zf rfl jU <| Zy (eC (v := .int .i64 _) rfl rfl jL rfl hc (by simp) fun W7 d g => ?_)
 replace c := dD c d
 replace hB := dy hB d hN0 (fun j hj => by cases hj; exact loc)
 clear d hc
 replace hc := g
 replace hc : At _ _ #[_, _] _ := hc
 refine cT <| f _ _ <| cY fun k h => Zr <| Zp rfl <| Zc rfl <| Zf rfl jU <| Zl rfl jL hc rfl <| Zv (f7 rfl rfl) <| cT <| ZQ rfl (fun b => ?_) fun b => ?_
 refine Zr <| Zw (.int .i64 0) rfl <| cT <| Zt <| dE (v := .int .i64 0) rfl ?_
 have hde : io e er = er := if_pos a
 rw [hde]
 exact ⟨c, hc, by unfold jC; rw [hde, if_neg b]; rfl⟩
 refine c9 <| h _ _ <| Zr <| Zi rfl <| Zi rfl <| cT <| Zt <| dE (v := .int .i64 _) rfl ?_
 have hde : io e er = er := if_pos a
 rw [hde]
 exact ⟨c, hc, by unfold jC; rw [hde, if_pos (Decidable.of_not_not b)]⟩
 refine c9 <| f _ _ <| cY fun l i => Zr <| Zp rfl <| Zc rfl <| Zf rfl jU <| Zl rfl jL hc rfl <| Zv (f7 rfl rfl) <| cT <| ZQ rfl (fun b => ?_) fun b => ?_
 refine Zr <| Zw (.int .i64 0) rfl <| cT <| Zt <| dE (v := .int .i64 0) rfl ?_
 have hde : io e er = e := if_neg a
 rw [hde]
 exact ⟨c, hc, by unfold jC; rw [hde, if_neg a]; rfl⟩
 refine c9 <| i _ _ <| Zr <| Zi rfl <| Zi rfl <| cT <| Zt <| dE (v := .int .i64 _) rfl ?_
 exact absurd (Decidable.of_not_not b) a
set_option maxRecDepth 10000 in
theorem ox (N ba bm bz bc R : Nat) (ns : List Nd) (e : Int) (f i : Nat) (w : World) (hN0 : N ≤ w.heap.size) (hz : At w bz #[.pointer (some ⟨ba, 0, none⟩)] 141) (hD : fD 163 188 N ba bm R w ns) (hc : At w bc #[.pointer (some ⟨bz, 0, none⟩), .int .i64 e] 144) (loc : N ≤ bc) (hf : f < ns.length + 2) (hi : i < 24) :
    qJ Tryz.prog 118 #[.pointer (some ⟨bc, 0, none⟩), .int .i64 (f : Int), .int .i64 (i : Int)] w fun v w' => ∃ (ns' : List Nd) (e' : Int) (id : Nat), v = .int .i64 (id : Int) ∧ Dc 188 144 N bc bz ba bm w w' ∧ At w' bz #[.pointer (some ⟨ba, 0, none⟩)] 141 ∧ fD 163 188 N ba bm R w' ns' ∧ At w' bc #[.pointer (some ⟨bz, 0, none⟩), .int .i64 e'] 144 ∧ Ob ns ns' R e e' f i id := by
 refine eX (n := 29) Tryz.func118 rfl rfl (Nat.le_of_ble_eq_true rfl) ?_
 have hB : Below N w w := Below.refl _ _
 have hX : Dc 188 144 N bc bz ba bm w w := Dc.refl
 have hwf := hD.wf
 have hroom := hD.room
 have htop := hD.top
 have hpl : 2 ^ i ≤ 8388608 := by have := Nat.pow_le_pow_right (show 0 < 2 by decide) (show i ≤ 23 by omega); simpa using this
 refine Zr <| Zw (.int .i64 0) rfl <| cT <| Zd (fun a b => Dc 188 144 N bc bz ba bm a b) fun W5 g => ?_
 replace hz := g.at hz
 replace hc := g.at hc
 replace hD := fD.ext g hD
 replace hX := Dc.trans hX (Dc.ext g)
 replace hB := dF hB g hN0
 have hwk0 : Wc 144 bc bz W5 := ⟨_, hc⟩
 have hS : Dc 188 144 N bc bz ba bm W5 W5 := Dc.refl
 refine Tq 0 rfl rfl hS <| Tq 1 rfl rfl hS <| Tc 2 rfl rfl hS <| Tf 3 rfl rfl jh hS <| Tk 4 rfl (fun _ hq => dk (v := .pointer (some ⟨bz, 0, none⟩)) rfl ii (Wc.c0 (Dc.wk hq hwk0))) hS <| Ti 5 rfl rfl hS <| Tq 6 rfl rfl hS <| Tq 7 rfl rfl hS <| Tc 8 rfl rfl hS <| Tf 9 rfl rfl jh hS <| Tk 10 rfl (fun _ hq => dk (v := .pointer (some ⟨bz, 0, none⟩)) rfl ii (Wc.c0 (Dc.wk hq hwk0))) hS <| Ti 11 rfl rfl hS <| Tk 12 rfl (fun _ _ => jB (m := 1) rfl rfl Om (by simp only [IntKind.bits]; omega) (by simp only [d5, Int.toNat_natCast, Nat.one_mul]; omega)) hS <| To 13 rfl (fc (u := .int .i64 _) rfl du fv rfl Dd Dd fun A W7 t d B => ⟨.inl (Dc.trans hS (Dc.ext d)), ?_⟩)
 have C : N ≤ A := t ▸ (Nat.le_trans hN0 (Below.size hB))
 clear t
 replace hz := d.at hz
 replace hc := d.at hc
 replace hD := fD.ext d hD
 replace hX := Dc.trans hX (Dc.ext d)
 replace hB := dF hB d hN0
 replace hS := Dc.trans hS (Dc.ext d)
 have c := ix (enc := d9) (a := ((1 * 2 ^ i : Nat) : Int)) B rfl rfl C
 refine To 14 rfl (TG Et (oR N ba bm bz R ns _ [((1 * 2 ^ i : Nat) : Int)] _ (Nat.le_trans hN0 (Below.size hB)) hz hD c.sl (show 1 ≤ 1000000 by decide)) rfl fun J K r => ⟨.inl (Dc.trans hS (Dc.zdd hD (PE.dx r) (by decide) (by decide))), ?_⟩)
 replace hS := Dc.trans hS (Dc.zdd hD (PE.dx r) Dd Dd)
 obtain ⟨x, D, E, rfl, h, F, G⟩ := r
 replace hz := At.dx hD h hz Dd Dd
 replace hc := At.dx hD h hc Dd Dd
 replace hX := Dc.trans hX (Dc.zdd hD h Dd Dd)
 replace hB := Below.dx hB (Nat.le_refl _) hN0 h
 replace c := dh.dx hD h c Dd Dd
 replace hD := F
 have hgA := Mi G (by rw [Nat.one_mul]; exact OQ hi)
 have hvA := hgA.valid
 have hf1 : f < x.length + 2 := by have := fX hgA.pre; omega
 have hw1 := hD.wf
 refine Tk 15 rfl (fun _ _ => dI rfl) hS <| Tk 16 rfl (fun _ _ => dK rfl) hS <| To 17 rfl (TG m8 (eT N bc bz _ _ _ _ (Nat.le_trans hN0 (Below.size hB)) hc loc) rfl fun L M k => ⟨.inl (Dc.trans hS (Dc.did k.1 loc k.2.1)), ?_⟩)
 replace hS := Dc.trans hS (Dc.did k.1 loc k.2.1)
 obtain ⟨l, y, rfl⟩ := k
 replace hX := Dc.trans hX (Dc.did l loc y)
 replace hz := At.grownAt hz hc l Dd
 replace hD := fD.grownAt hD hc l Dd Dd
 replace hB := dy hB l hN0 (fun j hj => by cases hj; exact loc)
 replace c := dh.grownAt c hc l Dd
 replace hc := y
 refine To 18 rfl (TG DE (ng N ba bm bz R x f (jC e E D) _ (Nat.le_trans hN0 (Below.size hB)) hz hD hf1 (n4 hvA)) rfl fun O P s => ⟨.inl (Dc.trans hS (Dc.zdd hD (PO.dx s) (by decide) (by decide))), ?_⟩)
 replace hS := Dc.trans hS (Dc.zdd hD (PO.dx s) Dd Dd)
 obtain ⟨Q, S, T, rfl, o, H, I⟩ := s
 replace hz := At.dx hD o hz Dd Dd
 replace hc := At.dx hD o hc Dd Dd
 replace hB := Below.dx hB (Nat.le_refl _) hN0 o
 replace c := dh.dx hD o c Dd Dd
 replace hX := Dc.trans hX (Dc.zdd hD o Dd Dd)
 replace hD := H
 refine Tk 19 rfl (fun _ _ => dI rfl) hS <| Tk 20 rfl (fun _ _ => dK rfl) hS <| To 21 rfl (TG m8 (eT N bc bz _ _ _ _ (Nat.le_trans hN0 (Below.size hB)) hc loc) rfl fun U V p => ⟨.inl (Dc.trans hS (Dc.did p.1 loc p.2.1)), ?_⟩)
 replace hS := Dc.trans hS (Dc.did p.1 loc p.2.1)
 obtain ⟨q, z, rfl⟩ := p
 replace hX := Dc.trans hX (Dc.did q loc z)
 replace hz := At.grownAt hz hc q Dd
 replace hD := fD.grownAt hD hc q Dd Dd
 replace hB := dy hB q hN0 (fun j hj => by cases hj; exact loc)
 replace c := dh.grownAt c hc q Dd
 replace hc := z
 refine Ti 22 rfl rfl hS <| Td <| Zt <| dE (v := .int .i64 _) rfl ?_
 exact ⟨_, _, _, rfl, hX, hz, hD, hc, Qf hw1 hgA I hf hi⟩
def P7 (fu : Nat) : Prop := ∀ (N ba bm bz bc R : Nat) (ns : List Nd) (e : Int) (s n i : Nat) (w : World), (N ≤ w.heap.size) → (At w bz #[.pointer (some ⟨ba, 0, none⟩)] 141) → (fD 163 188 N ba bm R w ns) → (At w bc #[.pointer (some ⟨bz, 0, none⟩), .int .i64 e] 144) → (N ≤ bc) → (n ≤ 8) → (tW n s i) → n + 1 - i ≤ fu →
  qJ Tryz.prog 101 #[.pointer (some ⟨bc, 0, none⟩), eP s, eP (fj n), .int .i64 (n : Int), .int .i64 (i : Int)] w fun v w' => ∃ (ns' : List Nd) (e' : Int) (id : Nat), v = .int .i64 (id : Int) ∧ Dc 188 144 N bc bz ba bm w w' ∧ At w' bz #[.pointer (some ⟨ba, 0, none⟩)] 141 ∧ fD 163 188 N ba bm R w' ns' ∧ At w' bc #[.pointer (some ⟨bz, 0, none⟩), .int .i64 e'] 144 ∧ Jn ns ns' R e e' n i s id
theorem KJ (w : World) : (sizeOf 49).run Tryz.prog w = .ok 4 w := by
  obtain ⟨j0, hj0, hs0⟩ := Option.map_eq_some_iff.1 (show (Tryz.prog.info? 49).map (·.size) = some 4 by kernel_rfl)
  simp [sizeOf, typeInfo, hj0, hs0]
theorem Ks {s i k : Nat} (hk : k < 2) (w : World) : (part 49 (mJ (dm s i false) (dm s i true)) (k * 4)).run Tryz.prog w = .ok (eP (LQ s i k)) w := by
  obtain ⟨j0, hj0, hs0⟩ := Option.map_eq_some_iff.1 (show (Tryz.prog.info? 49).map (·.size) = some 4 by kernel_rfl)
  have : k = 0 ∨ k = 1 := by omega
  rcases this with rfl | rfl <;> simp [part, isAgg, sizeOf, typeInfo, hj0, hs0, run_underlying Tryz.underlying49, mJ, LQ] <;> rfl
set_option maxRecDepth 20000 in
theorem GX (q : Nat) (N ba bm bz bc R : Nat) (ns : List Nd) (e : Int) (s n i : Nat) (w : World) (ih : P7 q) (hN0 : N ≤ w.heap.size) (hz : At w bz #[.pointer (some ⟨ba, 0, none⟩)] 141) (hD : fD 163 188 N ba bm R w ns) (hc : At w bc #[.pointer (some ⟨bz, 0, none⟩), .int .i64 e] 144) (loc : N ≤ bc) (h8 : n ≤ 8) (hfr : tW n s i) (hn : n + 1 - i ≤ q + 1) :
    qJ Tryz.prog 101 #[.pointer (some ⟨bc, 0, none⟩), eP s, eP (fj n), .int .i64 (n : Int), .int .i64 (i : Int)] w fun v w' => ∃ (ns' : List Nd) (e' : Int) (id : Nat), v = .int .i64 (id : Int) ∧ Dc 188 144 N bc bz ba bm w w' ∧ At w' bz #[.pointer (some ⟨ba, 0, none⟩)] 141 ∧ fD 163 188 N ba bm R w' ns' ∧ At w' bc #[.pointer (some ⟨bz, 0, none⟩), .int .i64 e'] 144 ∧ Jn ns ns' R e e' n i s id := by
 refine eX (n := 99) Tryz.func101 rfl rfl (Nat.le_of_ble_eq_true rfl) ?_
 have hB : Below N w w := Below.refl _ _
 have hX : Dc 188 144 N bc bz ba bm w w := Dc.refl
 have hwf := hD.wf
 have hroom := hD.room
 have htop := hD.top
 refine Zr <| Zy (dU (c := #[_, _, _, _]) rfl rfl fun P W3 U J f => ?_)
 have bd : N ≤ P := U ▸ (Nat.le_trans hN0 (Below.size hB))
 have bf : w.heap.size ≤ P := U ▸ hX.dx.size
 clear U
 replace hz := J.at hz
 replace hc := J.at hc
 replace hD := fD.ext J hD
 replace hX := Dc.trans hX (Dc.ext J)
 replace hB := dF hB J hN0
 refine Zy (dU (c := #[_, _, _, _]) rfl rfl fun Q W6 S H g => ?_)
 have bg : N ≤ Q := S ▸ (Nat.le_trans hN0 (Below.size hB))
 have bh := Zn S f.lt
 have bi : w.heap.size ≤ Q := S ▸ hX.dx.size
 clear S
 replace hz := H.at hz
 replace hc := H.at hc
 replace hD := fD.ext H hD
 replace hX := Dc.trans hX (Dc.ext H)
 replace hB := dF hB H hN0
 replace f := H.at f
 refine Zw (.int .i64 0) rfl <| cT <| cY fun K9 ax => c7 <| Zr <| Zp rfl <| Zc rfl <| Zf rfl jU <| Zl rfl jL hc rfl <| Zv (f7 rfl rfl) <| ZX rfl (fun K => ?_) fun K => ?_
 refine Zs <| Zs <| Zs <| Zw (.bool true) rfl <| Zw (.bool true) rfl <| cT <| dz rfl <| Zr <| Zw (.int .i64 0) rfl <| cT <| Zt <| dE (v := .int .i64 0) rfl ?_
 exact ⟨ns, e, 0, rfl, hX, hz, hD, hc, OH K⟩
 refine Zv (db rfl df rfl f) <| Zv (v := eP 0) (gD ) <| Zv (rD rfl rfl) <| Zb rfl <| Zb rfl <| cT <| ZQ rfl (fun V => ?_) fun V => ?_
 refine Zr <| Zw (.int .i64 0) rfl <| cT <| Zt <| dE (v := .int .i64 0) rfl ?_
 exact ⟨ns, e, 0, rfl, hX, hz, hD, hc, QM (Decidable.of_not_not K) h8 (uv V)⟩
 refine Zr <| Zv (db rfl df rfl f) <| Zv (db rfl df rfl g) <| Zv (rD rfl rfl) <| Zb rfl <| cT <| ZQ rfl (fun X => ?_) fun X => ?_
 refine Zr <| Zw (.int .i64 1) rfl <| cT <| Zt <| dE (v := .int .i64 1) rfl ?_
 exact ⟨ns, e, 1, rfl, hX, hz, hD, hc, Qx (Decidable.of_not_not K) h8 (uv X)⟩
 refine c9 <| ax _ _ ?_
 have he : e = 0 := Decidable.of_not_not K
 subst he
 have h0 : ¬ wR s 0 = true := fun h => V (rQ h)
 have h1 : ¬ wR s (fj n) = true := fun h => X (rQ h)
 have hi : i < n := hfr.lt h8 h0 h1
 have hi8 : i < 8 := by omega
 refine Zr <| Zy (dt uj rfl fun T bj Y D d => ?_)
 have ap : N ≤ T := Y ▸ (Nat.le_trans hN0 (Below.size hB))
 have ay : w.heap.size ≤ T := Y ▸ hX.dx.size
 clear Y
 replace hz := D.at hz
 replace hc := D.at hc
 replace hD := fD.ext D hD
 replace hX := Dc.trans hX (Dc.ext D)
 replace hB := dF hB D hN0
 replace f := D.at f
 replace g := D.at g
 refine cT <| cY fun bk az => ?_
 replace d := sU (s := s) (i := i) d
 refine Zr <| Zw (.int .i64 0) rfl <| cT <| c7 ?_
 refine dw (σ := (Nat)) [12, 33, 34, 35, 36, 37, 38, 39, 40, 41, 42, 43, 44, 45] (fun k => [(33, .int .i64 (k : Int))]) (fun k W => (At W bz _ 141) ∧ (At W bc _ 144) ∧ (fD 163 188 N ba bm R W ns) ∧ (Dc 188 144 N bc bz ba bm w W) ∧ (Below N w W) ∧ (At W P _ 49) ∧ (At W Q _ 49) ∧ (At W T (ni s i k) 164) ∧ (k ≤ 2) ∧ (True)) (fun k => 2 - k) (0) ⟨rfl, trivial⟩ ⟨hz, hc, hD, hX, hB, f, g, d, (Nat.zero_le _), trivial⟩ ?_
 clear hz hc hD hX hB f g d
 rintro k bl bn ⟨hz, hc, hD, hX, hB, f, g, d, hk, _⟩ bo aA
 refine Zr <| Zv (dL rfl rfl) <| cT <| cY fun bp aB => ZQ rfl (fun aC => ?_) fun aC => ?_
 refine c9 <| aB _ _ <| cY fun bq aD => c7 <| Zr <| Zi rfl <| Zi rfl <| cT <| cZ <| Zi rfl <| Zv (db rfl df rfl f) <| Zi rfl <| Zi rfl <| Zv (eB rfl rfl) ?_
 refine ZC (vs := [.agg #[_, _, _, _], .int .i64 _, .bool _]) yD (uX _ _ _ _) rfl fun br bs r aE => ?_
 replace hz := r.at hz
 replace hc := r.at hc
 replace hD := fD.ext r hD
 replace hX := Dc.trans hX (Dc.ext r)
 replace hB := dF hB r hN0
 replace f := r.at f
 replace g := r.at g
 replace d := r.at d
 obtain rfl := aE
 rw [if_pos (show 0 ≤ (i : Int) ∧ (i : Int) < 8 by omega)]
 simp only [Int.toNat_natCast]
 refine Zi rfl <| ZC (vs := [.agg #[_, _, _, _], .int .i64 _]) Ln (w6 (oV s i (decide ((k : Int) = 1))) i _ Om) rfl fun aF bt t Z => ?_
 replace hz := t.at hz
 replace hc := t.at hc
 replace hD := fD.ext t hD
 replace hX := Dc.trans hX (Dc.ext t)
 replace hB := dF hB t hN0
 replace f := t.at f
 replace g := t.at g
 replace d := t.at d
 replace Z : aF = eP (dm s i (decide ((k : Int) = 1))) := Z
 obtain rfl := Z
 refine Zv (e7 rfl rfl gQ Om Om) <| Zy (vP rfl rfl df rfl d (by rw [pi]; omega) rfl fun bu E aG => ?_)
 replace hz := At.grownAt hz d E Dd
 replace hc := At.grownAt hc d E Dd
 replace hD := fD.grownAt hD d E Dd Dd
 replace hX := Dc.new hX ay ap E d Dd
 replace hB := dy hB E hN0 (fun j hj => by cases hj; exact ap)
 replace f := At.grownAt f d E Dd
 replace g := At.grownAt g d E Dd
 replace d := aG
 try simp only [Int.toNat_natCast] at d
 rw [rb (by omega)] at d
 refine cT <| aD _ _ <| cZ <| Zv (dp rfl rfl Om Om) <| Zi rfl <| cT ?_
 exact aA _ _ (k + 1) Za ⟨rfl, trivial⟩ ⟨hz, hc, hD, hX, hB, f, g, (by exact d), Om, trivial⟩ Zo
 refine dr <| az _ _ ?_
 obtain rfl : k = 2 := by omega
 replace d : At _ _ (mJ (dm s i false) (dm s i true)) _ := d
 refine Zd (fun a b => Dc 188 144 N bc bz ba bm a b) fun aa u => ?_
 replace hz := u.at hz
 replace hc := u.at hc
 replace hD := fD.ext u hD
 replace hX := Dc.trans hX (Dc.ext u)
 replace hB := dF hB u hN0
 replace f := u.at f
 replace g := u.at g
 replace d := u.at d
 have hwk0 : Wc 144 bc bz aa := ⟨_, hc⟩
 have hS : Dc 188 144 N bc bz ba bm aa aa := Dc.refl
 refine Tq 0 rfl rfl hS <| Tk 1 rfl (fun _ _ => e7 rfl rfl gQ Om Om) hS <| Tk 2 rfl (fun _ hq => fq rfl df (At.cell (At.dc hD hc hq d Dd Dd Dd) rfl) (At.cell (At.dc hD hc hq d Dd Dd Dd) rfl) (At.cell (At.dc hD hc hq d Dd Dd Dd) rfl) (At.cell (At.dc hD hc hq d Dd Dd Dd) rfl)) hS <| Tk 3 rfl (fun _ _ => e7 rfl rfl gQ Om Om) hS <| Tk 4 rfl (fun _ hq => fq rfl df (At.cell (At.dc hD hc hq d Dd Dd Dd) rfl) (At.cell (At.dc hD hc hq d Dd Dd Dd) rfl) (At.cell (At.dc hD hc hq d Dd Dd Dd) rfl) (At.cell (At.dc hD hc hq d Dd Dd Dd) rfl)) hS <| Tk 6 rfl (fun _ hq => db rfl df rfl (At.dc hD hc hq g Dd Dd Dd)) hS <| Ti 7 rfl rfl hS <| Ti 8 rfl rfl hS <| Tk 9 rfl (fun _ _ => dp rfl rfl Om Om) hS <| To 5 rfl (TC (vs := [.agg #[_, _, _, _], .agg #[_, _, _, _]]) tt (qs _ _ _) rfl fun bv bw m aH => ⟨.inl (Dc.trans hS (Dc.ext m)), ?_⟩)
 replace hz := m.at hz
 replace hc := m.at hc
 replace hD := fD.ext m hD
 replace hX := Dc.trans hX (Dc.ext m)
 replace hB := dF hB m hN0
 replace f := m.at f
 replace g := m.at g
 replace d := m.at d
 replace hS := Dc.trans hS (Dc.ext m)
 obtain rfl := aH
 refine To 10 rfl (TG (vs := [.pointer (some ⟨bc, 0, none⟩), .agg #[_, _, _, _], .agg #[_, _, _, _], .int .i64 _, .int .i64 _]) yx (ih N ba bm bz bc R ns 0 (yX s i) n (i + 1) _ (Nat.le_trans hN0 (Below.size hB)) hz hD hc loc h8 (DF h8 hfr hi) Om) rfl fun bx bA ab => ⟨.inl (Dc.trans hS ((by obtain ⟨_, _, _, _, h, _⟩ := ab; exact h))), ?_⟩)
 replace hS := Dc.trans hS ((by obtain ⟨_, _, _, _, h, _⟩ := ab; exact h))
 obtain ⟨aI, e11_10, ac, rfl, I, aJ, hD11_10, aK, aL⟩ := ab
 replace hX := Dc.trans hX I
 replace hB := Below.dx hB (Nat.le_refl _) hN0 I.dx
 replace f := At.dc hD hc I f Dd Dd Dd
 replace g := At.dc hD hc I g Dd Dd Dd
 replace d := At.dc hD hc I d Dd Dd Dd
 replace hz := aJ
 replace hD := hD11_10
 replace hc := aK
 clear I
 refine Ti 11 rfl rfl hS <| Td <| Zr <| Zi rfl <| Zi rfl <| cT <| cY fun bB aM => Zr <| Zv (db rfl Hv rfl d) <| Zw (.int .i64 0) rfl <| cT <| c7 ?_
 refine dw (σ := (Nat) × (Nat) × (List Nd) × (Int)) [14, 15, 16, 17, 59, 60, 61, 62, 63, 64, 65, 66, 67, 68, 69, 70, 71, 72, 73, 74, 75, 76, 77, 78, 79, 80, 81, 82, 83, 84, 85, 86, 87, 88, 89, 90, 91, 92, 93, 94, 95, 96, 97] (fun (k, oid, nsc, ec) => [(59, .int .i64 (k : Int)), (14, .int .i64 (oid : Int))]) (fun sg W => match sg with | (k, oid, nsc, ec) => (At W bz _ 141) ∧ (Dc 188 144 N bc bz ba bm w W) ∧ (Below N w W) ∧ (At W P _ 49) ∧ (At W Q _ 49) ∧ (At W T _ 164) ∧ (fD 163 188 N ba bm R W nsc) ∧ (At W bc #[.pointer (some ⟨bz, 0, none⟩), .int .i64 ec] 144) ∧ (k ≤ 2) ∧ (P8 ns nsc R n i s k ec ac oid) ∧ (True)) (fun (k, oid, nsc, ec) => 2 - k) ((0, ac, aI, e11_10)) ⟨rfl, rfl, trivial⟩ ⟨hz, hX, hB, f, g, d, hD, hc, (Nat.zero_le _), (I8 aL), trivial⟩ ?_
 clear hz hc hD hX hB f g d
 rintro ⟨k, oid, nsc, ec⟩ bC bD ⟨hz, hX, hB, f, g, d, hD, hc, hk, hlp, _⟩ bE aN
 refine Zr <| Zv (dL rfl rfl) <| cT <| cY fun bF aO => ZQ rfl (fun aP => ?_) fun aP => ?_
 refine c9 <| aO _ _ <| cY fun bG aQ => c7 <| Zr <| Zi rfl <| Zv (v := eP (LQ s i k)) (Be rfl rfl Tryz.underlying164 Om (KJ _) (Ks Om _)) <| Zy (dt eM rfl fun ad aR L x l => ?_)
 have aq : N ≤ ad := L ▸ (Nat.le_trans hN0 (Below.size hB))
 have aS := Zn L f.lt
 have aT := Zn L g.lt
 have aU : w.heap.size ≤ ad := L ▸ hX.dx.size
 clear L
 replace hz := x.at hz
 replace hX := Dc.trans hX (Dc.ext x)
 replace hB := dF hB x hN0
 replace f := x.at f
 replace g := x.at g
 replace d := x.at d
 replace hD := fD.ext x hD
 replace hc := x.at hc
 replace l : At aR ad #[wv 0 0, wv 0 1, wv 0 2, wv 0 3] 49 := l
 refine Zi rfl <| Zy (dg rfl rfl df rfl l rfl rfl fun bH y aV => ?_)
 replace hz := At.grownAt hz l y Dd
 replace hX := Dc.new hX aU aq y l Dd
 replace hB := dy hB y hN0 (fun j hj => by cases hj; exact aq)
 replace f := At.grownNe f aS y
 replace g := At.grownNe g aT y
 replace d := At.grownAt d l y Dd
 replace hD := fD.grownAt hD l y Dd Dd
 replace hc := At.grownAt hc l y Dd
 replace l := aV
 refine cT ?_
 have hvc := hlp.vc
 have hvo := hlp.vo
 refine Zd (fun a b => Dc 188 144 N bc bz ba bm a b) fun ae o => ?_
 replace hz := o.at hz
 replace hX := Dc.trans hX (Dc.ext o)
 replace hB := dF hB o hN0
 replace f := o.at f
 replace g := o.at g
 replace d := o.at d
 replace hD := fD.ext o hD
 replace hc := o.at hc
 replace l := o.at l
 have hwk0 : Wc 144 bc bz ae := ⟨_, hc⟩
 have hS : Dc 188 144 N bc bz ba bm ae ae := Dc.refl
 refine Tq 0 rfl rfl hS <| Tq 1 rfl rfl hS <| Tc 2 rfl rfl hS <| Tf 3 rfl rfl jh hS <| Tk 4 rfl (fun _ hq => dk (v := .pointer (some ⟨bz, 0, none⟩)) rfl ii (Wc.c0 (Dc.wk hq hwk0))) hS <| Tq 5 rfl rfl hS <| Tk 6 rfl (fun _ hq => db rfl df rfl (At.dc hD hc hq l Dd Dd Dd)) hS <| Tk 7 rfl (fun _ hq => db rfl df rfl (At.dc hD hc hq g Dd Dd Dd)) hS <| Ti 8 rfl rfl hS <| Ti 9 rfl rfl hS <| Tk 10 rfl (fun _ _ => dp rfl rfl Om Om) hS <| Ti 12 rfl rfl hS <| To 11 rfl (TG (vs := [.pointer (some ⟨bc, 0, none⟩), .agg #[_, _, _, _], .agg #[_, _, _, _], .int .i64 _, .int .i64 _]) yx (ih N ba bm bz bc R nsc ec (LQ s i k) n (i + 1) _ (Nat.le_trans hN0 (Below.size hB)) hz hD hc loc h8 (Cu h8 hfr hi k) Om) rfl fun bI bJ af => ⟨.inl (Dc.trans hS ((by obtain ⟨_, _, _, _, h, _⟩ := af; exact h))), ?_⟩)
 replace hS := Dc.trans hS ((by obtain ⟨_, _, _, _, h, _⟩ := af; exact h))
 obtain ⟨aW, e16_11, aX, rfl, F, aY, hD16_11, aZ, ag⟩ := af
 replace hX := Dc.trans hX F
 replace hB := Below.dx hB (Nat.le_refl _) hN0 F.dx
 replace f := At.dc hD hc F f Dd Dd Dd
 replace g := At.dc hD hc F g Dd Dd Dd
 replace d := At.dc hD hc F d Dd Dd Dd
 replace l := At.dc hD hc F l Dd Dd Dd
 replace hz := aY
 replace hD := hD16_11
 replace hc := aZ
 clear F
 have hwa := hD.wf
 have hla := fX ag.pre
 refine To 13 rfl (TG DL (m6 N ba bm bz R aW aX ac _ (Nat.le_trans hN0 (Below.size hB)) hz hD ag.v Om) rfl fun bK bL ah => ⟨.inl (Dc.trans hS (Dc.zdd hD (PO.dx ah) (by decide) (by decide))), ?_⟩)
 replace hS := Dc.trans hS (Dc.zdd hD (PO.dx ah) Dd Dd)
 obtain ⟨a0, a1, ar, rfl, z, a2, ai⟩ := ah
 replace hz := At.dx hD z hz Dd Dd
 replace hX := Dc.trans hX (Dc.zdd hD z Dd Dd)
 replace hB := Below.dx hB (Nat.le_refl _) hN0 z
 replace f := At.dx hD z f Dd Dd
 replace g := At.dx hD z g Dd Dd
 replace d := At.dx hD z d Dd Dd
 replace hc := At.dx hD z hc Dd Dd
 replace l := At.dx hD z l Dd Dd
 replace hD := a2
 have hwb := hD.wf
 have hlb := fX ai.pre
 refine Tk 14 rfl (fun _ _ => dI rfl) hS <| Tk 15 rfl (fun _ _ => dK rfl) hS <| To 16 rfl (TG m8 (eT N bc bz _ _ _ _ (Nat.le_trans hN0 (Below.size hB)) hc loc) rfl fun bM bN M => ⟨.inl (Dc.trans hS (Dc.did M.1 loc M.2.1)), ?_⟩)
 replace hS := Dc.trans hS (Dc.did M.1 loc M.2.1)
 obtain ⟨A, au, rfl⟩ := M
 replace hX := Dc.trans hX (Dc.did A loc au)
 replace hz := At.grownAt hz hc A Dd
 replace hB := dy hB A hN0 (fun j hj => by cases hj; exact loc)
 replace f := At.grownAt f hc A Dd
 replace g := At.grownAt g hc A Dd
 replace d := At.grownAt d hc A Dd
 replace hD := fD.grownAt hD hc A Dd Dd
 replace l := At.grownAt l hc A Dd
 replace hc := au
 refine Ti 17 rfl rfl hS <| Td ?_
 refine gx (fun a b => Dc 188 144 N bc bz ba bm a b) im (fun aj p => ?_)
 replace hz := p.at hz
 replace hB := dF hB p hN0
 replace f := p.at f
 replace g := p.at g
 replace d := p.at d
 replace hD := fD.ext p hD
 replace hc := p.at hc
 replace l := p.at l
 replace hX := Dc.trans hX (Dc.ext p)
 have hwk0 : Wc 144 bc bz aj := ⟨_, hc⟩
 have hS : Dc 188 144 N bc bz ba bm aj aj := Dc.refl
 refine Tq 0 rfl rfl hS <| Tq 1 rfl rfl hS <| Tc 2 rfl rfl hS <| Tf 3 rfl rfl jh hS <| Tk 4 rfl (fun _ hq => dk (v := .pointer (some ⟨bz, 0, none⟩)) rfl ii (Wc.c0 (Dc.wk hq hwk0))) hS <| Ti 5 rfl rfl hS <| Tq 6 rfl rfl hS <| Ti 7 rfl rfl hS <| Ti 8 rfl rfl hS <| Tk 9 rfl (fun _ _ => I9 rfl rfl Om Om) hS <| Ti 10 rfl rfl hS <| Tk 11 rfl (fun _ _ => dp rfl rfl Om Om) hS <| To 12 rfl (TG Lr (ox N ba bm bz bc R a0 (io e16_11 ar) (jC e16_11 ar a1) (2 * i + k) _ (Nat.le_trans hN0 (Below.size hB)) hz hD hc loc (n4 ai.valid) Om) rfl fun bO bP ak => ⟨.inl (Dc.trans hS ((by obtain ⟨_, _, _, _, h, _⟩ := ak; exact h))), ?_⟩)
 replace hS := Dc.trans hS ((by obtain ⟨_, _, _, _, h, _⟩ := ak; exact h))
 obtain ⟨a3, e17_12, a4, rfl, G, a5, hD17_12, a6, al⟩ := ak
 replace hB := Below.dx hB (Nat.le_refl _) hN0 G.dx
 replace f := At.dc hD hc G f Dd Dd Dd
 replace g := At.dc hD hc G g Dd Dd Dd
 replace d := At.dc hD hc G d Dd Dd Dd
 replace l := At.dc hD hc G l Dd Dd Dd
 replace hX := Dc.trans hX G
 replace hz := a5
 replace hD := hD17_12
 replace hc := a6
 clear G
 have hwc := hD.wf
 have hlc := fX al.pre
 refine To 13 rfl (TG y5 (jT N ba bm bz R a3 oid a4 _ (Nat.le_trans hN0 (Below.size hB)) hz hD Om al.v) rfl fun bQ bR ao => ⟨.inl (Dc.trans hS (Dc.zdd hD (PO.dx ao) (by decide) (by decide))), ?_⟩)
 replace hS := Dc.trans hS (Dc.zdd hD (PO.dx ao) Dd Dd)
 obtain ⟨a7, a8, av, rfl, B, a9, bb⟩ := ao
 replace hz := At.dx hD B hz Dd Dd
 replace hB := Below.dx hB (Nat.le_refl _) hN0 B
 replace f := At.dx hD B f Dd Dd
 replace g := At.dx hD B g Dd Dd
 replace d := At.dx hD B d Dd Dd
 replace hc := At.dx hD B hc Dd Dd
 replace l := At.dx hD B l Dd Dd
 replace hX := Dc.trans hX (Dc.zdd hD B Dd Dd)
 replace hD := a9
 have hwd := hD.wf
 refine Tk 14 rfl (fun _ _ => dI rfl) hS <| Tk 15 rfl (fun _ _ => dK rfl) hS <| To 16 rfl (TG m8 (eT N bc bz _ _ _ _ (Nat.le_trans hN0 (Below.size hB)) hc loc) rfl fun bS bT O => ⟨.inl (Dc.trans hS (Dc.did O.1 loc O.2.1)), ?_⟩)
 replace hS := Dc.trans hS (Dc.did O.1 loc O.2.1)
 obtain ⟨C, aw, rfl⟩ := O
 replace hX := Dc.trans hX (Dc.did C loc aw)
 replace hz := At.grownAt hz hc C Dd
 replace hB := dy hB C hN0 (fun j hj => by cases hj; exact loc)
 replace f := At.grownAt f hc C Dd
 replace g := At.grownAt g hc C Dd
 replace d := At.grownAt d hc C Dd
 replace hD := fD.grownAt hD hc C Dd Dd
 replace l := At.grownAt l hc C Dd
 replace hc := aw
 refine Ti 17 rfl rfl hS <| Td <| aQ _ _ <| cZ <| Zv (dp rfl rfl Om Om) <| Zi rfl <| cT ?_
 exact aN _ _ ((k + 1, jC e17_12 av a8, a7, io e17_12 av)) Za ⟨rfl, rfl, trivial⟩ ⟨hz, hX, hB, f, g, d, hD, (by exact hc), Om, (KW h8 hfr hi Om hlp hwa hwb hwc hwd ag ai al bb), trivial⟩ (by show 2 - (k + 1) < 2 - k; omega)
 refine dr <| aM _ _ <| Zr <| Zi rfl <| Zi rfl <| cT <| Zt <| dE (v := .int .i64 _) rfl ?_
 obtain rfl : k = 2 := by omega
 exact ⟨_, _, _, rfl, hX, hz, hD, hc, Ol h8 hfr hi hlp⟩
end
section
open Go Go.RowKit
end
section
open Go Go.RowKit
def Ae (x : Rw) : Nat := qH x.c + x.o % 16 * 65536
def QV (m k : Nat) : Nat := m / 2 ^ (2 * k) % 4
end
section
open Go Go.RowKit
theorem Ny {s n : Nat} (h : uA s (n : Int) = true) : n ≤ 8 ∧ tW n s 0 := by
 unfold uA at h
 obtain ⟨h1, h2⟩ := Bool.and_eq_true_iff.1 h
 obtain ⟨h3, h4⟩ := Bool.and_eq_true_iff.1 h2
 have h8 : n ≤ 8 := by have := of_decide_eq_true h3; omega
 rw [Int.toNat_natCast] at h4
 refine ⟨h8, Hu fun p hp hb => ?_⟩
 have := d6.1 h4 p hp hb
 rw [fP] at this
 exact of_decide_eq_true this
theorem KY {n : Nat} (h : n ≤ 8) {v : Value} (hv : v = if 0 ≤ (n : Int) ∧ (n : Int) ≤ 8 then .tuple #[eP (fj (n : Int).toNat), .int .i64 0] else .tuple #[eP 0, .int .i64 1]) : v = .tuple #[eP (fj n), .int .i64 0] := by
 rw [if_pos (by omega), Int.toNat_natCast] at hv
 exact hv
def dl (m q : Nat) : Int := if QV m q = 1 then 0 else if QV m q = 2 then 1 else 2
end
section
open Go Go.RowKit
theorem Mq : ∀ q, P7 q
 | 0 => fun N ba bm bz bc R ns e s n i w _ _ _ _ _ _ hfr hn => by
  have := hfr.le
  omega
 | q + 1 => fun N ba bm bz bc R ns e s n i w => GX q N ba bm bz bc R ns e s n i w (Mq q)
end
section
open Go Go.RowKit
section
variable {ns ns' : List Nd} {R n s id k : Nat} {er : Int}
end
end
end Go.Proofs.YteimkklmmanncaaGreat
