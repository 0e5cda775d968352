/- The walks of building, of parts, of what holds none, of the least, and of counting. The walks of new diagrams, of telling and listing members, and of marking nodes. Primes as members: what both halves have, and what one alone has, with a literal. No program in it. What is needed for more deeds with  -/
import Derived.Test.YteimkklmmanncaaGreatWZdd3
namespace Go.Proofs.YteimkklmmanncaaGreat
set_option linter.unusedVariables false
set_option linter.unusedSimpArgs false
section
open Go Go.RowKit
theorem Ah : dD Tryz.prog 125 = true := by kernel_rfl
def EJ (n : Nat) : Prop := ∀ (N ba bm bz R : Nat) (ns : List Nd) (xl : Value) (l : List Int) (lv : Nat) (w : World), (N ≤ w.heap.size) → (At w bz #[.pointer (some ⟨ba, 0, none⟩)] 141) → (fI 163 188 N ba bm R w ns) → (dN ef 1 w xl l) → (∀ m, m ∈ l → 0 ≤ m ∧ m < 16777216) → (l.length ≤ 1000000) → (lv ≤ 24) → 25 - lv ≤ n →
  rl Tryz.prog 125 #[.pointer (some ⟨bz, 0, none⟩), xl, .int .i64 (lv : Int)] w fun v w' => PO 163 188 N ba bm R w ns (vy lv l) (lv) (bS l lv) v w'
set_option maxRecDepth 10000 in
theorem LZ (n : Nat) (N ba bm bz R : Nat) (ns : List Nd) (xl : Value) (l : List Int) (lv : Nat) (w : World) (ih : EJ n) (hN0 : N ≤ w.heap.size) (hz : At w bz #[.pointer (some ⟨ba, 0, none⟩)] 141) (hD : fI 163 188 N ba bm R w ns) (hl : dN ef 1 w xl l) (hm : ∀ m, m ∈ l → 0 ≤ m ∧ m < 16777216) (hll : l.length ≤ 1000000) (hlv : lv ≤ 24) (hn : 25 - lv ≤ n + 1) :
    rl Tryz.prog 125 #[.pointer (some ⟨bz, 0, none⟩), xl, .int .i64 (lv : Int)] w fun v w' => PO 163 188 N ba bm R w ns (vy lv l) (lv) (bS l lv) v w' := by
 refine fc (n := 71) Tryz.func125 rfl rfl (Nat.le_of_ble_eq_true rfl) ?_
 have hB : Below N w w := Below.refl _ _
 have hX : Dx 188 N [ba, bm] w w := Dx.refl
 have hwf := hD.wf
 have hroom := hD.room
 have htop := hD.top
 refine Zr <| Zw (.int .i64 0) rfl <| Zw (.int .i64 0) rfl <| cT <| cY fun K3 M => c9 <| Zr <| Zw xl rfl <| Zv (dz (v := xl) rfl hl dw) <| Zv (dS rfl rfl) <| Zb rfl <| cT <| ZQ rfl (fun O => ?_) fun O => ?_
 refine Zr <| Zw (.int .i64 0) rfl <| Zw (.int .i64 0) rfl <| cT <| Zt <| d6 (v := .int .i64 0) rfl (v1 := .int .i64 0) rfl ?_
 exact ⟨ns, 0, 0, rfl, hX, hD, jK.same Om (by rw [MC]; exact hlv) (Mo Om)⟩
 refine Zr <| Zi rfl <| Zv (dS rfl rfl) <| Zb rfl <| cT <| ZQ rfl (fun P => ?_) fun P => ?_
 refine Zr <| Zw (.int .i64 1) rfl <| Zw (.int .i64 0) rfl <| cT <| Zt <| d6 (v := .int .i64 1) rfl (v1 := .int .i64 0) rfl ?_
 obtain rfl : lv = 24 := by omega
 exact ⟨ns, 1, 0, rfl, hX, hD, jK.same Om (by rw [lg Dd]; exact hlv) (L9 Om hm)⟩
 refine c7 <| M _ _ ?_
 have p := hB
 replace hB := Below.refl w.heap.size w
 have hne : 1 ≤ l.length := by omega
 have h24 : lv < 24 := by omega
 refine Zr <| Zw (.slice none 0 0) rfl <| Zw (.slice none 0 0) rfl <| cT <| cY fun ap Q => Zr <| Zw xl rfl <| Zv (dz (v := xl) rfl (Below.slT hB hl) dw) <| Zw (.int .i64 0) rfl <| cT <| c9 ?_
 refine dy (σ := (Nat) × (Value) × (Value)) [8, 9, 11, 24, 25, 26, 27, 28, 29, 30, 31, 32, 33, 34, 35, 36, 37, 38, 39, 40, 41] (fun (k, v0, v1) => [(24, .int .i64 (k : Int)), (8, v0), (9, v1)]) (fun sg W => match sg with | (k, v0, v1) => (Below w.heap.size w W) ∧ (dh ef 1 3 W w.heap.size v0 (yc l lv k)) ∧ (dh ef 1 3 W w.heap.size v1 (yi l lv k)) ∧ (eP v0 v1) ∧ (k ≤ l.length) ∧ (True)) (fun (k, v0, v1) => l.length - k) ((0, .slice none 0 0, .slice none 0 0)) ⟨rfl, rfl, rfl, trivial⟩ ⟨hB, dh.nil, dh.nil, eP.nilL, (Nat.zero_le _), trivial⟩ ?_
 clear hB
 rintro ⟨k, v0, v1⟩ aq ar ⟨hB, ho, hoo, hap, hk, _⟩ au C
 refine Zr <| Zv (dM rfl rfl) <| cT <| cY fun av S => ZQ rfl (fun T => ?_) fun T => ?_
 refine c7 <| S _ _ <| cY fun aw D => c9 <| Zr <| Zv (dF (v := xl) rfl (Below.slT hB hl) rfl dw Om Om) <| Zv (dk (v := .int .i64 _) rfl du (dN.cell (Below.slT hB hl) eI 0 Om Om 0 rfl)) <| Zi rfl <| cT ?_
 obtain ⟨U, ax⟩ := hm (l.getD k 0) (dV (by omega))
 have hbl : (l.getD k 0).toNat < 9223372036854775808 := by omega
 have hwl := JQ l lv k
 rw [List.length_take] at hwl
 refine Zr <| Zi rfl <| Zi rfl <| Zv (Oe rfl rfl U Om Om) <| Zv (nV (n := 1) rfl rfl rfl (by exact Nat.lt_of_le_of_lt (Nat.div_le_self _ _) hbl) Dd) <| Zv (dS rfl rfl) <| cT <| ZQ rfl (fun r => ?_) fun r => ?_
 have hbt : (l.getD k 0).toNat.testBit lv = true := Bf.1 r
 refine cZ <| Zw v1 rfl <| Zi rfl <| Zy (ff (u := .int .i64 _) rfl dw fC rfl Dd Dd fun s ay e t V => ?_)
 have az := ZO e hB
 have aA := dh.neB (b := s) ho (Nat.le_of_eq e.symm)
 have aB := dh.neB (b := s) hoo (Nat.le_of_eq e.symm)
 clear e
 replace hB := Ze hB t
 replace ho := t.ow ho
 replace hoo := t.ow hoo
 refine Zy (jD (v := v1) (v2 := .slice (some ⟨s, 0, none⟩) 1 1) rfl rfl dw fC Dd hoo (fF V rfl) rfl (by have := Below.size hB; omega) (by first | omega | (simp; omega)) (by first | omega | (simp; omega)) fun E aC F f X => ?_)
 have Y := eP.app (eP.symm hap) X ho
 replace f := dh.snoc (enc := ef) (x := (l.getD k 0)) rfl rfl rfl rfl f
 replace hB := ZG hB F hoo
 replace ho := dh.grownAp ho (eP.symm hap) F
 clear hoo
 refine Zw E rfl <| cT <| D _ _ <| cZ <| Zv (dm rfl rfl Om Om) <| Zi rfl <| cT ?_
 exact C _ _ ((k + 1, v0, E)) Za ⟨rfl, rfl, rfl, trivial⟩ ⟨hB, (by first | (rw [← (MP Om hbt).2]; exact ho) | (rw [← (Mv Om hbt).1]; exact ho)), (by first | (rw [← (MP Om hbt).1]; exact f) | (rw [← (Mv Om hbt).2]; exact f)), (eP.symm Y), Om, trivial⟩ (by show l.length - (k + 1) < l.length - k; omega)
 have hbt : ¬ (l.getD k 0).toNat.testBit lv = true := fun q => r (Bf.2 q)
 refine cZ <| Zw v0 rfl <| Zi rfl <| Zy (ff (u := .int .i64 _) rfl dw fC rfl Dd Dd fun y aD g z Z => ?_)
 have aE := ZO g hB
 have aF := dh.neB (b := y) ho (Nat.le_of_eq g.symm)
 have aG := dh.neB (b := y) hoo (Nat.le_of_eq g.symm)
 clear g
 replace hB := Ze hB z
 replace ho := z.ow ho
 replace hoo := z.ow hoo
 refine Zy (jD (v := v0) (v2 := .slice (some ⟨y, 0, none⟩) 1 1) rfl rfl dw fC Dd ho (fF Z rfl) rfl (by have := Below.size hB; omega) (by first | omega | (simp; omega)) (by first | omega | (simp; omega)) fun G aH H i aa => ?_)
 have ab := eP.app hap aa hoo
 replace i := dh.snoc (enc := ef) (x := (l.getD k 0)) rfl rfl rfl rfl i
 replace hB := ZG hB H ho
 replace hoo := dh.grownAp hoo hap H
 clear ho
 refine Zw G rfl <| cT <| D _ _ <| cZ <| Zv (dm rfl rfl Om Om) <| Zi rfl <| cT ?_
 exact C _ _ ((k + 1, G, v1)) Za ⟨rfl, rfl, rfl, trivial⟩ ⟨hB, (by first | (rw [← (MP Om hbt).2]; exact i) | (rw [← (Mv Om hbt).1]; exact i)), (by first | (rw [← (MP Om hbt).1]; exact hoo) | (rw [← (Mv Om hbt).2]; exact hoo)), ab, Om, trivial⟩ (by show l.length - (k + 1) < l.length - k; omega)
 refine dr <| Q _ _ ?_
 replace hz := Below.atI hB hz
 replace hD := fI.below hB hD
 replace hX := Dx.trans hX (Dx.below hB)
 clear hl
 have hzs := Nat.le_trans hN0 (Below.size p)
 replace ho := dh.mono ho hzs
 replace hoo := dh.mono hoo hzs
 replace hB := Below.trans p (Below.mono hB hzs)
 clear p hzs
 obtain rfl : k = l.length := by omega
 have hwl := JQ l lv l.length
 rw [List.take_length] at hwl
 have hbc := JF (l := l) h24
 refine Zr <| Zp rfl <| Zw v0 rfl <| Zi rfl <| Zv (dm rfl rfl Om Om) <| ZH Ah (ih N ba bm bz R ns _ (yc l lv l.length) (lv + 1) _ (Nat.le_trans hN0 (Below.size hB)) hz hD ho.sl (fun m h => hm m (O9 h)) Om Om Om) rfl fun aI aJ ac => ?_
 obtain ⟨ad, I, J, rfl, a, ae, j⟩ := ac
 replace hz := At.dx hD a hz Dd Dd
 replace hX := Dx.trans hX (a)
 replace hB := Below.dx hB (Nat.le_refl _) hN0 a
 replace ho := dh.dx hD a ho Dd Dd
 replace hoo := dh.dx hD a hoo Dd Dd
 replace hD := ae
 refine Zw (.tuple #[.int .i64 (I : Int), .int .i64 J]) rfl <| Zv (dG rfl) <| Zv (dJ rfl) <| Zi rfl <| Zi rfl <| cT <| cY fun aK af => Zr <| Zi rfl <| Zv (f4 rfl rfl) <| cT <| ZQ rfl (fun A => ?_) fun A => ?_
 refine Zr <| Zi rfl <| Zw (.int .i64 0) rfl <| Zi rfl <| cT <| Zt <| d6 (v := .int .i64 0) rfl (v1 := .int .i64 _) rfl ?_
 exact ⟨_, 0, _, rfl, hX, hD, j.fail A Om⟩
 refine c7 <| af _ _ ?_
 have he : J = 0 := Decidable.of_not_not A
 subst he
 refine Zr <| Zp rfl <| Zw v1 rfl <| Zi rfl <| Zv (dm rfl rfl Om Om) <| ZH Ah (ih N ba bm bz R ad _ (yi l lv l.length) (lv + 1) _ (Nat.le_trans hN0 (Below.size hB)) hz hD hoo.sl (fun m h => hm m (Pa h)) Om Om Om) rfl fun aL aM ag => ?_
 obtain ⟨ah, K, L, rfl, c, ai, o⟩ := ag
 replace hz := At.dx hD c hz Dd Dd
 replace hX := Dx.trans hX (c)
 replace hB := Below.dx hB (Nat.le_refl _) hN0 c
 replace ho := dh.dx hD c ho Dd Dd
 replace hoo := dh.dx hD c hoo Dd Dd
 replace hD := ai
 refine Zw (.tuple #[.int .i64 (K : Int), .int .i64 L]) rfl <| Zv (dG rfl) <| Zv (dJ rfl) <| Zi rfl <| Zi rfl <| cT <| cY fun aN aj => Zr <| Zi rfl <| Zv (f4 rfl rfl) <| cT <| ZQ rfl (fun B => ?_) fun B => ?_
 refine Zr <| Zi rfl <| Zw (.int .i64 0) rfl <| Zi rfl <| cT <| Zt <| d6 (v := .int .i64 0) rfl (v1 := .int .i64 _) rfl ?_
 exact ⟨_, 0, _, rfl, hX, hD, j.fail2 o B Om⟩
 refine c7 <| aj _ _ ?_
 have he : L = 0 := Decidable.of_not_not B
 subst he
 have hw16 := hD.wf
 obtain ⟨v1, aO, _⟩ := j.ok rfl
 obtain ⟨p1, _, p3⟩ := o.old v1
 obtain ⟨q1, q2, _⟩ := o.ok rfl
 refine Zr <| Zp rfl <| Zi rfl <| Zi rfl <| Zi rfl <| ZH Es (nA N ba bm bz R ah lv I K _ (Nat.le_trans hN0 (Below.size hB)) hz hD p1 q1 Om Om h24) rfl fun aP aQ ak => ?_
 obtain ⟨aR, aS, aT, rfl, d, al, ao⟩ := ak
 replace hz := At.dx hD d hz Dd Dd
 replace hX := Dx.trans hX (d)
 replace hB := Below.dx hB (Nat.le_refl _) hN0 d
 replace ho := dh.dx hD d ho Dd Dd
 replace hoo := dh.dx hD d hoo Dd Dd
 replace hD := al
 refine Zv (dG rfl) <| Zv (dJ rfl) <| Zi rfl <| Zi rfl <| cT <| Zt <| d6 (v := .int .i64 _) rfl (v1 := .int .i64 _) rfl ?_
 exact ⟨_, _, _, rfl, hX, hD, Gt hw16 h24 hne j o ao⟩
theorem AS : ∀ n, EJ n
  | 0 => fun N ba bm bz R ns xl l lv w _ _ _ _ _ _ hlv hn => by omega
  | n + 1 => fun N ba bm bz R ns xl l lv w => LZ n N ba bm bz R ns xl l lv w (AS n)
theorem pk (N ba bm bz R : Nat) (ns : List Nd) (xl : Value) (l : List Int) (w : World) (hN0 : N ≤ w.heap.size) (hz : At w bz #[.pointer (some ⟨ba, 0, none⟩)] 141) (hD : fI 163 188 N ba bm R w ns) (hl : dN ef 1 w xl l) (hll : l.length ≤ 1000000) :
    rl Tryz.prog 105 #[.pointer (some ⟨bz, 0, none⟩), xl] w fun v w' => PE 163 188 N ba bm R w ns (zI l) (vy 0 l) (0) (bS l 0) v w' := by
 refine fc (n := 28) Tryz.func105 rfl rfl (Nat.le_of_ble_eq_true rfl) ?_
 have hB : Below N w w := Below.refl _ _
 have hX : Dx 188 N [ba, bm] w w := Dx.refl
 have hwf := hD.wf
 have hroom := hD.room
 have htop := hD.top
 refine Zr <| Zw (.int .i64 0) rfl <| Zw (.int .i64 0) rfl <| cT <| cY fun K3 d => Zr <| Zp rfl <| Zv (p7 rfl rfl Tryz.underlying102) <| cT <| dX rfl <| c7 <| d _ _ <| cY fun K7 e => Zr ?_
 refine Zw xl rfl <| Zv (dz (v := xl) rfl hl dw) <| Zw (.int .i64 0) rfl <| cT <| c9 ?_
 refine dy (σ := (Nat)) [4, 5, 7, 12, 13, 14, 15, 16, 17, 18, 19, 20, 21, 22] (fun k => [(12, .int .i64 (k : Int))]) (fun k W => (At W bz _ 141) ∧ (fI 163 188 N ba bm R W ns) ∧ (Dx 188 N [ba, bm] w W) ∧ (dN ef 1 W xl _) ∧ (Below N w W) ∧ (k ≤ l.length) ∧ (∀ q, q < k → 0 ≤ l.getD q 0 ∧ l.getD q 0 < 16777216) ∧ (True)) (fun k => l.length - k) (0) ⟨rfl, trivial⟩ ⟨hz, hD, hX, hl, hB, (Nat.zero_le _), eV, trivial⟩ ?_
 clear hz hD hX hl hB
 rintro k p r ⟨hz, hD, hX, hl, hB, hk, hq, _⟩ s f
 refine Zr <| Zv (dM rfl rfl) <| cT <| cY fun t g => ZQ rfl (fun h => ?_) fun h => ?_
 refine c7 <| g _ _ <| cY fun u i => c9 <| Zr <| Zv (dF (v := xl) rfl hl rfl dw Om Om) <| Zv (dk (v := .int .i64 _) rfl du (dN.cell hl eI 0 Om Om 0 rfl)) <| Zi rfl <| cT <| Zr <| Zi rfl <| Zv (dM rfl rfl) <| ZX rfl (fun a => ?_) fun a => ?_
 refine Zs <| Zs <| Zw (.bool true) rfl <| cT <| dB rfl <| Zr <| Zw (.int .i64 0) rfl <| Zw (.int .i64 1) rfl <| cT <| Zt <| d6 (v := .int .i64 0) rfl (v1 := .int .i64 1) rfl ?_
 exact ⟨ns, 0, 1, rfl, hX, hD, .inr ⟨Nz (k := k) Om (.inl a), rfl, rfl, rfl⟩⟩
 refine Zi rfl <| Zv (mV rfl rfl) <| Zb rfl <| cT <| ZQ rfl (fun b => ?_) fun b => ?_
 refine Zr <| Zw (.int .i64 0) rfl <| Zw (.int .i64 1) rfl <| cT <| Zt <| d6 (v := .int .i64 0) rfl (v1 := .int .i64 1) rfl ?_
 exact ⟨ns, 0, 1, rfl, hX, hD, .inr ⟨Nz (k := k) Om (.inr b), rfl, rfl, rfl⟩⟩
 refine c7 <| i _ _ <| cZ <| Zv (dm rfl rfl Om Om) <| Zi rfl <| cT ?_
 exact f _ _ (k + 1) Za ⟨rfl, trivial⟩ ⟨hz, hD, hX, hl, hB, Om, (ek hq ⟨Int.not_lt.1 a, Int.not_le.1 b⟩), trivial⟩ Zo
 refine dr <| e _ _ ?_
 have hok := LU (l := l) (k := k) (by omega) hq
 refine Zr <| Zp rfl <| Zw xl rfl <| ZH Ah (AS 25 N ba bm bz R ns _ l 0 _ (Nat.le_trans hN0 (Below.size hB)) hz hD hl (qT.1 hok) hll Om Om) rfl fun x y j => ?_
 obtain ⟨z, A, B, rfl, c, m, o⟩ := j
 replace hz := At.dx hD c hz Dd Dd
 replace hX := Dx.trans hX (c)
 try clear hl
 replace hB := Below.dx hB (Nat.le_refl _) hN0 c
 replace hD := m
 refine Zv (dG rfl) <| Zv (dJ rfl) <| Zi rfl <| Zi rfl <| cT <| Zt <| d6 (v := .int .i64 _) rfl (v1 := .int .i64 _) rfl ?_
 exact ⟨_, _, _, rfl, hX, hD, .inl ⟨hok, o⟩⟩
end
section
open Go Go.RowKit
theorem Lj : eO Tryz.prog 163 = some (.agg #[.int .i64 0, .slice none 0 0, .map none]) := by kernel_rfl
theorem DJ : (Tryz.prog.info? 160).map (·.size) = some 1 := by kernel_rfl
theorem CS : (Tryz.prog.info? 161).map (·.size) = some 1 := by kernel_rfl
theorem uz {f : Nat → Value} {w : World} {d : Option Nat} {ty : TypeId} {ps : String} {af : Array Edge} {g : Option (Nat × Bool)} {x0 x1 : Operand} {c0_0 c1_0 : Value} (h0 : dP f x0 = c0_0) (k0 : c0_0.cells = #[c0_0]) (h1 : dP f x1 = c1_0) (k1 : c1_0.cells = #[c1_0]) :
    (execOp (dP f) ⟨d, .build 163 #[(0, x0), (2, x1)], ty, ps, af, g⟩).run Tryz.prog w = .ok (.value (.agg #[c0_0, .slice none 0 0, c1_0])) w := by
  obtain ⟨i0, hi0, hz0⟩ := Option.bind_eq_some_iff.1 (show (Tryz.prog.info? 163).bind (·.zero) = _ from Lj)
  obtain ⟨j3, hj3, hs3⟩ := Option.map_eq_some_iff.1 iu
  obtain ⟨j160, hj160, hs160⟩ := Option.map_eq_some_iff.1 DJ
  obtain ⟨j161, hj161, hs161⟩ := Option.map_eq_some_iff.1 CS
  simp [execOp, h0, k0, h1, k1, Instr.build, zeroValue, typeInfo, sizeOf, hi0, hz0, run_underlying Tryz.underlying163, Instr.fill, fe, hj3, hs3, hj160, hs160, hj161, hs161]
theorem PH : dD Tryz.prog 99 = true := by kernel_rfl
theorem Ln : eO Tryz.prog 141 = some (.agg #[.pointer none]) := by kernel_rfl
theorem D9 : (Tryz.prog.info? 137).map (·.size) = some 1 := by kernel_rfl
theorem xV {f : Nat → Value} {w : World} {d : Option Nat} {ty : TypeId} {ps : String} {af : Array Edge} {g : Option (Nat × Bool)} {x0 : Operand} {c0_0 : Value} (h0 : dP f x0 = c0_0) (k0 : c0_0.cells = #[c0_0]) :
    (execOp (dP f) ⟨d, .build 141 #[(0, x0)], ty, ps, af, g⟩).run Tryz.prog w = .ok (.value (.agg #[c0_0])) w := by
  obtain ⟨i0, hi0, hz0⟩ := Option.bind_eq_some_iff.1 (show (Tryz.prog.info? 141).bind (·.zero) = _ from Ln)
  obtain ⟨j137, hj137, hs137⟩ := Option.map_eq_some_iff.1 D9
  simp [execOp, h0, k0, Instr.build, zeroValue, typeInfo, sizeOf, hi0, hz0, run_underlying Tryz.underlying141, Instr.fill, fe, hj137, hs137]
theorem BZ (R : Nat) (w : World) (hR : R ≤ 20000) :
    Fn Tryz.prog 99 #[.int .i64 (R : Int)] w fun v w' => ∃ ba bm, v = .tuple #[.pointer (some ⟨ba, 0, none⟩), .int .i64 0] ∧ fI 163 188 w.heap.size ba bm R w' [] := by
 refine dq (n := 14) Tryz.func99 rfl rfl (Nat.le_of_ble_eq_true rfl) ?_
 have hB : Below w.heap.size w w := Below.refl _ _
 refine Zr <| Zw (.pointer none) rfl <| Zw (.int .i64 0) rfl <| cT <| cY fun K3 h => Zr <| Zi rfl <| Zv (dM rfl rfl) <| ZX rfl (fun b => ?_) fun b => ?_
 exact absurd b Om
 refine Zi rfl <| Zv (iE rfl rfl) <| Zb rfl <| cT <| ZQ rfl (fun d => ?_) fun d => ?_
 exact absurd d Om
 refine c7 <| h _ _ <| Zr <| Zi rfl <| Zy (gR (enc := t4) (encV := eN) fun i W9 e j a => ?_)
 have k := ZO e hB
 clear e
 replace hB := Ze hB j
 refine Zv (uz (h0 := rfl) (k0 := rfl) (h1 := rfl) (k1 := rfl) (c0_0 := .int .i64 _) (c1_0 := .map (some i))) <| Zy (dY (c := #[_, _, _]) rfl rfl fun l p f g m => ?_)
 have o := ZO f hB
 clear f
 replace hB := Ze hB g
 replace a := g.mapT a
 refine Zp rfl <| Zw (.int .i64 0) rfl <| cT <| Zt <| d6 (v := .pointer (some ⟨l, 0, none⟩)) rfl (v1 := .int .i64 0) rfl ⟨hB, ?_⟩
 exact ⟨_, _, rfl, ⟨⟨_, m, dh.nil⟩, a, o, k, Wf.nil, Nat.zero_le _, hR⟩⟩
theorem Gj (R : Nat) (w : World) (hR : R ≤ 20000) :
    Fn Tryz.prog 65 #[.int .i64 (R : Int)] w fun v w' => ∃ bz ba bm, v = .tuple #[.pointer (some ⟨bz, 0, none⟩), .int .i64 0] ∧ At w' bz #[.pointer (some ⟨ba, 0, none⟩)] 141 ∧ fI 163 188 w.heap.size ba bm R w' [] := by
 refine dq (n := 17) Tryz.func65 rfl rfl (Nat.le_of_ble_eq_true rfl) ?_
 have hB : Below w.heap.size w w := Below.refl _ _
 refine Zr <| Zw (.pointer none) rfl <| Zw (.int .i64 0) rfl <| cT <| Zr <| Zi rfl <| ZC PH (BZ _ _ (by first | assumption | omega)) rfl fun k W5 e f => ?_
 have g := (Below.size hB)
 replace hB := Ze hB e
 obtain ⟨ba, bm, rfl, hD⟩ := f
 replace hD := fI.mono hD g
 refine Zw (.tuple #[.pointer (some ⟨ba, 0, none⟩), .int .i64 0]) rfl <| Zv (dG rfl) <| Zv (dJ rfl) <| Zp rfl <| Zw (.int .i64 0) rfl <| cT <| cY fun K8 h => Zr <| Zw (.int .i64 0) rfl <| Zv (f4 rfl rfl) <| cT <| ZQ rfl (fun a => ?_) fun a => ?_
 exact absurd rfl a
 refine c7 <| h _ _ <| Zr <| Zp rfl <| Zv (xV (h0 := rfl) (k0 := rfl) (c0_0 := .pointer (some ⟨ba, 0, none⟩))) <| Zy (dY (c := #[_]) rfl rfl fun i l b d j => ?_)
 have m := ZO b hB
 clear b
 replace hB := Ze hB d
 replace hD := fI.ext d hD
 refine Zp rfl <| Zw (.int .i64 0) rfl <| cT <| Zt <| d6 (v := .pointer (some ⟨i, 0, none⟩)) rfl (v1 := .int .i64 0) rfl ⟨hB, ?_⟩
 exact ⟨_, _, _, rfl, j, hD⟩
end
section
open Go Go.RowKit
def n6 (m v : Nat) : Nat → Nat
 | 0 => 0
 | k + 1 => n6 m v k + (if m.testBit k = true then 2 ^ (2 * k + (if v.testBit k = true then 1 else 0)) else 0)
def q8 (c : Cb) : Nat := n6 c.m c.v 8
theorem NT (k : Nat) : 2 ^ (2 * k) + 2 ^ (2 * k) + 2 ^ (2 * k) + 2 ^ (2 * k) = 2 ^ (2 * (k + 1)) := by
 rw [show 2 * (k + 1) = 2 * k + 1 + 1 by omega, Nat.pow_succ, Nat.pow_succ]
 omega
theorem MW (k : Nat) : 2 ^ (2 * k + 1) = 2 ^ (2 * k) + 2 ^ (2 * k) := by rw [Nat.pow_succ]; omega
theorem y5 (m v : Nat) : ∀ k, n6 m v k < 2 ^ (2 * k)
 | 0 => by simp [n6]
 | k + 1 => by
  have ih := y5 m v k
  have h1 := NT k
  have h2 := MW k
  rw [n6]
  split
  ·split
   ·rw [h2]; omega
   ·rw [Nat.add_zero]; omega
  ·omega
theorem JC {x a e t : Nat} (hx : x < 2 ^ a) (ha : a ≤ e) : (x + 2 ^ e).testBit t = (x.testBit t || decide (t = e)) := by
 have hlt : x < 2 ^ e := Nat.lt_of_lt_of_le hx (Nat.pow_le_pow_right (by decide) ha)
 have h := Nat.two_pow_add_eq_or_of_lt hlt 1
 rw [Nat.mul_one] at h
 rw [Nat.add_comm, h, Nat.testBit_or, Nat.testBit_two_pow, Bool.or_comm]
 by_cases q : t = e
 ·subst q; simp
 ·have : ¬ e = t := fun k => q k.symm
  simp [q, this]
theorem pC (m v : Nat) : ∀ (k j b : Nat), b < 2 → ((n6 m v k).testBit (2 * j + b) = true ↔ j < k ∧ m.testBit j = true ∧ v.testBit j = decide (b = 1))
 | 0, j, b, _ => by simp [n6]
 | k + 1, j, b, hb => by
  have ih := pC m v k j b hb
  rw [n6]
  by_cases hm : m.testBit k = true
  ·rw [if_pos hm]
   generalize hv : (if v.testBit k = true then 1 else 0 : Nat) = d
   have hd : d < 2 ∧ v.testBit k = decide (d = 1) := by
    subst hv
    split
    ·rename_i h; exact ⟨by omega, by rw [h]; rfl⟩
    ·rename_i h; exact ⟨by omega, by simpa using h⟩
   rw [JC (y5 m v k) (by omega), Bool.or_eq_true, ih, decide_eq_true_iff]
   constructor
   ·rintro (⟨h1, h2, h3⟩ | h)
    ·exact ⟨by omega, h2, h3⟩
    ·obtain rfl : j = k := by omega
     obtain rfl : b = d := by omega
     exact ⟨by omega, hm, hd.2⟩
   ·rintro ⟨h1, h2, h3⟩
    by_cases e : j = k
    ·subst e
     rw [hd.2] at h3
     have : (d = 1) ↔ (b = 1) := decide_eq_decide.1 h3
     exact .inr (by omega)
    ·exact .inl ⟨by omega, h2, h3⟩
  ·rw [if_neg hm, Nat.add_zero, ih]
   constructor
   ·rintro ⟨h1, h2⟩; exact ⟨by omega, h2⟩
   ·rintro ⟨h1, h2, h3⟩
    refine ⟨?_, h2, h3⟩
    by_cases e : j = k
    ·subst e; exact absurd h2 hm
    ·omega
theorem zr {c d : Cb} (h : q8 c = q8 d) {j : Nat} (hj : j < 8) (hc : c.m.testBit j = true) : d.m.testBit j = true ∧ d.v.testBit j = c.v.testBit j := by
 unfold q8 at h
 cases hv : c.v.testBit j with
 | false =>
  have h1 := (pC c.m c.v 8 j 0 (by decide)).2 ⟨hj, hc, hv⟩
  rw [h] at h1
  exact ((pC d.m d.v 8 j 0 (by decide)).1 h1).2
 | true =>
  have h1 := (pC c.m c.v 8 j 1 (by decide)).2 ⟨hj, hc, hv⟩
  rw [h] at h1
  exact ((pC d.m d.v 8 j 1 (by decide)).1 h1).2
theorem A8 {c d : Cb} (hc : c.m < 256) (hd : d.m < 256) (vc : c.v &&& c.m = c.v) (vd : d.v &&& d.m = d.v) (h : q8 c = q8 d) : c = d := by
 have hi : ∀ (a : Nat), a < 256 → ∀ j, 8 ≤ j → a.testBit j = false := fun a ha j hj => (f7 (n := 8)).1 ha j hj
 have em : c.m = d.m := Nat.eq_of_testBit_eq fun j => by
  rcases Nat.lt_or_ge j 8 with hj | hj
  ·cases e1 : c.m.testBit j with
   | true => exact (zr h hj e1).1.symm
   | false =>
    cases e2 : d.m.testBit j with
    | false => rfl
    | true => rw [(zr h.symm hj e2).1] at e1; cases e1
  ·rw [hi _ hc j hj, hi _ hd j hj]
 have ev : c.v = d.v := Nat.eq_of_testBit_eq fun j => by
  rcases Nat.lt_or_ge j 8 with hj | hj
  ·cases e1 : c.m.testBit j with
   | true => exact (zr h hj e1).2.symm
   | false => rw [eZ vc, eZ vd, ← em, e1, Bool.and_false, Bool.and_false]
  ·rw [eZ vc, eZ vd, hi _ hc j hj, hi _ hd j hj, Bool.and_false, Bool.and_false]
 cases c; cases d
 simp only [Cb.mk.injEq]
 exact ⟨em, ev⟩
theorem AM (m v i : Nat) (h : ∀ j, j < i → m.testBit j = false) : ∀ k, 2 ^ (2 * i) ∣ n6 m v k
 | 0 => Nat.dvd_zero _
 | k + 1 => by
  rw [n6]
  refine Nat.dvd_add (AM m v i h k) ?_
  split
  ·rename_i hk
   refine Nat.pow_dvd_pow 2 ?_
   have : ¬ k < i := fun q => by rw [h k q] at hk; cases hk
   omega
  ·exact Nat.dvd_zero _
theorem yK {c : Cb} {i one : Nat} (h1 : one = 0 ∨ one = 1) (hm : c.m.testBit i = false) (hv : c.v.testBit i = false) : ∀ k, n6 (iA i one c).m (iA i one c).v k = n6 c.m c.v k + (if i < k then 2 ^ (2 * i + one) else 0)
 | 0 => by simp [n6]
 | k + 1 => by
  have ih := yK h1 hm hv k
  have lm := jx c i one k
  have lv : (iA i one c).v.testBit k = (c.v.testBit k || (decide (k = i) && decide (one = 1))) := by
   rcases h1 with rfl | rfl
   ·rw [nb]; simp
   ·rw [nD]; simp
  rw [n6, n6, ih, lm, lv]
  by_cases e : k = i
  ·subst e
   rcases h1 with rfl | rfl <;> simp [hm, hv]
  ·rw [decide_eq_false e, Bool.or_false, Bool.false_and, Bool.or_false]
   by_cases q : i < k
   ·have q2 : i < k + 1 := by omega
    rw [if_pos q, if_pos q2]
    omega
   ·have q2 : ¬ i < k + 1 := by omega
    rw [if_neg q, if_neg q2]
    omega
structure Rt (n : Nat) (c : Cb) : Prop where
 m : c.m < 2 ^ n
 v : c.v &&& c.m = c.v
def Ex (n s : Nat) (c : Cb) : Prop := ∀ p, p < 2 ^ n → hold c p → s.testBit p = true
theorem OP {n : Nat} (h8 : n ≤ 8) {c : Cb} : d7 c.m c.v (n : Int) = true ↔ Rt n c := by
 rw [d4, Int.toNat_natCast]
 exact ⟨fun h => ⟨h.2.2.1, h.2.2.2⟩, fun h => ⟨by omega, by omega, h.m, h.v⟩⟩
theorem FT {n i : Nat} {c : Cb} (hi : i < 8) (h : Rt n c) : Rt n (ji c i) := by
 refine ⟨f7.2 fun j hj => ?_, ?_⟩
 ·show (jN c.m (i : Int)).testBit j = false
  rw [eQ hi, f7.1 h.m j hj, Bool.false_and]
 ·show (c.v &&& jN c.m (i : Int)) &&& jN c.m (i : Int) = _
  rw [Nat.and_assoc, Nat.and_self]
  rfl
theorem fN {n s : Nat} (h8 : n ≤ 8) {c : Cb} : gT c.m c.v s (n : Int) = true ↔ Rt n c ∧ Ex n s c ∧ ∀ i, i < n → c.m.testBit i = true → ¬ Ex n s (ji c i) := by
 have hw : ∀ d : Cb, pv d.m d.v s (n : Int) = true ↔ Rt n d ∧ Ex n s d := fun d => by
  have := gm (s := s) (n := (n : Int)) (c := d)
  rw [OP h8, Int.toNat_natCast] at this
  exact this
 rw [gg, hw, Int.toNat_natCast]
 constructor
 ·rintro ⟨⟨h1, h2⟩, h3⟩
  refine ⟨h1, h2, fun i hi hb hq => ?_⟩
  have h4 := h3 i hi
  unfold kL at h4
  rw [hb, Bool.true_and] at h4
  have h5 := (hw (ji c i)).2 ⟨FT (by omega) h1, hq⟩
  have h6 : pv (jN c.m (i : Int)) (c.v &&& jN c.m (i : Int)) s (n : Int) = true := h5
  rw [h4] at h6
  cases h6
 ·rintro ⟨h1, h2, h3⟩
  refine ⟨⟨h1, h2⟩, fun i hi => Bool.eq_false_iff.2 fun h4 => ?_⟩
  unfold kL at h4
  obtain ⟨h5, h6⟩ := Bool.and_eq_true_iff.1 h4
  exact h3 i hi h5 ((hw (ji c i)).1 h6).2
def tB (n s x : Nat) : Prop := ∃ c : Cb, gT c.m c.v s (n : Int) = true ∧ x = q8 c
structure un (n s i : Nat) : Prop where
 le : i ≤ n
 out : ∀ p, p < 256 → s.testBit p = true → p < 2 ^ n
 free : ∀ p j, p < 256 → j < i → s.testBit (p ^^^ 2 ^ j) = s.testBit p
theorem KT {n s : Nat} (h : ∀ p, p < 256 → s.testBit p = true → p < 2 ^ n) : un n s 0 := ⟨Nat.zero_le _, h, fun _ j _ hj => absurd hj (Nat.not_lt_zero j)⟩
section
variable {n s t i : Nat}
theorem un.good (h : un n s i) : m8 n 0 s i := ⟨h.le, fun p _ hq => (by rw [Nat.zero_testBit] at hq; cases hq), h.out, fun p j _ _ => (by rw [Nat.zero_testBit, Nat.zero_testBit]), h.free⟩
theorem un.side (h8 : n ≤ 8) (h : un n s i) (hi : i < n) (x : Bool) : un n (dp s i x) (i + 1) := by
 have g := h.good.side h8 hi x
 exact ⟨g.le, g.out, g.freeM⟩
theorem un.and (h : un n s i) (k : un n t i) : un n (s &&& t) i := by
 refine ⟨h.le, fun p hp hq => ?_, fun p j hp hj => ?_⟩
 ·rw [Nat.testBit_and, Bool.and_eq_true] at hq
  exact h.out p hp hq.1
 ·rw [Nat.testBit_and, Nat.testBit_and, h.free p j hp hj, k.free p j hp hj]
theorem un.lt (h8 : n ≤ 8) (h : un n s i) (h0 : ¬ xE s 0 = true) (h1 : ¬ xE s (fo n) = true) : i < n := by
 rcases Nat.lt_or_ge i n with k | k
 ·exact k
 ·obtain rfl : i = n := by have := h.le; omega
  have g : m8 i s s i := ⟨h.le, fun _ _ q => q, h.out, h.free, h.free⟩
  rcases g.end h8 with q | q
  ·exact absurd q h0
  ·exact absurd q h1
theorem LI {c : Cb} {j : Nat} (hj : j < 8) (hv : c.v &&& c.m = c.v) (hb : c.m.testBit j = false) : ji c j = c := by
 have e : jN c.m (j : Int) = c.m := Nat.eq_of_testBit_eq fun q => by
  rw [eQ hj]
  by_cases k : q = j
  ·subst k; rw [hb]; rfl
  ·simp [k]
 show Cb.mk (jN c.m (j : Int)) (c.v &&& jN c.m (j : Int)) = c
 rw [e, hv]
theorem Ca (h8 : n ≤ 8) {c : Cb} (hc : Rt n c) {j : Nat} (hj : j < n) (hf : ∀ p, p < 2 ^ n → s.testBit (p ^^^ 2 ^ j) = s.testBit p) (h : Ex n s c) : Ex n s (ji c j) := by
 intro p hp hh
 by_cases hb : c.m.testBit j = true
 ·have hh' : p &&& jN c.m (j : Int) = c.v &&& jN c.m (j : Int) := hh
  rcases (yJ (by omega) hb hc.v).1 hh' with k | k
  ·exact h p hp k
  ·rw [← hf p hp]
   refine h _ (zu hj hp) ?_
   unfold hold
   refine Nat.eq_of_testBit_eq fun q => ?_
   have e := congrArg (fun x => x.testBit q) k
   simp only [Nat.testBit_and, nu] at e ⊢
   by_cases e2 : q = j
   ·subst e2
    rw [if_pos rfl]
    rw [if_pos rfl, hb, Bool.and_true] at e
    rw [hb, Bool.and_true, e, Bool.not_not]
   ·rw [if_neg e2] at e ⊢
    exact e
 ·refine h p hp ?_
  have e : ji c j = c := LI (by omega) hc.v (by simpa using hb)
  rw [e] at hh
  exact hh
theorem rT (h8 : n ≤ 8) (h : un n s i) {c : Cb} (hp : gT c.m c.v s (n : Int) = true) {j : Nat} (hj : j < i) : c.m.testBit j = false := by
 obtain ⟨h1, h2, h3⟩ := (fN h8).1 hp
 have hle := h.le
 have h256 := fW h8
 refine Bool.eq_false_iff.2 fun hb => h3 j (by omega) hb ?_
 exact Ca h8 h1 (by omega) (fun p hp => h.free p j (by omega) hj) h2
theorem sj (h8 : n ≤ 8) (h : un n s i) {x : Nat} (hx : tB n s x) : 2 ^ (2 * i) ∣ x := by
 obtain ⟨c, hc, rfl⟩ := hx
 exact AM _ _ _ (fun j hj => rT h8 h hc hj) 8
theorem zA (h8 : n ≤ 8) {x : Nat} (hx : tB n s x) : x < 2 ^ (2 * n) := by
 obtain ⟨c, hc, rfl⟩ := hx
 obtain ⟨h1, _, _⟩ := (fN h8).1 hc
 have key : ∀ d, n6 c.m c.v (n + d) = n6 c.m c.v n := fun d => by
  induction d with
  | zero => rfl
  | succ d ih => rw [← Nat.add_assoc, n6, f7.1 h1.m (n + d) (by omega), ih]; simp
 unfold q8
 rw [show 8 = n + (8 - n) by omega, key]
 exact y5 _ _ _
theorem QX (h8 : n ≤ 8) (h : xE s 0 = true) (x : Nat) : ¬ tB n s x := by
 rintro ⟨c, hc, rfl⟩
 obtain ⟨h1, h2, _⟩ := (fN h8).1 hc
 have h256 := fW h8
 have hv : c.v < 2 ^ n := f7.2 fun j hj => by rw [eZ h1.v, f7.1 h1.m j hj, Bool.and_false]
 have h3 := h2 c.v hv h1.v
 rw [qN.1 h c.v (by omega), Nat.zero_testBit] at h3
 cases h3
theorem Ma (h8 : n ≤ 8) (h : xE s (fo n) = true) (x : Nat) : tB n s x ↔ x = 0 := by
 have h256 := fW h8
 have all : ∀ c, Ex n s c := fun c p hp _ => by rw [qN.1 h p (by omega), fR]; exact decide_eq_true hp
 constructor
 ·rintro ⟨c, hc, rfl⟩
  obtain ⟨h1, h2, h3⟩ := (fN h8).1 hc
  have hm : ∀ j, c.m.testBit j = false := fun j => by
   rcases Nat.lt_or_ge j n with k | k
   ·exact Bool.eq_false_iff.2 fun hb => h3 j k hb (all _)
   ·exact f7.1 h1.m j k
  have key : ∀ k, n6 c.m c.v k = 0 := fun k => by
   induction k with
   | zero => rfl
   | succ k ih => rw [n6, ih, hm]; rfl
  exact key 8
 ·rintro rfl
  refine ⟨⟨0, 0⟩, (fN h8).2 ⟨⟨Nat.two_pow_pos n, rfl⟩, all _, fun i _ hb => ?_⟩, rfl⟩
  rw [Nat.zero_testBit] at hb; cases hb
theorem u6 (h8 : n ≤ 8) (hi : i < n) {c : Cb} (hc : Rt n c) (hm : c.m.testBit i = false) (b : Bool) : Ex n (dp s i b) c ↔ Ex n s (iA i (if b = true then 1 else 0) c) := by
 have h256 := fW h8
 have h1 : (if b = true then 1 else 0 : Nat) = 0 ∨ (if b = true then 1 else 0 : Nat) = 1 := by cases b; exact .inl rfl; exact .inr rfl
 have hb : decide ((if b = true then 1 else 0 : Nat) = 1) = b := by cases b <;> rfl
 constructor
 ·intro h p hp hh
  obtain ⟨k1, k2⟩ := (sD h1 hc.v hm).1 hh
  rw [hb] at k1
  have := ((fP (by omega)).1 (h p hp k2)).2
  rwa [kQ k1] at this
 ·intro h p hp hh
  refine (fP (by omega)).2 ⟨by omega, h _ ((kB hi).2 hp) ((sD h1 hc.v hm).2 ⟨?_, (xf hm).2 hh⟩)⟩
  rw [iX, if_pos rfl, hb]
theorem vm (h8 : n ≤ 8) (hi : i < n) {c : Cb} (hm : c.m.testBit i = false) : Ex n (dp s i false &&& dp s i true) c ↔ Ex n s c := by
 have h256 := fW h8
 constructor
 ·intro h p hp hh
  have h2 := h p hp hh
  rw [Nat.testBit_and, Bool.and_eq_true] at h2
  cases hb : p.testBit i with
  | false => have := ((fP (by omega)).1 h2.1).2; rwa [kQ hb] at this
  | true => have := ((fP (by omega)).1 h2.2).2; rwa [kQ hb] at this
 ·intro h p hp hh
  rw [Nat.testBit_and, Bool.and_eq_true]
  exact ⟨(fP (by omega)).2 ⟨by omega, h _ ((kB hi).2 hp) ((xf hm).2 hh)⟩, (fP (by omega)).2 ⟨by omega, h _ ((kB hi).2 hp) ((xf hm).2 hh)⟩⟩
theorem qi {c : Cb} {j q : Nat} (hj : j < 8) : (ji c j).m.testBit q = (c.m.testBit q && decide (q ≠ j)) := eQ hj q
theorem Fm {c : Cb} {i j one : Nat} (hi : i < 8) (hj : j < 8) (hij : ¬ j = i) (h1 : one = 0 ∨ one = 1) (hv : c.v.testBit i = false) : ji (iA i one c) j = iA i one (ji c j) := by
 have e1 : (ji (iA i one c) j).m = (iA i one (ji c j)).m := Nat.eq_of_testBit_eq fun q => by
  rw [qi hj, jx, jx, qi hj]
  by_cases e : q = i
  ·subst e; have : ¬ q = j := fun k => hij k.symm; simp [this]
  ·simp [e]
 have vv : ∀ (d : Cb) (q : Nat), (ji d j).v.testBit q = (d.v.testBit q && (d.m.testBit q && decide (q ≠ j))) := fun d q => by
  show (d.v &&& jN d.m (j : Int)).testBit q = _
  rw [Nat.testBit_and, eQ hj]
 have e2 : (ji (iA i one c) j).v = (iA i one (ji c j)).v := Nat.eq_of_testBit_eq fun q => by
  rw [vv, jx]
  rcases h1 with rfl | rfl
  ·rw [nb, nb, vv]
   by_cases e : q = i
   ·subst e
    rw [hv, Bool.false_and, Bool.false_and]
   ·simp [e]
  ·rw [nD, nD, vv]
   by_cases e : q = i
   ·subst e; have : ¬ q = j := fun k => hij k.symm; simp [this]
   ·simp [e]
 cases h : ji (iA i one c) j
 cases k : iA i one (ji c j)
 rw [h, k] at e1 e2
 simp_all
theorem Pc {c : Cb} {one : Nat} (h1 : one = 0 ∨ one = 1) (hi : i < n) (hc : Rt n c) : Rt n (iA i one c) := by
 refine ⟨f7.2 fun j hj => ?_, Nat.eq_of_testBit_eq fun j => ?_⟩
 ·rw [jx, f7.1 hc.m j hj, Bool.false_or, decide_eq_false (by omega)]
 ·have hb := eZ hc.v j
  rw [Nat.testBit_and, jx]
  rcases h1 with rfl | rfl
  ·rw [nb, hb]
   cases c.v.testBit j <;> cases c.m.testBit j <;> rfl
  ·rw [nD]
   by_cases e : j = i
   ·subst e; simp
   ·simp only [decide_eq_false e, Bool.or_false]
    rw [hb]
    cases c.v.testBit j <;> cases c.m.testBit j <;> rfl
theorem KL (hi : i < n) (h8 : n ≤ 8) {c : Cb} (hc : Rt n c) (hm : c.m.testBit i = true) : c = iA i (if c.v.testBit i = true then 1 else 0) (ji c i) := by
 have hi8 : i < 8 := by omega
 have vv : ∀ q : Nat, (ji c i).v.testBit q = (c.v.testBit q && (c.m.testBit q && decide (q ≠ i))) := fun q => by
  show (c.v &&& jN c.m (i : Int)).testBit q = _
  rw [Nat.testBit_and, eQ hi8]
 have e1 : c.m = (iA i (if c.v.testBit i = true then 1 else 0) (ji c i)).m := Nat.eq_of_testBit_eq fun q => by
  rw [jx, qi hi8]
  by_cases e : q = i
  ·subst e; simp [hm]
  ·simp [e]
 have e2 : c.v = (iA i (if c.v.testBit i = true then 1 else 0) (ji c i)).v := Nat.eq_of_testBit_eq fun q => by
  have hb := eZ hc.v q
  cases hv : c.v.testBit i with
  | false =>
   rw [if_neg (by decide), nb, vv]
   by_cases e : q = i
   ·subst e; simp [hv]
   ·simp only [ne_eq, e, not_false_eq_true, decide_true, Bool.and_true]; exact hb
  | true =>
   rw [if_pos rfl, nD, vv]
   by_cases e : q = i
   ·subst e; simp [hv]
   ·simp only [ne_eq, e, not_false_eq_true, decide_true, Bool.and_true, decide_false, Bool.or_false]; exact hb
 cases h : iA i (if c.v.testBit i = true then 1 else 0) (ji c i)
 rw [h] at e1 e2
 cases c
 simp only [Cb.mk.injEq]
 exact ⟨e1, e2⟩
theorem G9 (h8 : n ≤ 8) (h : un n s i) (hi : i < n) (x : Nat) :
  tB n s x ↔ tB n (dp s i false &&& dp s i true) x ∨ (∃ y, (tB n (dp s i false) y ∧ ¬ tB n (dp s i false &&& dp s i true) y) ∧ x = y + 2 ^ (2 * i)) ∨ (∃ y, (tB n (dp s i true) y ∧ ¬ tB n (dp s i false &&& dp s i true) y) ∧ x = y + 2 ^ (2 * i + 1)) := by
 have hi8 : i < 8 := by omega
 have h256 := fW h8
 have hS := fun b => h.side h8 hi b
 have hC := (hS false).and (hS true)
 have wsub : ∀ b c, Ex n (dp s i false &&& dp s i true) c → Ex n (dp s i b) c := fun b c k p hp hh => by
  have := k p hp hh
  rw [Nat.testBit_and, Bool.and_eq_true] at this
  cases b with
  | false => exact this.1
  | true => exact this.2
 have one : ∀ b : Bool, (if b = true then 1 else 0 : Nat) = 0 ∨ (if b = true then 1 else 0 : Nat) = 1 := fun b => by cases b; exact .inl rfl; exact .inr rfl
 have A : ∀ c : Cb, c.m.testBit i = false → (gT c.m c.v s (n : Int) = true ↔ gT c.m c.v (dp s i false &&& dp s i true) (n : Int) = true) := fun c hm => by
  rw [fN h8, fN h8, vm h8 hi hm]
  refine and_congr_right fun hc => and_congr_right fun _ => ?_
  refine forall_congr' fun j => forall_congr' fun hj => forall_congr' fun hb => not_congr ?_
  exact (vm h8 hi (by rw [qi (by omega), hm, Bool.false_and])).symm
 have B : ∀ (b : Bool) (c : Cb), Rt n c → c.m.testBit i = false → (gT (iA i (if b = true then 1 else 0) c).m (iA i (if b = true then 1 else 0) c).v s (n : Int) = true ↔ gT c.m c.v (dp s i b) (n : Int) = true ∧ ¬ gT c.m c.v (dp s i false &&& dp s i true) (n : Int) = true) := fun b c hc hm => by
  have hv : c.v.testBit i = false := by rw [eZ hc.v, hm, Bool.and_false]
  have hrt := Pc (one b) hi hc
  have drop : ji (iA i (if b = true then 1 else 0) c) i = c := by
   have e1 : (ji (iA i (if b = true then 1 else 0) c) i).m = c.m := Nat.eq_of_testBit_eq fun q => by
    rw [qi hi8, jx]
    by_cases e : q = i
    ·subst e; simp [hm]
    ·simp [e]
   have e2 : (ji (iA i (if b = true then 1 else 0) c) i).v = c.v := Nat.eq_of_testBit_eq fun q => by
    show ((iA i (if b = true then 1 else 0) c).v &&& jN (iA i (if b = true then 1 else 0) c).m (i : Int)).testBit q = _
    have hb := eZ hc.v q
    rw [Nat.testBit_and, eQ hi8, jx]
    by_cases e : q = i
    ·subst e; rw [hv]; simp
    ·cases b with
     | false => rw [if_neg (by decide), nb]; simp only [decide_false, Bool.or_false, ne_eq, e, not_false_eq_true, decide_true, Bool.and_true]; exact hb.symm
     | true => rw [if_pos rfl, nD]; simp only [decide_false, Bool.or_false, ne_eq, e, not_false_eq_true, decide_true, Bool.and_true]; exact hb.symm
   cases k : ji (iA i (if b = true then 1 else 0) c) i
   rw [k] at e1 e2
   cases c
   simp only [Cb.mk.injEq]
   exact ⟨e1, e2⟩
  rw [fN h8, fN h8]
  constructor
  ·rintro ⟨_, h2, h3⟩
   have g2 := (u6 h8 hi hc hm b).2 h2
   refine ⟨⟨hc, g2, fun j hj hb hq => ?_⟩, fun hp => ?_⟩
   ·have hji : ¬ j = i := fun e => by rw [e, hm] at hb; cases hb
    refine h3 j hj (by rw [jx, hb, Bool.true_or]) ?_
    rw [Fm hi8 (by omega) hji (one b) hv]
    exact (u6 h8 hi (FT (by omega) hc) (by rw [qi (by omega), hm, Bool.false_and]) b).1 hq
   ·refine h3 i hi (by rw [jx, decide_eq_true rfl, Bool.or_true]) ?_
    rw [drop]
    exact (vm h8 hi hm).1 ((fN h8).1 hp).2.1
  ·rintro ⟨⟨_, h2, h3⟩, hn⟩
   refine ⟨hrt, (u6 h8 hi hc hm b).1 h2, fun j hj hb hq => ?_⟩
   by_cases hji : j = i
   ·subst hji
    rw [drop] at hq
    have g := (vm h8 hi hm).2 hq
    exact hn ((fN h8).2 ⟨hc, g, fun q hq2 hb2 hw => h3 q hq2 hb2 (wsub b _ hw)⟩)
   ·rw [jx, decide_eq_false hji, Bool.or_false] at hb
    rw [Fm hi8 (by omega) hji (one b) hv] at hq
    exact h3 j hj hb ((u6 h8 hi (FT (by omega) hc) (by rw [qi (by omega), hm, Bool.false_and]) b).2 hq)
 have inj : ∀ c d : Cb, Rt n c → Rt n d → q8 c = q8 d → c = d := fun c d hc hd e => A8 (by have := hc.m; omega) (by have := hd.m; omega) hc.v hd.v e
 have nz : ∀ (b : Bool) (c : Cb), gT c.m c.v (dp s i b) (n : Int) = true → Rt n c ∧ c.m.testBit i = false := fun b c hc => ⟨((fN h8).1 hc).1, rT h8 (hS b) hc (Nat.lt_succ_self i)⟩
 have mem : ∀ (b : Bool) (c : Cb), Rt n c → c.m.testBit i = false → q8 (iA i (if b = true then 1 else 0) c) = q8 c + 2 ^ (2 * i + (if b = true then 1 else 0)) := fun b c hc hm => by
  have hv : c.v.testBit i = false := by rw [eZ hc.v, hm, Bool.and_false]
  have := yK (one b) hm hv 8
  rw [if_pos hi8] at this
  exact this
 constructor
 ·rintro ⟨c, hc, rfl⟩
  have hrt := ((fN h8).1 hc).1
  cases hm : c.m.testBit i with
  | false => exact .inl ⟨c, (A c hm).1 hc, rfl⟩
  | true =>
   have e := KL hi h8 hrt hm
   have hd : (ji c i).m.testBit i = false := by rw [qi hi8]; simp
   have hdr := FT hi8 hrt
   rw [e] at hc
   obtain ⟨g1, g2⟩ := (B _ _ hdr hd).1 hc
   have em : q8 c = q8 (ji c i) + 2 ^ (2 * i + (if c.v.testBit i = true then 1 else 0)) := by
    conv => lhs; rw [e]
    exact mem _ _ hdr hd
   have hno : ¬ tB n (dp s i false &&& dp s i true) (q8 (ji c i)) := fun ⟨d, h1, h2⟩ => by
    have := inj _ _ hdr ((fN h8).1 h1).1 h2
    rw [this] at g2
    exact g2 h1
   cases hv : c.v.testBit i with
   | false =>
    rw [hv] at g1 em
    exact .inr (.inl ⟨_, ⟨⟨_, g1, rfl⟩, hno⟩, em⟩)
   | true =>
    rw [hv] at g1 em
    exact .inr (.inr ⟨_, ⟨⟨_, g1, rfl⟩, hno⟩, em⟩)
 ·have back : ∀ (b : Bool) (y : Nat), tB n (dp s i b) y → ¬ tB n (dp s i false &&& dp s i true) y → tB n s (y + 2 ^ (2 * i + (if b = true then 1 else 0))) := fun b y ⟨c, hc, e⟩ hn => by
   obtain ⟨h1, h2⟩ := nz b c hc
   exact ⟨_, (B b c h1 h2).2 ⟨hc, fun k => hn ⟨c, k, e⟩⟩, by rw [mem b c h1 h2, e]⟩
  rintro (⟨c, hc, rfl⟩ | ⟨y, ⟨h1, h2⟩, rfl⟩ | ⟨y, ⟨h1, h2⟩, rfl⟩)
  ·exact ⟨c, (A c (rT h8 hC hc (Nat.lt_succ_self i))).2 hc, rfl⟩
  ·exact back false y h1 h2
  ·exact back true y h1 h2
end
end
section
section
open Go Go.RowKit
theorem Fq (i : Nat) : ∀ n lv, KZ n lv (2 ^ i) ≤ 1 ∧ (i < lv → KZ n lv (2 ^ i) = 0)
 | 0, _ => ⟨Nat.zero_le _, fun _ => rfl⟩
 | n + 1, lv => by
  obtain ⟨h1, h2⟩ := Fq i n (lv + 1)
  rw [KZ, Nat.testBit_two_pow]
  by_cases h : i = lv
  ·subst h
   rw [decide_eq_true rfl, if_pos rfl, h2 (Nat.lt_succ_self i)]
   exact ⟨Nat.le_refl _, fun k => absurd k (Nat.lt_irrefl _)⟩
  ·rw [decide_eq_false h, if_neg (by decide)]
   exact ⟨by omega, fun k => by rw [h2 (by omega)]⟩
theorem LT (i : Nat) : vy 0 [((2 ^ i : Nat) : Int)] ≤ 1 := by
 have h := (Fq i (24 - 0) 0).1
 have e : vy 0 [((2 ^ i : Nat) : Int)] = KZ (24 - 0) 0 (((2 ^ i : Nat) : Int)).toNat + 0 := rfl
 rw [Int.toNat_natCast] at e
 omega
section
variable {ns ns' : List Nd} {f g i : Nat}
def zV (ns : List Nd) (g i : Nat) : Prop := ∀ x, x ∈ dR ns g ↔ x = 2 ^ i
theorem zV.node (h : Wf ns) (hg : g < ns.length + 2) (hi : i < 24) (hs : zV ns g i) : 2 ≤ g ∧ ee ns g = i ∧ dZ ns g i = 0 ∧ eo ns g i = 1 := by
 have hm : 2 ^ i ∈ dR ns g := (hs _).2 rfl
 have h2 : 2 ≤ g := by
  rcases Nat.lt_or_ge g 2 with k | k
  ·exfalso
   have e : g = 0 ∨ g = 1 := by omega
   rcases e with rfl | rfl
   ·rw [mC] at hm; cases hm
   ·rw [mO, List.mem_singleton] at hm
    have := Nat.two_pow_pos i
    omega
  ·exact k
 have h24 := nS h hg h2
 have H := ig h hg (Nat.le_refl _) h24
 have hl : ee ns g = i := by
  have hB : eo ns g (ee ns g) ≠ 0 := by
   obtain ⟨j, rfl⟩ : ∃ j, g = j + 2 := ⟨g - 2, by omega⟩
   unfold eo
   rw [if_pos ⟨by omega, rfl⟩, Nat.add_sub_cancel]
   exact (h.ok j (by omega)).2.2.1
  obtain ⟨y, hy⟩ := iG h _ H.vb hB
  have e := (hs _).1 ((H.mem _).2 (.inr ⟨y, hy, rfl⟩))
  have hb := j2 (gV H.lb (fk h _ H.vb y hy).1)
  rw [e, Nat.testBit_two_pow] at hb
  exact (of_decide_eq_true hb).symm
 rw [hl] at H
 refine ⟨h2, hl, ?_, ?_⟩
 ·rcases Nat.eq_zero_or_pos (dZ ns g i) with k | k
  ·exact k
  ·exfalso
   obtain ⟨y, hy⟩ := iG h _ H.va (by omega)
   have e := (hs _).1 ((H.mem _).2 (.inl hy))
   have hb := gn (gV H.la (fk h _ H.va y hy).1)
   rw [e, Nat.testBit_two_pow] at hb
   exact absurd hb (by simp)
 ·refine Ip h _ H.vb 1 (by omega) fun x => ?_
  rw [mO, List.mem_singleton]
  constructor
  ·intro hx
   have e := (hs _).1 ((H.mem _).2 (.inr ⟨x, hx, rfl⟩))
   omega
  ·rintro rfl
   rcases (H.mem _).1 hm with k | ⟨y, hy, e⟩
   ·exfalso
    have hb := gn (gV H.la (fk h _ H.va _ k).1)
    rw [Nat.testBit_two_pow] at hb
    exact absurd hb (by simp)
   ·have : y = 0 := by omega
    rw [← this]; exact hy
theorem r8 {n : Nat} (h : (CN f g).2 = true) : xC n ns f g = 0 := by
 cases n with
 | zero => rfl
 | succ n => rw [xC, if_pos h]
theorem Mx (h : Wf ns) (hf : f < ns.length + 2) (hg : g < ns.length + 2) (hi : i < 24) (hs : zV ns g i) (hl : i < ee ns f) : pA ns f g ≤ 1 := by
 obtain ⟨g2, gl, gA, gB⟩ := hs.node h hg hi
 unfold pA
 cases he : (CN f g).2 with
 | true => rw [r8 he]; omega
 | false =>
  obtain ⟨n, hn⟩ : ∃ n, 25 - min (ee ns f) (ee ns g) = n + 1 := ⟨24 - min (ee ns f) (ee ns g), by omega⟩
  have e : min (ee ns f) (ee ns g) = i := by omega
  have fA : dZ ns f i = f := if_neg (fun k => by omega)
  have fB : eo ns f i = 0 := if_neg (fun k => by omega)
  rw [hn, xC, if_neg (by rw [he]; decide), e, fA, fB, gA, gB]
  have e0 : ∀ x, (CN x 0).2 = true := fun x => by unfold CN; rw [if_pos (.inr rfl)]
  have e1 : ∀ x, (CN 0 x).2 = true := fun x => by unfold CN; rw [if_pos (.inl rfl)]
  have e2 : (CN f 1).2 = true := by
   unfold CN
   split
   ·rfl
   ·split
    ·rfl
    ·rfl
  rw [r8 (e0 f), r8 (e0 0), r8 e2, r8 (e1 1)]
  unfold K2 uJ
  rw [mC]
  simp
structure uZ (ns ns' : List Nd) (R c : Nat) (e : Int) : Prop where
 pre : ns <+: ns'
 st : (e = 0 ∧ ns'.length ≤ ns.length + c) ∨ (e = 5 ∧ R ≤ ns.length + c)
variable {ns1 ns2 : List Nd} {R c c1 c2 l id : Nat} {e e1 er : Int} {S : Nat → Prop}
theorem uZ.refl : uZ ns ns R 0 0 := ⟨List.prefix_refl _, .inl ⟨rfl, by omega⟩⟩
theorem uZ.mono (h : uZ ns ns' R c e) (hc : c ≤ c2) : uZ ns ns' R c2 e := ⟨h.pre, h.st.imp (fun k => ⟨k.1, by omega⟩) (fun k => ⟨k.1, by omega⟩)⟩
theorem uZ.ers (h : uZ ns ns' R c e) : e = 0 ∨ e = 5 := h.st.imp (·.1) (·.1)
theorem uZ.ok (h : uZ ns ns' R c e) (hR : ns.length + c < R) : e = 0 ∧ ns'.length ≤ ns.length + c := by
 rcases h.st with k | k
 ·exact k
 ·omega
def iD (e er : Int) : Int := if e = 0 then er else e
def jP (e er : Int) (id : Nat) : Nat := if iD e er = 0 then id else 0
theorem ib : iD e er = 0 ↔ e = 0 ∧ er = 0 := by
 unfold iD
 by_cases h : e = 0
 ·rw [if_pos h]; exact ⟨fun k => ⟨h, k⟩, fun k => k.2⟩
 ·rw [if_neg h]; exact ⟨fun k => absurd k h, fun k => absurd k.1 h⟩
theorem ln (h : iD e er = 0) : jP e er id = id := if_pos h
theorem oF (hv : id < ns.length + 2) : jP e er id < ns.length + 2 := by
 unfold jP
 split
 ·exact hv
 ·omega
theorem uZ.did (h : uZ ns ns1 R c e) (g : jK ns1 ns2 R c1 l S id er) (hc : e = 0 → c1 ≤ c2) : uZ ns ns2 R (c + c2) (iD e er) := by
 refine ⟨h.pre.trans g.pre, ?_⟩
 have gc := g.cost
 rcases h.st with ⟨h1, h2⟩ | ⟨h1, h2⟩
 ·have := hc h1
  rcases g.res with ⟨k1, _⟩ | ⟨k1, _, k3⟩
  ·exact .inl ⟨ib.2 ⟨h1, k1⟩, by omega⟩
  ·refine .inr ⟨?_, by omega⟩
   unfold iD; rw [if_pos h1]; exact k1
 ·refine .inr ⟨?_, by omega⟩
  unfold iD; rw [if_neg (by rw [h1]; decide)]; exact h1
theorem uZ.step (h : uZ ns ns1 R c e) (g : e = 0 → uZ ns1 ns2 R c2 e1) (g5 : ¬ e = 0 → ns1 <+: ns2 ∧ e1 = e) : uZ ns ns2 R (c + c2) e1 := by
 rcases h.st with ⟨h1, h2⟩ | ⟨h1, h2⟩
 ·have k := g h1
  refine ⟨h.pre.trans k.pre, ?_⟩
  rcases k.st with ⟨k1, k2⟩ | ⟨k1, k2⟩
  ·exact .inl ⟨k1, by omega⟩
  ·exact .inr ⟨k1, by omega⟩
 ·obtain ⟨k1, k2⟩ := g5 (by rw [h1]; decide)
  exact ⟨h.pre.trans k1, .inr ⟨by rw [k2]; exact h1, by omega⟩⟩
end
structure PI (ns ns' : List Nd) (R : Nat) (e e' : Int) (f i id : Nat) : Prop where
 v : id < ns'.length + 2
 pre : ns <+: ns'
 sta : e = 0 → i < ee ns f → uZ ns ns' R 2 e'
 err : ¬ e = 0 → e' = e
 m : e' = 0 → ∀ x, x ∈ dR ns' id ↔ mT (M ns f) (· = 2 ^ i) x
theorem Qt {ns ns1 ns2 : List Nd} {R f i l0 l1 idA idB : Nat} {e erA erB : Int} (hw1 : Wf ns1) (gA : jK ns ns1 R (vy 0 [((1 * 2 ^ i : Nat) : Int)]) l0 (bS [((1 * 2 ^ i : Nat) : Int)] 0) idA erA) (gB : jK ns1 ns2 R (qq.cst ns1 f (jP e erA idA)) l1 (qq.res (M ns1 f) (M ns1 (jP e erA idA))) idB erB) (hf : f < ns.length + 2) (hi : i < 24) :
  PI ns ns2 R e (iD (iD e erA) erB) f i (jP (iD e erA) erB idB) := by
 rw [Nat.one_mul] at gA
 have p1 := gi gA.pre
 have hS : erA = 0 → zV ns1 idA i := fun h x => by
  rw [(gA.ok h).2.2 x]
  constructor
  ·rintro ⟨m, hm, e⟩
   rw [List.mem_singleton.1 hm, Int.toNat_natCast, yv] at e
   exact e
  ·rintro rfl
   exact ⟨_, List.mem_singleton.2 rfl, by rw [Int.toNat_natCast, yv]⟩
 refine ⟨oF gB.valid, gA.pre.trans gB.pre, fun he hl => ?_, fun he => ?_, fun h0 x => ?_⟩
 ·subst he
  refine ((uZ.refl.did gA (c2 := 1) (fun _ => LT i)).did gB (c2 := 1) (fun h => ?_)).mono (by omega)
  rw [ln h]
  exact Mx hw1 (by omega) gA.valid hi (hS (ib.1 h).2) (by rw [gQ gA.pre hf]; exact hl)
 ·have h1 : iD e erA = e := if_neg he
  rw [h1]; exact if_neg he
 ·obtain ⟨h1, h2⟩ := ib.1 h0
  have k := (gB.ok h2).2.2
  rw [ln h1, iM gA.pre hf] at k
  rw [ln h0, k x]
  have e2 : M ns1 idA = (· = 2 ^ i) := fK (hS (ib.1 h1).2)
  rw [e2]; rfl
def Wk (T : TypeId) (bw bz bd : Nat) (w : World) : Prop := ∃ e, At w bw #[.pointer (some ⟨bz, 0, none⟩), .map (some bd), .int .i64 e] T
structure Dw (Tn T : TypeId) (N bw bz bd ba bm : Nat) (w w' : World) : Prop where
 dx : Dx Tn N [bw, bd, ba, bm] w w'
 wk : Wk T bw bz bd w → Wk T bw bz bd w'
section
variable {Ta Tn T : TypeId} {N bw bz bd ba bm R : Nat} {w w' w'' : World} {ns ns' : List Nd} {e e' : Int}
theorem PO.dx {c l : Nat} {S : Nat → Prop} {v : Value} (h : PO Ta Tn N ba bm R w ns c l S v w') : Dx Tn N [ba, bm] w w' := by
 obtain ⟨_, _, _, _, h, _⟩ := h; exact h
theorem PE.dx {ok : Bool} {c l : Nat} {S : Nat → Prop} {v : Value} (h : PE Ta Tn N ba bm R w ns ok c l S v w') : Dx Tn N [ba, bm] w w' := by
 obtain ⟨_, _, _, _, h, _⟩ := h; exact h
theorem Wk.c0 (h : Wk T bw bz bd w) : w.cell? ⟨bw, 0, none⟩ = some (.pointer (some ⟨bz, 0, none⟩)) := by
 obtain ⟨e, h⟩ := h
 exact At.cell h rfl
theorem Wk.c1 (h : Wk T bw bz bd w) : w.cell? ⟨bw, 1, none⟩ = some (.map (some bd)) := by
 obtain ⟨e, h⟩ := h
 exact At.cell h rfl
theorem Dw.refl : Dw Tn T N bw bz bd ba bm w w := ⟨Dx.refl, id⟩
theorem Dw.trans (h : Dw Tn T N bw bz bd ba bm w w') (k : Dw Tn T N bw bz bd ba bm w' w'') : Dw Tn T N bw bz bd ba bm w w'' := ⟨h.dx.trans k.dx, fun q => k.wk (h.wk q)⟩
theorem Dw.ext (h : ep w w') : Dw Tn T N bw bz bd ba bm w w' := ⟨Dx.ext h, fun ⟨e, q⟩ => ⟨e, h.at q⟩⟩
theorem Dw.zdd (D : fI Ta Tn N ba bm R w ns) (h : Dx Tn N [ba, bm] w w') (hTa : T ≠ Ta) (hTn : T ≠ Tn) : Dw Tn T N bw bz bd ba bm w w' := ⟨h.mono (fun x hx => List.mem_cons_of_mem _ (List.mem_cons_of_mem _ hx)), fun ⟨e, q⟩ => ⟨e, At.dx D h q hTa hTn⟩⟩
theorem Dw.did (h : w.grownBy w' (some bw)) (hN : N ≤ bw) (q : At w' bw #[.pointer (some ⟨bz, 0, none⟩), .map (some bd), .int .i64 e'] T) : Dw Tn T N bw bz bd ba bm w w' := ⟨Dx.grown h (List.mem_cons_self ..) hN, fun _ => ⟨e', q⟩⟩
end
end
section
open Go Go.RowKit
theorem qx {ns : List Nd} (h : Wf ns) {f j : Nat} (hf : f < ns.length + 2) (hj : j ≤ 24) (hd : ∀ x, x ∈ dR ns f → 2 ^ j ∣ x) : j ≤ ee ns f := by
 rcases Nat.lt_or_ge f 2 with k | k
 ·rw [lg k]; exact hj
 ·rcases Nat.lt_or_ge (ee ns f) j with q | q
  ·exfalso
   have H := ig h hf (Nat.le_refl _) (nS h hf k)
   have hB : eo ns f (ee ns f) ≠ 0 := by
    obtain ⟨i, rfl⟩ : ∃ i, f = i + 2 := ⟨f - 2, by omega⟩
    unfold eo
    rw [if_pos ⟨by omega, rfl⟩, Nat.add_sub_cancel]
    exact (h.ok i (by omega)).2.2.1
   obtain ⟨y, hy⟩ := iG h _ H.vb hB
   have h1 := hd _ ((H.mem _).2 (.inr ⟨y, hy, rfl⟩))
   have h2 := j2 (gV H.lb (fk h _ H.vb y hy).1)
   have h3 := gn (gV q h1)
   rw [h2] at h3; cases h3
  ·exact q
def wS (ab : Bool) (F G : Nat → Prop) (x : Nat) : Prop := F x ∧ ∃ y, G y ∧ (if ab = true then JI x y else JI y x)
theorem KP {F : Nat → Prop} {l : Nat} (hF : LP l F) (x : Nat) : mT F (· = 2 ^ l) x ↔ ∃ y, F y ∧ x = y + 2 ^ l := by
 have key : ∀ y, F y → y ||| 2 ^ l = y + 2 ^ l := fun y hy => by
  have h := (rU (hF y hy) (Nat.dvd_zero (2 ^ (l + 1)))).2.1
  rw [Nat.zero_add, Nat.or_zero] at h
  exact h
 constructor
 ·rintro ⟨y, b, hy, rfl, rfl⟩
  exact ⟨y, hy, key y hy⟩
 ·rintro ⟨y, hy, rfl⟩
  exact ⟨y, 2 ^ l, hy, rfl, (key y hy).symm⟩
end
section
open Go Go.RowKit
end
section
open Go Go.RowKit
structure Au (ab : Bool) (ns : List Nd) (p : Nd × Int) : Prop where
 v1 : p.1.l < ns.length + 2
 v2 : p.1.lo < ns.length + 2
 id : ∃ id : Nat, p.2 = (id : Int) ∧ id < ns.length + 2 ∧ ∀ x, x ∈ dR ns id ↔ wS ab (M ns p.1.l) (M ns p.1.lo) x
def rk (ab : Bool) (ns : List Nd) (dl : List (Nd × Int)) : Prop := ∀ p, p ∈ dl → Au ab ns p
section
variable {ab : Bool} {ns ns' : List Nd} {dl : List (Nd × Int)} {f g i id : Nat}
theorem rk.nil : rk ab ns [] := fun p h => by cases h
theorem Au.pre {p : Nd × Int} (hp : ns <+: ns') (h : Au ab ns p) : Au ab ns' p := by
 have hl := gi hp
 obtain ⟨id, h1, h2, h3⟩ := h.id
 refine ⟨by have := h.v1; omega, by have := h.v2; omega, id, h1, by omega, ?_⟩
 rw [iM hp h.v1, iM hp h.v2, gK hp h2]
 exact h3
theorem rk.pre (hp : ns <+: ns') (h : rk ab ns dl) : rk ab ns' dl := fun p q => (h p q).pre hp
theorem rk.put (h : rk ab ns dl) (hf : f < ns.length + 2) (hg : g < ns.length + 2) (hi : id < ns.length + 2) (hm : ∀ x, x ∈ dR ns id ↔ wS ab (M ns f) (M ns g) x) : rk ab ns (ii dl ⟨f, g, i⟩ (id : Int)) := fun p hp => by
 rcases Cc hp with hp | rfl
 ·exact h p hp
 ·exact ⟨hf, hg, id, rfl, hi, hm⟩
theorem rk.met {v : Int} (h : rk ab ns dl) (hg : ij dl ⟨f, g, i⟩ = some v) : ∃ id : Nat, v = (id : Int) ∧ id < ns.length + 2 ∧ ∀ x, x ∈ dR ns id ↔ wS ab (M ns f) (M ns g) x := (h _ (wF hg)).id
end
section
variable {ab : Bool} {ns : List Nd} {R f g i id : Nat} {e : Int}
end
theorem ka {e e' : Int} (err : ¬ e = 0 → e' = e) (h : e' = 0) : e = 0 := by
 by_cases q : e = 0
 ·exact q
 ·rw [err q] at h; exact h
end
section
open Go Go.RowKit
end
section
open Go Go.RowKit
section
variable {Ta Tn T T' : TypeId} {N bw bz bd ba bm R b : Nat} {w w' w'' : World} {ns : List Nd} {c cw : Array Value} {dl : List (Nd × Int)}
theorem Dw.new (h : Dw Tn T N bw bz bd ba bm w w') (hb : w.heap.size ≤ b) (hN : N ≤ b) (hG : w'.grownBy w'' (some b)) (q : At w' b c T') (hT : T' ≠ T) : Dw Tn T N bw bz bd ba bm w w'' := by
 refine ⟨h.dx.new hb (Dx.grown hG (List.mem_cons_self ..) hN), fun k => ?_⟩
 obtain ⟨e, k2⟩ := h.wk k
 exact ⟨e, At.grownAt k2 q hG hT.symm⟩
theorem Dw.map (hG : w.grownBy w' (some bd)) (hN : N ≤ bd) (hdn : dT t4 eN w bd dl) : Dw Tn T N bw bz bd ba bm w w' := by
 refine ⟨Dx.grown hG (List.mem_cons_of_mem _ (List.mem_cons_self ..)) hN, fun ⟨e, k⟩ => ⟨e, At.grownMap k hdn hG⟩⟩
end
section
variable {ab : Bool} {ns ns1 ns2 ns3 ns4 : List Nd} {R f g i fa fb ga gb idU ida lU cU : Nat} {e e1 e2 e4 erU : Int}
end
end
section
open Go Go.RowKit
section
variable {Ta Tn T T' : TypeId} {N bw bz bd ba bm R b : Nat} {w w' w'' : World} {ns ns' : List Nd} {xs : List Nat}
def PW (Ta Tn : TypeId) (N ba bm R : Nat) (w : World) (ns : List Nd) (S : List Nd → Nat → Int → Prop) (v : Value) (w' : World) : Prop :=
 ∃ (ns' : List Nd) (id : Nat) (er : Int), v = .tuple #[.int .i64 (id : Int), .int .i64 er] ∧ Dx Tn N [ba, bm] w w' ∧ fI Ta Tn N ba bm R w' ns' ∧ S ns' id er
theorem PW.dx {S : List Nd → Nat → Int → Prop} {v : Value} (h : PW Ta Tn N ba bm R w ns S v w') : Dx Tn N [ba, bm] w w' := by
 obtain ⟨_, _, _, _, h, _⟩ := h; exact h
end
end
end
section
open Go Go.RowKit
def tC : Nat → Nat
 | 0 => 0
 | k + 1 => 3 * tC k + 2 * (2 * k * 3 ^ k) + 7
section
variable {ns ns' ns1 ns2 ns3 ns4 : List Nd} {R f g i l : Nat}
theorem HQ (h : Wf ns) {g l : Nat} (hg : g < ns.length + 2) (hl : l ≤ ee ns g) (h24 : l < 24) (ha : ∀ x, M ns g x → x.testBit l = true) : dZ ns g l = 0 := by
 have H := ig h hg hl h24
 refine Decidable.byContradiction fun k => ?_
 obtain ⟨y, hy⟩ := iG h _ H.va k
 have h1 := ha y ((H.mem y).2 (.inl hy))
 rw [gn (gV H.la (fk h _ H.va y hy).1)] at h1
 cases h1
theorem tG {n f g : Nat} {en : Nat → Nat → Nat × Bool} (h : (en f g).2 = true) : cP en n ns f g = 0 := by
 cases n with
 | zero => rfl
 | succ n => rw [cP, if_pos h]
theorem Oj (g : Nat) : (oo.ends 0 g).2 = true := by show (Mk 0 g).2 = true; unfold Mk; rw [if_pos (.inl rfl)]
theorem yY (f : Nat) : (oo.ends f 0).2 = true := by
 show (Mk f 0).2 = true
 unfold Mk
 split
 ·rfl
 ·rfl
theorem DO (h : Wf ns) (hf : f < ns.length + 2) (hg : g < ns.length + 2) (hl : l < ee ns f) (hlg : l ≤ ee ns g) (h24 : l < 24) (ha : ∀ x, M ns g x → x.testBit l = true) : oo.cst ns f g ≤ 1 := by
 show cE oo.ends ns f g ≤ 1
 by_cases he : (oo.ends f g).2 = true
 ·unfold cE; rw [tG he]; omega
 ·have g0 : ¬ g = 0 := fun e => by subst e; exact he (yY f)
  have hlv : ee ns g = l := by
   obtain ⟨x, hx⟩ := iG h g hg g0
   have h1 := ha x hx
   rcases Nat.lt_or_ge l (ee ns g) with k | k
   ·rw [gn (gV k (fk h g hg x hx).1)] at h1; cases h1
   ·omega
  have hmin : min (ee ns f) (ee ns g) = l := by omega
  have hA := HQ h hg hlg h24 ha
  have hfB : eo ns f l = 0 := if_neg fun k => by omega
  unfold cE
  rw [hmin, show 25 - l = (24 - l) + 1 by omega, cP, if_neg he, hmin, hA, hfB, tG (yY _), tG (Oj _)]
  omega
theorem N3 (h : Wf ns) (hf : f < ns.length + 2) (hg : g < ns.length + 2) (hlf : l ≤ ee ns f) (hlg : l + 1 ≤ ee ns g) (h24 : l + 1 < 24) (hc : ∀ x, M ns f x → x.testBit l = false → 2 ^ (l + 2) ∣ x) (ha : ∀ x, M ns g x → x.testBit (l + 1) = true) : oo.cst ns f g ≤ 2 := by
 rcases Nat.lt_or_ge l (ee ns f) with k | k
 ·have : l + 2 ≤ ee ns f := qx h hf (by omega) fun x hx => hc x hx (gn (gV k (fk h f hf x hx).1))
  have := DO (l := l + 1) h hf hg (by omega) hlg h24 ha
  omega
 ·have hlv : ee ns f = l := by omega
  show cE oo.ends ns f g ≤ 2
  by_cases he : (oo.ends f g).2 = true
  ·unfold cE; rw [tG he]; omega
  ·have H := ig h hf hlf (by omega)
   have hmin : min (ee ns f) (ee ns g) = l := by omega
   have hgA : dZ ns g l = g := if_neg fun q => by omega
   have hgB : eo ns g l = 0 := if_neg fun q => by omega
   have hla := H.la
   have hA : l + 2 ≤ ee ns (dZ ns f l) := qx h H.va (by omega) fun x hx => hc x ((H.mem x).2 (.inl hx)) (gn (gV H.la (fk h _ H.va x hx).1))
   have k2 := DO (l := l + 1) h H.va hg (by omega) hlg h24 ha
   have k3 : cE oo.ends ns (dZ ns f l) g ≤ 1 := k2
   have k4 := zK (en := oo.ends) (ns := ns) (show 24 - l ≤ 24 - l from Nat.le_refl _) (dZ ns f l) g
   have k5 : cP oo.ends (24 - l) ns (dZ ns f l) g ≤ 1 := by
    by_cases he2 : (oo.ends (dZ ns f l) g).2 = true
    ·rw [tG he2]; omega
    ·have g0 : ¬ g = 0 := fun e => by subst e; exact he (yY f)
     have hlvg : ee ns g = l + 1 := by
      obtain ⟨x, hx⟩ := iG h g hg g0
      have h1 := ha x hx
      rcases Nat.lt_or_ge (l + 1) (ee ns g) with k | k
      ·rw [gn (gV k (fk h g hg x hx).1)] at h1; cases h1
      ·omega
     have hmin2 : min (ee ns (dZ ns f l)) (ee ns g) = l + 1 := by omega
     have e : cE oo.ends ns (dZ ns f l) g = cP oo.ends (24 - l) ns (dZ ns f l) g := by
      unfold cE
      rw [hmin2, show 25 - (l + 1) = 24 - l by omega]
     rw [← e]; exact k3
   unfold cE
   rw [hmin, show 25 - l = (24 - l) + 1 by omega, cP, if_neg he, hmin, hgA, hgB, tG (yY _)]
   omega
end
structure Kf (ns ns' : List Nd) (R : Nat) (e e' : Int) (n i s id : Nat) : Prop where
 v : id < ns'.length + 2
 pre : ns <+: ns'
 sta : e = 0 → uZ ns ns' R (tC (n - i)) e'
 err : ¬ e = 0 → e' = e
 m : e' = 0 → M ns' id = tB n s
 crd : e' = 0 → (dR ns' id).length ≤ 3 ^ (n - i)
theorem OB {ns : List Nd} {R n i s : Nat} {e : Int} (he : ¬ e = 0) : Kf ns ns R e e n i s 0 := ⟨by omega, List.prefix_refl _, fun h => absurd h he, fun _ => rfl, fun h => absurd h he, fun h => absurd h he⟩
theorem RA {ns : List Nd} {R n i s : Nat} {e : Int} (he : e = 0) (h8 : n ≤ 8) (h : xE s 0 = true) : Kf ns ns R e e n i s 0 := by
 refine ⟨by omega, List.prefix_refl _, fun _ => ⟨List.prefix_refl _, .inl ⟨he, by omega⟩⟩, fun _ => rfl, fun _ => fK fun x => ?_, fun _ => ?_⟩
 ·exact ⟨fun k => absurd k (Hl ns x), fun k => absurd k (QX h8 h x)⟩
 ·rw [mC]; exact Nat.zero_le _
theorem RG {ns : List Nd} {R n i s : Nat} {e : Int} (he : e = 0) (h8 : n ≤ 8) (h : xE s (fo n) = true) : Kf ns ns R e e n i s 1 := by
 refine ⟨by omega, List.prefix_refl _, fun _ => ⟨List.prefix_refl _, .inl ⟨he, by omega⟩⟩, fun _ => rfl, fun _ => fK fun x => ?_, fun _ => ?_⟩
 ·rw [Ma h8 h]
  show x ∈ dR ns 1 ↔ _
  rw [mO, List.mem_singleton]
 ·rw [mO]; exact Nat.pow_pos (show 0 < 3 by decide)
def M5 (s i : Nat) (k : Nat) : Nat := dp s i (decide (k = 1))
def Al (s i : Nat) : Nat := dp s i false &&& dp s i true
def Ow (n s i k : Nat) (y : Nat) : Prop := tB n (M5 s i k) y ∧ ¬ tB n (Al s i) y
def xG (n s i k : Nat) (x : Nat) : Prop := tB n (Al s i) x ∨ (1 ≤ k ∧ ∃ y, Ow n s i 0 y ∧ x = y + 2 ^ (2 * i)) ∨ (2 ≤ k ∧ ∃ y, Ow n s i 1 y ∧ x = y + 2 ^ (2 * i + 1))
theorem Ho {n s i : Nat} : xG n s i 0 = tB n (Al s i) := fK fun x => ⟨fun h => h.elim id fun k => k.elim (fun q => absurd q.1 (by decide)) fun q => absurd q.1 (by decide), .inl⟩
theorem Ph {n s i : Nat} (h8 : n ≤ 8) (h : un n s i) (hi : i < n) : xG n s i 2 = tB n s := fK fun x => by
 rw [G9 h8 h hi]
 unfold xG Ow M5 Al
 constructor
 ·rintro (h | ⟨_, h⟩ | ⟨_, h⟩)
  ·exact .inl h
  ·exact .inr (.inl h)
  ·exact .inr (.inr h)
 ·rintro (h | h | h)
  ·exact .inl h
  ·exact .inr (.inl ⟨by decide, h⟩)
  ·exact .inr (.inr ⟨by decide, h⟩)
theorem H9 {n s i k x : Nat} (hk : k < 2) : xG n s i (k + 1) x ↔ xG n s i k x ∨ ∃ y, Ow n s i k y ∧ x = y + 2 ^ (2 * i + k) := by
 have : k = 0 ∨ k = 1 := by omega
 unfold xG
 rcases this with rfl | rfl
 ·constructor
  ·rintro (h | ⟨_, h⟩ | ⟨h, _⟩)
   ·exact .inl (.inl h)
   ·exact .inr h
   ·exact absurd h (by decide)
  ·rintro ((h | ⟨h, _⟩ | ⟨h, _⟩) | h)
   ·exact .inl h
   ·exact absurd h (by decide)
   ·exact absurd h (by decide)
   ·exact .inr (.inl ⟨by decide, h⟩)
 ·constructor
  ·rintro (h | ⟨_, h⟩ | ⟨_, h⟩)
   ·exact .inl (.inl h)
   ·exact .inl (.inr (.inl ⟨by decide, h⟩))
   ·exact .inr h
  ·rintro ((h | ⟨_, h⟩ | ⟨h, _⟩) | h)
   ·exact .inl h
   ·exact .inr (.inl ⟨by decide, h⟩)
   ·exact absurd h (by decide)
   ·exact .inr (.inr ⟨by decide, h⟩)
theorem Dl {n s i : Nat} (h8 : n ≤ 8) (h : un n s i) (hi : i < n) (k : Nat) : un n (M5 s i k) (i + 1) := h.side h8 hi _
theorem FV {n s i : Nat} (h8 : n ≤ 8) (h : un n s i) (hi : i < n) : un n (Al s i) (i + 1) := (h.side h8 hi false).and (h.side h8 hi true)
structure QY (ns nsc : List Nd) (R : Nat) (n i s k : Nat) (ec : Int) (com out : Nat) : Prop where
 vc : com < nsc.length + 2
 vo : out < nsc.length + 2
 pre : ns <+: nsc
 sta : uZ ns nsc R (tC (n - (i + 1)) + k * (tC (n - (i + 1)) + 2 * (n - (i + 1)) * 3 ^ (n - (i + 1)) + 2) + (if k = 0 then 0 else if k = 1 then 1 else 3)) ec
 mc : ec = 0 → M nsc com = tB n (Al s i)
 cc : ec = 0 → (dR nsc com).length ≤ 3 ^ (n - (i + 1))
 mo : ec = 0 → M nsc out = xG n s i k
 co : ec = 0 → (dR nsc out).length ≤ (k + 1) * 3 ^ (n - (i + 1))
section
variable {ns nsc ns1 ns2 ns3 ns4 : List Nd} {R n i s k com out idh idl idw ido lL lO : Nat} {ec e1 e3 erL erO : Int}
theorem Jc (p : Kf ns ns1 R 0 e1 n (i + 1) (Al s i) com) : QY ns ns1 R n i s 0 e1 com com :=
 ⟨p.v, p.v, p.pre, (p.sta rfl).mono (by simp), p.m, p.crd, fun z => by rw [Ho]; exact p.m z, fun z => by have := p.crd z; omega⟩
theorem Mf (h8 : n ≤ 8) (hs : un n s i) (hi : i < n) (hk : k < 2) (h : QY ns nsc R n i s k ec com out) (hw1 : Wf ns1) (hw2 : Wf ns2) (hw3 : Wf ns3) (hw4 : Wf ns4)
  (p : Kf nsc ns1 R ec e1 n (i + 1) (M5 s i k) idh) (gL : jK ns1 ns2 R (tD.cst ns1 idh com) lL (tD.res (M ns1 idh) (M ns1 com)) idl erL) (q : PI ns2 ns3 R (iD e1 erL) e3 (jP e1 erL idl) (2 * i + k) idw)
  (gO : jK ns3 ns4 R (oo.cst ns3 out idw) lO (oo.res (M ns3 out) (M ns3 idw)) ido erO) : QY ns ns4 R n i s (k + 1) (iD e3 erO) com (jP e3 erO ido) := by
 have p01 := gi p.pre
 have p12 := gi gL.pre
 have p23 := gi q.pre
 have p34 := gi gO.pre
 have hvc := h.vc
 have hvo := h.vo
 have hvh := p.v
 have hvl : jP e1 erL idl < ns2.length + 2 := oF gL.valid
 have hfc := FV h8 hs hi
 have hfs := Dl h8 hs hi k
 have i24 : 2 * i + 2 ≤ 24 := by omega
 have M1h : e1 = 0 → M ns1 idh = tB n (M5 s i k) := p.m
 have M1c : e1 = 0 → M ns1 com = tB n (Al s i) := fun z => by rw [iM p.pre h.vc]; exact h.mc (ka p.err z)
 have M2l : iD e1 erL = 0 → M ns2 (jP e1 erL idl) = Ow n s i k := fun z => by
  obtain ⟨z1, z2⟩ := ib.1 z
  rw [ln z, show M ns2 idl = tD.res (M ns1 idh) (M ns1 com) from fK (gL.ok z2).2.2, M1h z1, M1c z1]
  rfl
 have dv : ∀ y, Ow n s i k y → 2 ^ (2 * i + 2) ∣ y := fun y hy => by
  have := sj h8 hfs hy.1
  rwa [show 2 * (i + 1) = 2 * i + 2 by omega] at this
 have dvk : ∀ y, Ow n s i k y → 2 ^ (2 * i + k + 1) ∣ y := fun y hy => Nat.dvd_trans (Nat.pow_dvd_pow 2 (by omega)) (dv y hy)
 have levO : LP (2 * i + k) (Ow n s i k) := fun y hy => dvk y hy
 have M3w : e3 = 0 → ∀ x, M ns3 idw x ↔ ∃ y, Ow n s i k y ∧ x = y + 2 ^ (2 * i + k) := fun z x => by
  have z2 := ka q.err z
  have hq := q.m z x
  rw [M2l z2] at hq
  exact hq.trans (KP levO x)
 have M3o : e3 = 0 → M ns3 out = xG n s i k := fun z => by
  have z1 := (ib.1 (ka q.err z)).1
  rw [iM ((p.pre.trans gL.pre).trans q.pre) h.vo]
  exact h.mo (ka p.err z1)
 have tpP : ∀ {x s'}, tB n s' x → x < 2 ^ (2 * n) := fun hx => zA h8 hx
 have cL : e1 = 0 → tD.cst ns1 idh com ≤ 2 * (n - (i + 1)) * 3 ^ (n - (i + 1)) := fun z => by
  have t1 : tp ns1 idh ≤ 2 * n := lE.2 fun x hx => tpP (by have hx' : M ns1 idh x := hx; rw [M1h z] at hx'; exact hx')
  have t2 : tp ns1 com ≤ 2 * n := lE.2 fun x hx => tpP (by have hx' : M ns1 com x := hx; rw [M1c z] at hx'; exact hx')
  have l1 : 2 * i + 2 ≤ ee ns1 idh := qx hw1 hvh i24 fun x hx => by
   have hx' : M ns1 idh x := hx
   rw [M1h z] at hx'
   have := sj h8 hfs hx'
   rwa [show 2 * (i + 1) = 2 * i + 2 by omega] at this
  have l2 : 2 * i + 2 ≤ ee ns1 com := qx hw1 (by omega) i24 fun x hx => by
   have hx' : M ns1 com x := hx
   rw [M1c z] at hx'
   have := sj h8 hfc hx'
   rwa [show 2 * (i + 1) = 2 * i + 2 by omega] at this
  refine Nat.le_trans (Ll hw1 Eb.endF hvh (by omega) t1 t2) (Nat.mul_le_mul (by omega) ?_)
  have := p.crd z
  omega
 have lw : e3 = 0 → 2 * i + k ≤ ee ns3 idw := fun z => qx hw3 q.v (by omega) fun x hx => by
  obtain ⟨y, hy, e⟩ := (M3w z x).1 hx
  rw [e]
  exact C6 (dvk y hy)
 have bw : e3 = 0 → ∀ x, M ns3 idw x → x.testBit (2 * i + k) = true := fun z x hx => by
  obtain ⟨y, hy, e⟩ := (M3w z x).1 hx
  rw [e]
  exact j2 (dvk y hy)
 have oc : ∀ x, xG n s i 0 x → 2 ^ (2 * i + 2) ∣ x := fun x hx => by
  rw [Ho] at hx
  have := sj h8 hfc hx
  rwa [show 2 * (i + 1) = 2 * i + 2 by omega] at this
 have cO : e3 = 0 → oo.cst ns3 out idw ≤ k + 1 := fun z => by
  have : k = 0 ∨ k = 1 := by omega
  rcases this with rfl | rfl
  ·refine DO (l := 2 * i) hw3 (by omega) q.v ?_ (lw z) (by omega) (bw z)
   have : 2 * i + 2 ≤ ee ns3 out := qx hw3 (by omega) i24 fun x hx => oc x (by have hx' : M ns3 out x := hx; rw [M3o z] at hx'; exact hx')
   omega
  ·have hou : ∀ x, M ns3 out x → xG n s i 0 x ∨ ∃ y, Ow n s i 0 y ∧ x = y + 2 ^ (2 * i + 0) := fun x hx => by
    rw [M3o z] at hx
    exact (H9 (by decide)).1 hx
   have dv0 : ∀ y, Ow n s i 0 y → 2 ^ (2 * i + 2) ∣ y := fun y hy => by
    have := sj h8 (Dl h8 hs hi 0) hy.1
    rwa [show 2 * (i + 1) = 2 * i + 2 by omega] at this
   refine N3 (l := 2 * i) hw3 (by omega) q.v (qx hw3 (by omega) (by omega) fun x hx => ?_) (lw z) (by omega) (fun x hx hb => ?_) (bw z)
   ·rcases hou x hx with k | ⟨y, hy, e⟩
    ·exact Nat.dvd_trans (Nat.pow_dvd_pow 2 (by omega)) (oc x k)
    ·rw [e, Nat.add_zero]
     exact C6 (Nat.dvd_trans (Nat.pow_dvd_pow 2 (by omega)) (dv0 y hy))
   ·rcases hou x hx with k | ⟨y, hy, e⟩
    ·exact oc x k
    ·rw [e, Nat.add_zero, j2 (Nat.dvd_trans (Nat.pow_dvd_pow 2 (by omega)) (dv0 y hy))] at hb
     cases hb
 have s1 := h.sta.step p.sta (fun z => ⟨p.pre, p.err z⟩)
 have s2 := s1.did gL cL
 have s3 := s2.step (c2 := 2) (fun z => q.sta z (by
  have : 2 * i + k + 1 ≤ ee ns2 (jP e1 erL idl) := qx hw2 hvl (by omega) fun x hx => by
   have hx' : M ns2 (jP e1 erL idl) x := hx
   rw [M2l z] at hx'
   exact dvk x hx'
  omega)) (fun z => ⟨q.pre, q.err z⟩)
 have s4 := s3.did gO cO
 have pall := ((p.pre.trans gL.pre).trans q.pre).trans gO.pre
 refine ⟨by omega, oF gO.valid, h.pre.trans pall, s4.mono ?_, fun z => ?_, fun z => ?_, fun z => fK fun x => ?_, fun z => ?_⟩
 ·have : k = 0 ∨ k = 1 := by omega
  rcases this with rfl | rfl
  ·simp; omega
  ·simp; omega
 ·have z1 := (ib.1 (ka q.err (ib.1 z).1)).1
  rw [iM pall hvc]
  exact h.mc (ka p.err z1)
 ·have z1 := (ib.1 (ka q.err (ib.1 z).1)).1
  rw [gK pall hvc]
  exact h.cc (ka p.err z1)
 ·obtain ⟨z3, zO⟩ := ib.1 z
  rw [ln z, H9 hk]
  refine ((gO.ok zO).2.2 x).trans ?_
  show (M ns3 out x ∨ M ns3 idw x) ↔ _
  rw [M3o z3, M3w z3]
 ·obtain ⟨z3, zO⟩ := ib.1 z
  have z2 := ka q.err z3
  have z1 := (ib.1 z2).1
  rw [ln z]
  have h1 := Ix hw4 (gO.ok zO).1 (a := out) (b := idw) (ns := ns3) fun x hx => ((gO.ok zO).2.2 x).1 hx
  have h2 : (dR ns3 idw).length ≤ (dR ns1 idh).length := by
   have := jg (l2 := (dR ns1 idh).map fun y => y + 2 ^ (2 * i + k)) (js hw3 idw q.v) fun x hx => by
    obtain ⟨y, hy, e⟩ := (M3w z3 x).1 hx
    exact List.mem_map.2 ⟨y, (show M ns1 idh y by rw [M1h z1]; exact hy.1), e.symm⟩
   rw [List.length_map] at this
   exact this
  have h3 := p.crd z1
  have h4 : (dR ns3 out).length = (dR nsc out).length := by rw [gK ((p.pre.trans gL.pre).trans q.pre) hvo]
  have h5 := h.co (ka p.err z1)
  have h6 : (k + 1 + 1) * 3 ^ (n - (i + 1)) = (k + 1) * 3 ^ (n - (i + 1)) + 3 ^ (n - (i + 1)) := by rw [Nat.add_mul (k + 1), Nat.one_mul]
  omega
theorem Ox (h8 : n ≤ 8) (hs : un n s i) (hi : i < n) (h : QY ns nsc R n i s 2 ec com out) : Kf ns nsc R 0 ec n i s out := by
 obtain ⟨m, hm⟩ : ∃ m, n - i = m + 1 := ⟨n - (i + 1), by omega⟩
 have hm2 : n - (i + 1) = m := by omega
 refine ⟨h.vo, h.pre, fun _ => h.sta.mono ?_, fun z => absurd rfl z, fun z => by rw [← Ph h8 hs hi]; exact h.mo z, fun z => ?_⟩
 ·rw [hm, hm2, tC]
  simp
  omega
 ·have := h.co z
  rw [hm2] at this
  rw [hm, Nat.pow_succ]
  omega
end
end
section
open Go Go.RowKit
def Wc (T : TypeId) (bc bz : Nat) (w : World) : Prop := ∃ e, At w bc #[.pointer (some ⟨bz, 0, none⟩), .int .i64 e] T
structure Dc (Tn T : TypeId) (N bc bz ba bm : Nat) (w w' : World) : Prop where
 dx : Dx Tn N [bc, ba, bm] w w'
 wk : Wc T bc bz w → Wc T bc bz w'
section
variable {Ta Tn T T' : TypeId} {N bc bz ba bm R b : Nat} {w w' w'' : World} {ns ns' : List Nd} {e e' : Int} {c cw : Array Value}
theorem Wc.c0 (h : Wc T bc bz w) : w.cell? ⟨bc, 0, none⟩ = some (.pointer (some ⟨bz, 0, none⟩)) := by
 obtain ⟨e, h⟩ := h
 exact At.cell h rfl
theorem Dc.refl : Dc Tn T N bc bz ba bm w w := ⟨Dx.refl, id⟩
theorem Dc.trans (h : Dc Tn T N bc bz ba bm w w') (k : Dc Tn T N bc bz ba bm w' w'') : Dc Tn T N bc bz ba bm w w'' := ⟨h.dx.trans k.dx, fun q => k.wk (h.wk q)⟩
theorem Dc.ext (h : ep w w') : Dc Tn T N bc bz ba bm w w' := ⟨Dx.ext h, fun ⟨e, q⟩ => ⟨e, h.at q⟩⟩
theorem Dc.zdd (D : fI Ta Tn N ba bm R w ns) (h : Dx Tn N [ba, bm] w w') (hTa : T ≠ Ta) (hTn : T ≠ Tn) : Dc Tn T N bc bz ba bm w w' := ⟨h.mono (fun x hx => List.mem_cons_of_mem _ hx), fun ⟨e, q⟩ => ⟨e, At.dx D h q hTa hTn⟩⟩
theorem Dc.did (h : w.grownBy w' (some bc)) (hN : N ≤ bc) (q : At w' bc #[.pointer (some ⟨bz, 0, none⟩), .int .i64 e'] T) : Dc Tn T N bc bz ba bm w w' := ⟨Dx.grown h (List.mem_cons_self ..) hN, fun _ => ⟨e', q⟩⟩
theorem At.dc (D : fI Ta Tn N ba bm R w ns) (hw : At w bc cw T) (h : Dc Tn T N bc bz ba bm w w') (q : At w b c T') (h1 : T' ≠ Ta) (h2 : T' ≠ Tn) (h3 : T' ≠ T) : At w' b c T' := by
 obtain ⟨n1, n2⟩ := D.ne q h1
 have n3 : b ≠ bc := fun e => by subst e; exact At.neT q hw h3 rfl
 unfold At at *
 rw [h.dx.block b (iP q) (.inr ⟨by simp [n1, n2, n3], fun c' fr e => by rw [q] at e; simp at e; exact h2 e.2.1⟩)]
 exact q
theorem Dc.new (h : Dc Tn T N bc bz ba bm w w') (hb : w.heap.size ≤ b) (hN : N ≤ b) (hG : w'.grownBy w'' (some b)) (q : At w' b c T') (hT : T' ≠ T) : Dc Tn T N bc bz ba bm w w'' := by
 refine ⟨h.dx.new hb (Dx.grown hG (List.mem_cons_self ..) hN), fun k => ?_⟩
 obtain ⟨e, k2⟩ := h.wk k
 exact ⟨e, At.grownAt k2 q hG hT.symm⟩
theorem Dx.new1 {b1 : Nat} {xs : List Nat} (h : Dx Tn N xs w w') (h1 : w.heap.size ≤ b1) (k : Dx Tn N (b1 :: xs) w' w'') : Dx Tn N xs w w'' := h.new h1 k
end
end
section
open Go Go.RowKit
theorem kb : fy Tryz.prog 144 1 = some 1 := by kernel_rfl
theorem fX : fv Tryz.prog 30 = true := by kernel_rfl
theorem jB : fy Tryz.prog 144 0 = some 0 := by kernel_rfl
theorem Gd : dD Tryz.prog 105 = true := by kernel_rfl
theorem nq : dD Tryz.prog 102 = true := by kernel_rfl
theorem EF : dD Tryz.prog 104 = true := by kernel_rfl
theorem vi : eO Tryz.prog 164 = some (.agg #[.int .u64 0, .int .u64 0, .int .u64 0, .int .u64 0, .int .u64 0, .int .u64 0, .int .u64 0, .int .u64 0]) := by kernel_rfl
theorem z8 : dD Tryz.prog 117 = true := by kernel_rfl
theorem MF : dD Tryz.prog 116 = true := by kernel_rfl
theorem gX : GY Tryz.prog 164 = some (2, 4) := by kernel_rfl
theorem zZ : dD Tryz.prog 101 = true := by kernel_rfl
theorem JH : lu Tryz.prog 164 = some 8 := by kernel_rfl
theorem Fi : dD Tryz.prog 103 = true := by kernel_rfl
theorem L3 : dD Tryz.prog 118 = true := by kernel_rfl
theorem xP (s i : Nat) (w : World) (hi : i < 8) :
    Fn Tryz.prog 116 #[eT s, .int .i64 (i : Int)] w fun v w' => v = eT (j7 (eq s) s i (eq s).length) := by
 refine dq (n := 24) Tryz.func116 rfl rfl (Nat.le_of_ble_eq_true rfl) ?_
 have hB : Below w.heap.size w w := Below.refl _ _
 refine Zr <| Zy (dY (c := #[_, _, _, _]) rfl rfl fun F W3 y G a => ?_)
 have X := ZO y hB
 clear y
 replace hB := Ze hB G
 refine Zy (dt eR rfl fun z W6 q A b => ?_)
 have H := ZO q hB
 have I := Zn q a.lt
 clear q
 replace hB := Ze hB A
 replace a := A.at a
 replace b : At W6 z #[wv 0 0, wv 0 1, wv 0 2, wv 0 3] 49 := b
 refine cT <| Zr <| Zv (db rfl df rfl a) <| Zy (dt eR rfl fun B J h r d => ?_)
 have C := ZO h hB
 have D := Zn h a.lt
 have t := Zn h b.lt
 clear h
 replace hB := Ze hB r
 replace a := r.at a
 replace b := r.at b
 replace d : At J B #[wv 0 0, wv 0 1, wv 0 2, wv 0 3] 49 := d
 refine Zy (dg rfl rfl df rfl d rfl rfl fun Y u K => ?_)
 replace hB := Zg hB u C
 replace a := At.grownNe a D u
 replace b := At.grownNe b t u
 replace d := K
 refine cT <| cY fun Z L => Zr <| Zv (db rfl df rfl a) <| ZC (vs := [.agg #[_, _, _, _]]) wz (mF _ _) rfl fun x aa j e => ?_
 have M := (Below.size hB)
 replace hB := Ze hB j
 replace a := j.at a
 replace b := j.at b
 replace d := j.at d
 replace e := dh.mono e M
 refine Zv (dz (v := x) rfl e.sl dw) <| Zw (.int .i64 0) rfl <| cT <| c9 ?_
 refine dy (σ := (Nat)) [7, 12, 13, 14, 15, 16, 17, 18, 19, 20, 21, 22] (fun k => [(12, .int .i64 (k : Int))]) (fun k W => (Below w.heap.size w W) ∧ (At W F _ 49) ∧ (At W z _ 49) ∧ (dh ef 1 3 W w.heap.size x _) ∧ (At W B #[wv (j7 (eq s) s i k) 0, wv (j7 (eq s) s i k) 1, wv (j7 (eq s) s i k) 2, wv (j7 (eq s) s i k) 3] 49) ∧ (k ≤ (eq s).length) ∧ (True)) (fun k => (eq s).length - k) (0) ⟨rfl, trivial⟩ ⟨hB, a, b, e, d, (Nat.zero_le _), trivial⟩ ?_
 clear hB a b d e
 rintro k ab ac ⟨hB, a, b, e, d, hk, _⟩ ad N
 have hll := lh s
 refine Zr <| Zv (dM rfl rfl) <| cT <| cY fun ae O => ZQ rfl (fun P => ?_) fun P => ?_
 refine c7 <| O _ _ <| cY fun af Q => c9 ?_
 obtain ⟨p, ag, ah, E⟩ := lp (s := s) (i := k) (by omega)
 have h7 := xW (show i < 8 by omega)
 refine Zr <| Zv (dF (v := x) rfl e.sl rfl dw Om (by first | omega | (simp only [cV, cW, cX, da]; omega))) <| Zv (dk (v := .int .i64 _) rfl du (dN.cell e.sl eI 0 Om (by first | omega | (simp only [cV, cW, cX, da]; omega)) 0 rfl)) <| Zi rfl <| cT ?_
 have R : (eq s).getD (k : Int).toNat 0 = (p : Int) := E
 rw [R]
 refine gD ep iC (fun S g => ?_)
 replace hB := Ze hB g
 replace a := g.at a
 replace b := g.at b
 replace e := g.ow e
 replace d := g.at d
 have hS := ep.refl S
 refine Tk 0 rfl (fun _ hq => db rfl df rfl (hq.at d)) hS <| Ti 1 rfl rfl hS <| Ti 2 rfl rfl hS <| Tk 3 rfl (fun _ _ => jU (m := 1) rfl rfl Om (by simp only [IntKind.bits]; omega) (by simp only [d8, Int.toNat_natCast]; omega)) hS <| Tk 4 rfl (fun _ _ => Ib (n := _) rfl rfl rfl (by simp only [d8]; omega) (by simp only [d8, Int.toNat_natCast]; omega)) hS <| To 5 rfl (TC (vs := [.agg #[_, _, _, _], .int .i64 _]) wh (mL _ _ _) rfl fun ai aj f T => ⟨.inl (hS.trans f), ?_⟩)
 replace hB := Ze hB f
 replace a := f.at a
 replace b := f.at b
 replace e := f.ow e
 replace d := f.at d
 replace hS := hS.trans f
 obtain rfl := T
 refine To 6 rfl (dg rfl rfl df rfl d rfl rfl fun ak l U => ⟨.inr (by kernel_rfl), ?_⟩)
 replace hB := Zg hB l C
 replace a := At.grownNe a D l
 replace b := At.grownNe b t l
 replace e := dh.grownAt e d l Dd
 replace d := U
 refine Td <| Q _ _ <| cZ <| Zv (dm rfl rfl Om Om) <| Zi rfl <| cT ?_
 exact N _ _ (k + 1) Za ⟨rfl, trivial⟩ ⟨hB, a, b, e, (by rw [uu Om, E, Int.toNat_natCast, ← Nat.one_mul (2 ^ i)]; exact d), Om, trivial⟩ (by show (eq s).length - (k + 1) < (eq s).length - k; omega)
 refine dr <| L _ _ <| Zr <| Zv (db rfl df rfl d) <| Zy (dg rfl rfl df rfl b rfl rfl fun al o V => ?_)
 replace hB := Zg hB o H
 replace a := At.grownNe a I o
 replace e := dh.grownAt e b o Dd
 replace d := At.grownNe d (Ne.symm t) o
 replace b := V
 refine cT <| Zt <| jS rfl df b rfl ⟨hB, ?_⟩
 obtain rfl : k = (eq s).length := by omega
 rfl
theorem eY (N bc bz : Nat) (e : Int) (id : Nat) (er : Int) (w : World) (hN0 : N ≤ w.heap.size) (hc : At w bc #[.pointer (some ⟨bz, 0, none⟩), .int .i64 e] 144) (loc : N ≤ bc) :
    rl Tryz.prog 102 #[.pointer (some ⟨bc, 0, none⟩), .int .i64 (id : Int), .int .i64 er] w fun v w' => w.grownBy w' (some bc) ∧ At w' bc #[.pointer (some ⟨bz, 0, none⟩), .int .i64 (iD e er)] 144 ∧ v = .int .i64 ((jP e er id : Nat) : Int) := by
 refine fc (n := 22) Tryz.func102 rfl rfl (Nat.le_of_ble_eq_true rfl) ?_
 have hB : Below N w w := Below.refl _ _
 have c : w.grownBy w (some bc) := World.grownBy.refl w (some bc)
 refine Zr <| Zw (.int .i64 0) rfl <| cT <| cY fun K3 f => Zr <| Zp rfl <| Zc rfl <| Zf rfl kb <| Zl rfl fX hc rfl <| Zv (dS rfl rfl) <| cT <| ZQ rfl (fun a => ?_) fun a => ?_
 refine cZ <| Zp rfl <| Zi rfl <| Zc rfl <| Zf rfl kb <| Zy (eH (v := .int .i64 _) rfl rfl fX rfl hc (by simp) fun W7 d g => ?_)
 replace c := dE c d
 replace hB := dA hB d hN0 (fun j hj => by cases hj; exact loc)
 clear d hc
 replace hc := g
 replace hc : At _ _ #[_, _] _ := hc
 refine cT <| f _ _ <| cY fun k h => Zr <| Zp rfl <| Zc rfl <| Zf rfl kb <| Zl rfl fX hc rfl <| Zv (f4 rfl rfl) <| cT <| ZQ rfl (fun b => ?_) fun b => ?_
 refine Zr <| Zw (.int .i64 0) rfl <| cT <| Zt <| dC (v := .int .i64 0) rfl ?_
 have hde : iD e er = er := if_pos a
 rw [hde]
 exact ⟨c, hc, by unfold jP; rw [hde, if_neg b]; rfl⟩
 refine c7 <| h _ _ <| Zr <| Zi rfl <| Zi rfl <| cT <| Zt <| dC (v := .int .i64 _) rfl ?_
 have hde : iD e er = er := if_pos a
 rw [hde]
 exact ⟨c, hc, by unfold jP; rw [hde, if_pos (Decidable.of_not_not b)]⟩
 refine c7 <| f _ _ <| cY fun l i => Zr <| Zp rfl <| Zc rfl <| Zf rfl kb <| Zl rfl fX hc rfl <| Zv (f4 rfl rfl) <| cT <| ZQ rfl (fun b => ?_) fun b => ?_
 refine Zr <| Zw (.int .i64 0) rfl <| cT <| Zt <| dC (v := .int .i64 0) rfl ?_
 have hde : iD e er = e := if_neg a
 rw [hde]
 exact ⟨c, hc, by unfold jP; rw [hde, if_neg a]; rfl⟩
 refine c7 <| i _ _ <| Zr <| Zi rfl <| Zi rfl <| cT <| Zt <| dC (v := .int .i64 _) rfl ?_
 exact absurd (Decidable.of_not_not b) a
set_option maxRecDepth 10000 in
theorem oD (N ba bm bz bc R : Nat) (ns : List Nd) (e : Int) (f i : Nat) (w : World) (hN0 : N ≤ w.heap.size) (hz : At w bz #[.pointer (some ⟨ba, 0, none⟩)] 141) (hD : fI 163 188 N ba bm R w ns) (hc : At w bc #[.pointer (some ⟨bz, 0, none⟩), .int .i64 e] 144) (loc : N ≤ bc) (hf : f < ns.length + 2) (hi : i < 24) :
    rl Tryz.prog 118 #[.pointer (some ⟨bc, 0, none⟩), .int .i64 (f : Int), .int .i64 (i : Int)] w fun v w' => ∃ (ns' : List Nd) (e' : Int) (id : Nat), v = .int .i64 (id : Int) ∧ Dc 188 144 N bc bz ba bm w w' ∧ At w' bz #[.pointer (some ⟨ba, 0, none⟩)] 141 ∧ fI 163 188 N ba bm R w' ns' ∧ At w' bc #[.pointer (some ⟨bz, 0, none⟩), .int .i64 e'] 144 ∧ PI ns ns' R e e' f i id := by
 refine fc (n := 29) Tryz.func118 rfl rfl (Nat.le_of_ble_eq_true rfl) ?_
 have hB : Below N w w := Below.refl _ _
 have hX : Dc 188 144 N bc bz ba bm w w := Dc.refl
 have hwf := hD.wf
 have hroom := hD.room
 have htop := hD.top
 have hpl : 2 ^ i ≤ 8388608 := by have := Nat.pow_le_pow_right (show 0 < 2 by decide) (show i ≤ 23 by omega); simpa using this
 refine Zr <| Zw (.int .i64 0) rfl <| cT <| Zd (fun a b => Dc 188 144 N bc bz ba bm a b) fun W5 g => ?_
 replace hz := g.at hz
 replace hc := g.at hc
 replace hD := fI.ext g hD
 replace hX := Dc.trans hX (Dc.ext g)
 replace hB := dH hB g hN0
 have hwk0 : Wc 144 bc bz W5 := ⟨_, hc⟩
 have hS : Dc 188 144 N bc bz ba bm W5 W5 := Dc.refl
 refine Tq 0 rfl rfl hS <| Tq 1 rfl rfl hS <| Tc 2 rfl rfl hS <| Tf 3 rfl rfl jB hS <| Tk 4 rfl (fun _ hq => dk (v := .pointer (some ⟨bz, 0, none⟩)) rfl ix (Wc.c0 (Dc.wk hq hwk0))) hS <| Ti 5 rfl rfl hS <| Tq 6 rfl rfl hS <| Tq 7 rfl rfl hS <| Tc 8 rfl rfl hS <| Tf 9 rfl rfl jB hS <| Tk 10 rfl (fun _ hq => dk (v := .pointer (some ⟨bz, 0, none⟩)) rfl ix (Wc.c0 (Dc.wk hq hwk0))) hS <| Ti 11 rfl rfl hS <| Tk 12 rfl (fun _ _ => jU (m := 1) rfl rfl Om (by simp only [IntKind.bits]; omega) (by simp only [d8, Int.toNat_natCast, Nat.one_mul]; omega)) hS <| To 13 rfl (ff (u := .int .i64 _) rfl dw fC rfl Dd Dd fun A W7 t d B => ⟨.inl (Dc.trans hS (Dc.ext d)), ?_⟩)
 have C : N ≤ A := t ▸ (Nat.le_trans hN0 (Below.size hB))
 clear t
 replace hz := d.at hz
 replace hc := d.at hc
 replace hD := fI.ext d hD
 replace hX := Dc.trans hX (Dc.ext d)
 replace hB := dH hB d hN0
 replace hS := Dc.trans hS (Dc.ext d)
 have c := iL (enc := ef) (a := ((1 * 2 ^ i : Nat) : Int)) B rfl rfl C
 refine To 14 rfl (TG Gd (pk N ba bm bz R ns _ [((1 * 2 ^ i : Nat) : Int)] _ (Nat.le_trans hN0 (Below.size hB)) hz hD c.sl (show 1 ≤ 1000000 by decide)) rfl fun J K r => ⟨.inl (Dc.trans hS (Dc.zdd hD (PE.dx r) (by decide) (by decide))), ?_⟩)
 replace hS := Dc.trans hS (Dc.zdd hD (PE.dx r) Dd Dd)
 obtain ⟨x, D, E, rfl, h, F, G⟩ := r
 replace hz := At.dx hD h hz Dd Dd
 replace hc := At.dx hD h hc Dd Dd
 replace hX := Dc.trans hX (Dc.zdd hD h Dd Dd)
 replace hB := Below.dx hB (Nat.le_refl _) hN0 h
 replace c := dh.dx hD h c Dd Dd
 replace hD := F
 have hgA := Np G (by rw [Nat.one_mul]; exact P5 hi)
 have hvA := hgA.valid
 have hf1 : f < x.length + 2 := by have := gi hgA.pre; omega
 have hw1 := hD.wf
 refine Tk 15 rfl (fun _ _ => dG rfl) hS <| Tk 16 rfl (fun _ _ => dJ rfl) hS <| To 17 rfl (TG nq (eY N bc bz _ _ _ _ (Nat.le_trans hN0 (Below.size hB)) hc loc) rfl fun L M k => ⟨.inl (Dc.trans hS (Dc.did k.1 loc k.2.1)), ?_⟩)
 replace hS := Dc.trans hS (Dc.did k.1 loc k.2.1)
 obtain ⟨l, y, rfl⟩ := k
 replace hX := Dc.trans hX (Dc.did l loc y)
 replace hz := At.grownAt hz hc l Dd
 replace hD := fI.grownAt hD hc l Dd Dd
 replace hB := dA hB l hN0 (fun j hj => by cases hj; exact loc)
 replace c := dh.grownAt c hc l Dd
 replace hc := y
 refine To 18 rfl (TG EF (nm N ba bm bz R x f (jP e E D) _ (Nat.le_trans hN0 (Below.size hB)) hz hD hf1 (oF hvA)) rfl fun O P s => ⟨.inl (Dc.trans hS (Dc.zdd hD (PO.dx s) (by decide) (by decide))), ?_⟩)
 replace hS := Dc.trans hS (Dc.zdd hD (PO.dx s) Dd Dd)
 obtain ⟨Q, S, T, rfl, o, H, I⟩ := s
 replace hz := At.dx hD o hz Dd Dd
 replace hc := At.dx hD o hc Dd Dd
 replace hB := Below.dx hB (Nat.le_refl _) hN0 o
 replace c := dh.dx hD o c Dd Dd
 replace hX := Dc.trans hX (Dc.zdd hD o Dd Dd)
 replace hD := H
 refine Tk 19 rfl (fun _ _ => dG rfl) hS <| Tk 20 rfl (fun _ _ => dJ rfl) hS <| To 21 rfl (TG nq (eY N bc bz _ _ _ _ (Nat.le_trans hN0 (Below.size hB)) hc loc) rfl fun U V p => ⟨.inl (Dc.trans hS (Dc.did p.1 loc p.2.1)), ?_⟩)
 replace hS := Dc.trans hS (Dc.did p.1 loc p.2.1)
 obtain ⟨q, z, rfl⟩ := p
 replace hX := Dc.trans hX (Dc.did q loc z)
 replace hz := At.grownAt hz hc q Dd
 replace hD := fI.grownAt hD hc q Dd Dd
 replace hB := dA hB q hN0 (fun j hj => by cases hj; exact loc)
 replace c := dh.grownAt c hc q Dd
 replace hc := z
 refine Ti 22 rfl rfl hS <| Td <| Zt <| dC (v := .int .i64 _) rfl ?_
 exact ⟨_, _, _, rfl, hX, hz, hD, hc, Qt hw1 hgA I hf hi⟩
def Q9 (fu : Nat) : Prop := ∀ (N ba bm bz bc R : Nat) (ns : List Nd) (e : Int) (s n i : Nat) (w : World), (N ≤ w.heap.size) → (At w bz #[.pointer (some ⟨ba, 0, none⟩)] 141) → (fI 163 188 N ba bm R w ns) → (At w bc #[.pointer (some ⟨bz, 0, none⟩), .int .i64 e] 144) → (N ≤ bc) → (n ≤ 8) → (un n s i) → n + 1 - i ≤ fu →
  rl Tryz.prog 101 #[.pointer (some ⟨bc, 0, none⟩), eT s, eT (fo n), .int .i64 (n : Int), .int .i64 (i : Int)] w fun v w' => ∃ (ns' : List Nd) (e' : Int) (id : Nat), v = .int .i64 (id : Int) ∧ Dc 188 144 N bc bz ba bm w w' ∧ At w' bz #[.pointer (some ⟨ba, 0, none⟩)] 141 ∧ fI 163 188 N ba bm R w' ns' ∧ At w' bc #[.pointer (some ⟨bz, 0, none⟩), .int .i64 e'] 144 ∧ Kf ns ns' R e e' n i s id
theorem MY (w : World) : (sizeOf 49).run Tryz.prog w = .ok 4 w := by
  obtain ⟨j0, hj0, hs0⟩ := Option.map_eq_some_iff.1 (show (Tryz.prog.info? 49).map (·.size) = some 4 by kernel_rfl)
  simp [sizeOf, typeInfo, hj0, hs0]
theorem MS {s i k : Nat} (hk : k < 2) (w : World) : (part 49 (mQ (dp s i false) (dp s i true)) (k * 4)).run Tryz.prog w = .ok (eT (M5 s i k)) w := by
  obtain ⟨j0, hj0, hs0⟩ := Option.map_eq_some_iff.1 (show (Tryz.prog.info? 49).map (·.size) = some 4 by kernel_rfl)
  have : k = 0 ∨ k = 1 := by omega
  rcases this with rfl | rfl <;> simp [part, isAgg, sizeOf, typeInfo, hj0, hs0, run_underlying Tryz.underlying49, mQ, M5] <;> rfl
set_option maxRecDepth 20000 in
theorem Jm (q : Nat) (N ba bm bz bc R : Nat) (ns : List Nd) (e : Int) (s n i : Nat) (w : World) (ih : Q9 q) (hN0 : N ≤ w.heap.size) (hz : At w bz #[.pointer (some ⟨ba, 0, none⟩)] 141) (hD : fI 163 188 N ba bm R w ns) (hc : At w bc #[.pointer (some ⟨bz, 0, none⟩), .int .i64 e] 144) (loc : N ≤ bc) (h8 : n ≤ 8) (hfr : un n s i) (hn : n + 1 - i ≤ q + 1) :
    rl Tryz.prog 101 #[.pointer (some ⟨bc, 0, none⟩), eT s, eT (fo n), .int .i64 (n : Int), .int .i64 (i : Int)] w fun v w' => ∃ (ns' : List Nd) (e' : Int) (id : Nat), v = .int .i64 (id : Int) ∧ Dc 188 144 N bc bz ba bm w w' ∧ At w' bz #[.pointer (some ⟨ba, 0, none⟩)] 141 ∧ fI 163 188 N ba bm R w' ns' ∧ At w' bc #[.pointer (some ⟨bz, 0, none⟩), .int .i64 e'] 144 ∧ Kf ns ns' R e e' n i s id := by
 refine fc (n := 99) Tryz.func101 rfl rfl (Nat.le_of_ble_eq_true rfl) ?_
 have hB : Below N w w := Below.refl _ _
 have hX : Dc 188 144 N bc bz ba bm w w := Dc.refl
 have hwf := hD.wf
 have hroom := hD.room
 have htop := hD.top
 refine Zr <| Zy (dY (c := #[_, _, _, _]) rfl rfl fun P W3 U J f => ?_)
 have bd : N ≤ P := U ▸ (Nat.le_trans hN0 (Below.size hB))
 have bf : w.heap.size ≤ P := U ▸ hX.dx.size
 clear U
 replace hz := J.at hz
 replace hc := J.at hc
 replace hD := fI.ext J hD
 replace hX := Dc.trans hX (Dc.ext J)
 replace hB := dH hB J hN0
 refine Zy (dY (c := #[_, _, _, _]) rfl rfl fun Q W6 S H g => ?_)
 have bg : N ≤ Q := S ▸ (Nat.le_trans hN0 (Below.size hB))
 have bh := Zn S f.lt
 have bi : w.heap.size ≤ Q := S ▸ hX.dx.size
 clear S
 replace hz := H.at hz
 replace hc := H.at hc
 replace hD := fI.ext H hD
 replace hX := Dc.trans hX (Dc.ext H)
 replace hB := dH hB H hN0
 replace f := H.at f
 refine Zw (.int .i64 0) rfl <| cT <| cY fun K9 ax => c9 <| Zr <| Zp rfl <| Zc rfl <| Zf rfl kb <| Zl rfl fX hc rfl <| Zv (f4 rfl rfl) <| ZX rfl (fun K => ?_) fun K => ?_
 refine Zs <| Zs <| Zs <| Zw (.bool true) rfl <| Zw (.bool true) rfl <| cT <| dB rfl <| Zr <| Zw (.int .i64 0) rfl <| cT <| Zt <| dC (v := .int .i64 0) rfl ?_
 exact ⟨ns, e, 0, rfl, hX, hz, hD, hc, OB K⟩
 refine Zv (db rfl df rfl f) <| Zv (v := eT 0) (gI ) <| Zv (su rfl rfl) <| Zb rfl <| Zb rfl <| cT <| ZQ rfl (fun V => ?_) fun V => ?_
 refine Zr <| Zw (.int .i64 0) rfl <| cT <| Zt <| dC (v := .int .i64 0) rfl ?_
 exact ⟨ns, e, 0, rfl, hX, hz, hD, hc, RA (Decidable.of_not_not K) h8 (uR V)⟩
 refine Zr <| Zv (db rfl df rfl f) <| Zv (db rfl df rfl g) <| Zv (su rfl rfl) <| Zb rfl <| cT <| ZQ rfl (fun X => ?_) fun X => ?_
 refine Zr <| Zw (.int .i64 1) rfl <| cT <| Zt <| dC (v := .int .i64 1) rfl ?_
 exact ⟨ns, e, 1, rfl, hX, hz, hD, hc, RG (Decidable.of_not_not K) h8 (uR X)⟩
 refine c7 <| ax _ _ ?_
 have he : e = 0 := Decidable.of_not_not K
 subst he
 have h0 : ¬ xE s 0 = true := fun h => V (tw h)
 have h1 : ¬ xE s (fo n) = true := fun h => X (tw h)
 have hi : i < n := hfr.lt h8 h0 h1
 have hi8 : i < 8 := by omega
 refine Zr <| Zy (dt vi rfl fun T bj Y D d => ?_)
 have ap : N ≤ T := Y ▸ (Nat.le_trans hN0 (Below.size hB))
 have ay : w.heap.size ≤ T := Y ▸ hX.dx.size
 clear Y
 replace hz := D.at hz
 replace hc := D.at hc
 replace hD := fI.ext D hD
 replace hX := Dc.trans hX (Dc.ext D)
 replace hB := dH hB D hN0
 replace f := D.at f
 replace g := D.at g
 refine cT <| cY fun bk az => ?_
 replace d := t5 (s := s) (i := i) d
 refine Zr <| Zw (.int .i64 0) rfl <| cT <| c9 ?_
 refine dy (σ := (Nat)) [12, 33, 34, 35, 36, 37, 38, 39, 40, 41, 42, 43, 44, 45] (fun k => [(33, .int .i64 (k : Int))]) (fun k W => (At W bz _ 141) ∧ (At W bc _ 144) ∧ (fI 163 188 N ba bm R W ns) ∧ (Dc 188 144 N bc bz ba bm w W) ∧ (Below N w W) ∧ (At W P _ 49) ∧ (At W Q _ 49) ∧ (At W T (nL s i k) 164) ∧ (k ≤ 2) ∧ (True)) (fun k => 2 - k) (0) ⟨rfl, trivial⟩ ⟨hz, hc, hD, hX, hB, f, g, d, (Nat.zero_le _), trivial⟩ ?_
 clear hz hc hD hX hB f g d
 rintro k bl bn ⟨hz, hc, hD, hX, hB, f, g, d, hk, _⟩ bo aA
 refine Zr <| Zv (dM rfl rfl) <| cT <| cY fun bp aB => ZQ rfl (fun aC => ?_) fun aC => ?_
 refine c7 <| aB _ _ <| cY fun bq aD => c9 <| Zr <| Zi rfl <| Zi rfl <| cT <| cZ <| Zi rfl <| Zv (db rfl df rfl f) <| Zi rfl <| Zi rfl <| Zv (dS rfl rfl) ?_
 refine ZC (vs := [.agg #[_, _, _, _], .int .i64 _, .bool _]) z8 (wE _ _ _ _) rfl fun br bs r aE => ?_
 replace hz := r.at hz
 replace hc := r.at hc
 replace hD := fI.ext r hD
 replace hX := Dc.trans hX (Dc.ext r)
 replace hB := dH hB r hN0
 replace f := r.at f
 replace g := r.at g
 replace d := r.at d
 obtain rfl := aE
 rw [if_pos (show 0 ≤ (i : Int) ∧ (i : Int) < 8 by omega)]
 simp only [Int.toNat_natCast]
 refine Zi rfl <| ZC (vs := [.agg #[_, _, _, _], .int .i64 _]) MF (xP (po s i (decide ((k : Int) = 1))) i _ Om) rfl fun aF bt t Z => ?_
 replace hz := t.at hz
 replace hc := t.at hc
 replace hD := fI.ext t hD
 replace hX := Dc.trans hX (Dc.ext t)
 replace hB := dH hB t hN0
 replace f := t.at f
 replace g := t.at g
 replace d := t.at d
 replace Z : aF = eT (dp s i (decide ((k : Int) = 1))) := Z
 obtain rfl := Z
 refine Zv (fi rfl rfl gX Om Om) <| Zy (wR rfl rfl df rfl d (by rw [qr]; omega) rfl fun bu E aG => ?_)
 replace hz := At.grownAt hz d E Dd
 replace hc := At.grownAt hc d E Dd
 replace hD := fI.grownAt hD d E Dd Dd
 replace hX := Dc.new hX ay ap E d Dd
 replace hB := dA hB E hN0 (fun j hj => by cases hj; exact ap)
 replace f := At.grownAt f d E Dd
 replace g := At.grownAt g d E Dd
 replace d := aG
 try simp only [Int.toNat_natCast] at d
 rw [rP (by omega)] at d
 refine cT <| aD _ _ <| cZ <| Zv (dm rfl rfl Om Om) <| Zi rfl <| cT ?_
 exact aA _ _ (k + 1) Za ⟨rfl, trivial⟩ ⟨hz, hc, hD, hX, hB, f, g, (by exact d), Om, trivial⟩ Zo
 refine dr <| az _ _ ?_
 obtain rfl : k = 2 := by omega
 replace d : At _ _ (mQ (dp s i false) (dp s i true)) _ := d
 refine Zd (fun a b => Dc 188 144 N bc bz ba bm a b) fun aa u => ?_
 replace hz := u.at hz
 replace hc := u.at hc
 replace hD := fI.ext u hD
 replace hX := Dc.trans hX (Dc.ext u)
 replace hB := dH hB u hN0
 replace f := u.at f
 replace g := u.at g
 replace d := u.at d
 have hwk0 : Wc 144 bc bz aa := ⟨_, hc⟩
 have hS : Dc 188 144 N bc bz ba bm aa aa := Dc.refl
 refine Tq 0 rfl rfl hS <| Tk 1 rfl (fun _ _ => fi rfl rfl gX Om Om) hS <| Tk 2 rfl (fun _ hq => fw rfl df (At.cell (At.dc hD hc hq d Dd Dd Dd) rfl) (At.cell (At.dc hD hc hq d Dd Dd Dd) rfl) (At.cell (At.dc hD hc hq d Dd Dd Dd) rfl) (At.cell (At.dc hD hc hq d Dd Dd Dd) rfl)) hS <| Tk 3 rfl (fun _ _ => fi rfl rfl gX Om Om) hS <| Tk 4 rfl (fun _ hq => fw rfl df (At.cell (At.dc hD hc hq d Dd Dd Dd) rfl) (At.cell (At.dc hD hc hq d Dd Dd Dd) rfl) (At.cell (At.dc hD hc hq d Dd Dd Dd) rfl) (At.cell (At.dc hD hc hq d Dd Dd Dd) rfl)) hS <| Tk 6 rfl (fun _ hq => db rfl df rfl (At.dc hD hc hq g Dd Dd Dd)) hS <| Ti 7 rfl rfl hS <| Ti 8 rfl rfl hS <| Tk 9 rfl (fun _ _ => dm rfl rfl Om Om) hS <| To 5 rfl (TC (vs := [.agg #[_, _, _, _], .agg #[_, _, _, _]]) tN (qU _ _ _) rfl fun bv bw m aH => ⟨.inl (Dc.trans hS (Dc.ext m)), ?_⟩)
 replace hz := m.at hz
 replace hc := m.at hc
 replace hD := fI.ext m hD
 replace hX := Dc.trans hX (Dc.ext m)
 replace hB := dH hB m hN0
 replace f := m.at f
 replace g := m.at g
 replace d := m.at d
 replace hS := Dc.trans hS (Dc.ext m)
 obtain rfl := aH
 refine To 10 rfl (TG (vs := [.pointer (some ⟨bc, 0, none⟩), .agg #[_, _, _, _], .agg #[_, _, _, _], .int .i64 _, .int .i64 _]) zZ (ih N ba bm bz bc R ns 0 (Al s i) n (i + 1) _ (Nat.le_trans hN0 (Below.size hB)) hz hD hc loc h8 (FV h8 hfr hi) Om) rfl fun bx bA ab => ⟨.inl (Dc.trans hS ((by obtain ⟨_, _, _, _, h, _⟩ := ab; exact h))), ?_⟩)
 replace hS := Dc.trans hS ((by obtain ⟨_, _, _, _, h, _⟩ := ab; exact h))
 obtain ⟨aI, e11_10, ac, rfl, I, aJ, hD11_10, aK, aL⟩ := ab
 replace hX := Dc.trans hX I
 replace hB := Below.dx hB (Nat.le_refl _) hN0 I.dx
 replace f := At.dc hD hc I f Dd Dd Dd
 replace g := At.dc hD hc I g Dd Dd Dd
 replace d := At.dc hD hc I d Dd Dd Dd
 replace hz := aJ
 replace hD := hD11_10
 replace hc := aK
 clear I
 refine Ti 11 rfl rfl hS <| Td <| Zr <| Zi rfl <| Zi rfl <| cT <| cY fun bB aM => Zr <| Zv (db rfl JH rfl d) <| Zw (.int .i64 0) rfl <| cT <| c9 ?_
 refine dy (σ := (Nat) × (Nat) × (List Nd) × (Int)) [14, 15, 16, 17, 59, 60, 61, 62, 63, 64, 65, 66, 67, 68, 69, 70, 71, 72, 73, 74, 75, 76, 77, 78, 79, 80, 81, 82, 83, 84, 85, 86, 87, 88, 89, 90, 91, 92, 93, 94, 95, 96, 97] (fun (k, oid, nsc, ec) => [(59, .int .i64 (k : Int)), (14, .int .i64 (oid : Int))]) (fun sg W => match sg with | (k, oid, nsc, ec) => (At W bz _ 141) ∧ (Dc 188 144 N bc bz ba bm w W) ∧ (Below N w W) ∧ (At W P _ 49) ∧ (At W Q _ 49) ∧ (At W T _ 164) ∧ (fI 163 188 N ba bm R W nsc) ∧ (At W bc #[.pointer (some ⟨bz, 0, none⟩), .int .i64 ec] 144) ∧ (k ≤ 2) ∧ (QY ns nsc R n i s k ec ac oid) ∧ (True)) (fun (k, oid, nsc, ec) => 2 - k) ((0, ac, aI, e11_10)) ⟨rfl, rfl, trivial⟩ ⟨hz, hX, hB, f, g, d, hD, hc, (Nat.zero_le _), (Jc aL), trivial⟩ ?_
 clear hz hc hD hX hB f g d
 rintro ⟨k, oid, nsc, ec⟩ bC bD ⟨hz, hX, hB, f, g, d, hD, hc, hk, hlp, _⟩ bE aN
 refine Zr <| Zv (dM rfl rfl) <| cT <| cY fun bF aO => ZQ rfl (fun aP => ?_) fun aP => ?_
 refine c7 <| aO _ _ <| cY fun bG aQ => c9 <| Zr <| Zi rfl <| Zv (v := eT (M5 s i k)) (CG rfl rfl Tryz.underlying164 Om (MY _) (MS Om _)) <| Zy (dt eR rfl fun ad aR L x l => ?_)
 have aq : N ≤ ad := L ▸ (Nat.le_trans hN0 (Below.size hB))
 have aS := Zn L f.lt
 have aT := Zn L g.lt
 have aU : w.heap.size ≤ ad := L ▸ hX.dx.size
 clear L
 replace hz := x.at hz
 replace hX := Dc.trans hX (Dc.ext x)
 replace hB := dH hB x hN0
 replace f := x.at f
 replace g := x.at g
 replace d := x.at d
 replace hD := fI.ext x hD
 replace hc := x.at hc
 replace l : At aR ad #[wv 0 0, wv 0 1, wv 0 2, wv 0 3] 49 := l
 refine Zi rfl <| Zy (dg rfl rfl df rfl l rfl rfl fun bH y aV => ?_)
 replace hz := At.grownAt hz l y Dd
 replace hX := Dc.new hX aU aq y l Dd
 replace hB := dA hB y hN0 (fun j hj => by cases hj; exact aq)
 replace f := At.grownNe f aS y
 replace g := At.grownNe g aT y
 replace d := At.grownAt d l y Dd
 replace hD := fI.grownAt hD l y Dd Dd
 replace hc := At.grownAt hc l y Dd
 replace l := aV
 refine cT ?_
 have hvc := hlp.vc
 have hvo := hlp.vo
 refine Zd (fun a b => Dc 188 144 N bc bz ba bm a b) fun ae o => ?_
 replace hz := o.at hz
 replace hX := Dc.trans hX (Dc.ext o)
 replace hB := dH hB o hN0
 replace f := o.at f
 replace g := o.at g
 replace d := o.at d
 replace hD := fI.ext o hD
 replace hc := o.at hc
 replace l := o.at l
 have hwk0 : Wc 144 bc bz ae := ⟨_, hc⟩
 have hS : Dc 188 144 N bc bz ba bm ae ae := Dc.refl
 refine Tq 0 rfl rfl hS <| Tq 1 rfl rfl hS <| Tc 2 rfl rfl hS <| Tf 3 rfl rfl jB hS <| Tk 4 rfl (fun _ hq => dk (v := .pointer (some ⟨bz, 0, none⟩)) rfl ix (Wc.c0 (Dc.wk hq hwk0))) hS <| Tq 5 rfl rfl hS <| Tk 6 rfl (fun _ hq => db rfl df rfl (At.dc hD hc hq l Dd Dd Dd)) hS <| Tk 7 rfl (fun _ hq => db rfl df rfl (At.dc hD hc hq g Dd Dd Dd)) hS <| Ti 8 rfl rfl hS <| Ti 9 rfl rfl hS <| Tk 10 rfl (fun _ _ => dm rfl rfl Om Om) hS <| Ti 12 rfl rfl hS <| To 11 rfl (TG (vs := [.pointer (some ⟨bc, 0, none⟩), .agg #[_, _, _, _], .agg #[_, _, _, _], .int .i64 _, .int .i64 _]) zZ (ih N ba bm bz bc R nsc ec (M5 s i k) n (i + 1) _ (Nat.le_trans hN0 (Below.size hB)) hz hD hc loc h8 (Dl h8 hfr hi k) Om) rfl fun bI bJ af => ⟨.inl (Dc.trans hS ((by obtain ⟨_, _, _, _, h, _⟩ := af; exact h))), ?_⟩)
 replace hS := Dc.trans hS ((by obtain ⟨_, _, _, _, h, _⟩ := af; exact h))
 obtain ⟨aW, e16_11, aX, rfl, F, aY, hD16_11, aZ, ag⟩ := af
 replace hX := Dc.trans hX F
 replace hB := Below.dx hB (Nat.le_refl _) hN0 F.dx
 replace f := At.dc hD hc F f Dd Dd Dd
 replace g := At.dc hD hc F g Dd Dd Dd
 replace d := At.dc hD hc F d Dd Dd Dd
 replace l := At.dc hD hc F l Dd Dd Dd
 replace hz := aY
 replace hD := hD16_11
 replace hc := aZ
 clear F
 have hwa := hD.wf
 have hla := gi ag.pre
 refine To 13 rfl (TG Fi (nx N ba bm bz R aW aX ac _ (Nat.le_trans hN0 (Below.size hB)) hz hD ag.v Om) rfl fun bK bL ah => ⟨.inl (Dc.trans hS (Dc.zdd hD (PO.dx ah) (by decide) (by decide))), ?_⟩)
 replace hS := Dc.trans hS (Dc.zdd hD (PO.dx ah) Dd Dd)
 obtain ⟨a0, a1, ar, rfl, z, a2, ai⟩ := ah
 replace hz := At.dx hD z hz Dd Dd
 replace hX := Dc.trans hX (Dc.zdd hD z Dd Dd)
 replace hB := Below.dx hB (Nat.le_refl _) hN0 z
 replace f := At.dx hD z f Dd Dd
 replace g := At.dx hD z g Dd Dd
 replace d := At.dx hD z d Dd Dd
 replace hc := At.dx hD z hc Dd Dd
 replace l := At.dx hD z l Dd Dd
 replace hD := a2
 have hwb := hD.wf
 have hlb := gi ai.pre
 refine Tk 14 rfl (fun _ _ => dG rfl) hS <| Tk 15 rfl (fun _ _ => dJ rfl) hS <| To 16 rfl (TG nq (eY N bc bz _ _ _ _ (Nat.le_trans hN0 (Below.size hB)) hc loc) rfl fun bM bN M => ⟨.inl (Dc.trans hS (Dc.did M.1 loc M.2.1)), ?_⟩)
 replace hS := Dc.trans hS (Dc.did M.1 loc M.2.1)
 obtain ⟨A, au, rfl⟩ := M
 replace hX := Dc.trans hX (Dc.did A loc au)
 replace hz := At.grownAt hz hc A Dd
 replace hB := dA hB A hN0 (fun j hj => by cases hj; exact loc)
 replace f := At.grownAt f hc A Dd
 replace g := At.grownAt g hc A Dd
 replace d := At.grownAt d hc A Dd
 replace hD := fI.grownAt hD hc A Dd Dd
 replace l := At.grownAt l hc A Dd
 replace hc := au
 refine Ti 17 rfl rfl hS <| Td ?_
 refine gD (fun a b => Dc 188 144 N bc bz ba bm a b) iC (fun aj p => ?_)
 replace hz := p.at hz
 replace hB := dH hB p hN0
 replace f := p.at f
 replace g := p.at g
 replace d := p.at d
 replace hD := fI.ext p hD
 replace hc := p.at hc
 replace l := p.at l
 replace hX := Dc.trans hX (Dc.ext p)
 have hwk0 : Wc 144 bc bz aj := ⟨_, hc⟩
 have hS : Dc 188 144 N bc bz ba bm aj aj := Dc.refl
 refine Tq 0 rfl rfl hS <| Tq 1 rfl rfl hS <| Tc 2 rfl rfl hS <| Tf 3 rfl rfl jB hS <| Tk 4 rfl (fun _ hq => dk (v := .pointer (some ⟨bz, 0, none⟩)) rfl ix (Wc.c0 (Dc.wk hq hwk0))) hS <| Ti 5 rfl rfl hS <| Tq 6 rfl rfl hS <| Ti 7 rfl rfl hS <| Ti 8 rfl rfl hS <| Tk 9 rfl (fun _ _ => Km rfl rfl Om Om) hS <| Ti 10 rfl rfl hS <| Tk 11 rfl (fun _ _ => dm rfl rfl Om Om) hS <| To 12 rfl (TG L3 (oD N ba bm bz bc R a0 (iD e16_11 ar) (jP e16_11 ar a1) (2 * i + k) _ (Nat.le_trans hN0 (Below.size hB)) hz hD hc loc (oF ai.valid) Om) rfl fun bO bP ak => ⟨.inl (Dc.trans hS ((by obtain ⟨_, _, _, _, h, _⟩ := ak; exact h))), ?_⟩)
 replace hS := Dc.trans hS ((by obtain ⟨_, _, _, _, h, _⟩ := ak; exact h))
 obtain ⟨a3, e17_12, a4, rfl, G, a5, hD17_12, a6, al⟩ := ak
 replace hB := Below.dx hB (Nat.le_refl _) hN0 G.dx
 replace f := At.dc hD hc G f Dd Dd Dd
 replace g := At.dc hD hc G g Dd Dd Dd
 replace d := At.dc hD hc G d Dd Dd Dd
 replace l := At.dc hD hc G l Dd Dd Dd
 replace hX := Dc.trans hX G
 replace hz := a5
 replace hD := hD17_12
 replace hc := a6
 clear G
 have hwc := hD.wf
 have hlc := gi al.pre
 refine To 13 rfl (TG zw (j9 N ba bm bz R a3 oid a4 _ (Nat.le_trans hN0 (Below.size hB)) hz hD Om al.v) rfl fun bQ bR ao => ⟨.inl (Dc.trans hS (Dc.zdd hD (PO.dx ao) (by decide) (by decide))), ?_⟩)
 replace hS := Dc.trans hS (Dc.zdd hD (PO.dx ao) Dd Dd)
 obtain ⟨a7, a8, av, rfl, B, a9, bb⟩ := ao
 replace hz := At.dx hD B hz Dd Dd
 replace hB := Below.dx hB (Nat.le_refl _) hN0 B
 replace f := At.dx hD B f Dd Dd
 replace g := At.dx hD B g Dd Dd
 replace d := At.dx hD B d Dd Dd
 replace hc := At.dx hD B hc Dd Dd
 replace l := At.dx hD B l Dd Dd
 replace hX := Dc.trans hX (Dc.zdd hD B Dd Dd)
 replace hD := a9
 have hwd := hD.wf
 refine Tk 14 rfl (fun _ _ => dG rfl) hS <| Tk 15 rfl (fun _ _ => dJ rfl) hS <| To 16 rfl (TG nq (eY N bc bz _ _ _ _ (Nat.le_trans hN0 (Below.size hB)) hc loc) rfl fun bS bT O => ⟨.inl (Dc.trans hS (Dc.did O.1 loc O.2.1)), ?_⟩)
 replace hS := Dc.trans hS (Dc.did O.1 loc O.2.1)
 obtain ⟨C, aw, rfl⟩ := O
 replace hX := Dc.trans hX (Dc.did C loc aw)
 replace hz := At.grownAt hz hc C Dd
 replace hB := dA hB C hN0 (fun j hj => by cases hj; exact loc)
 replace f := At.grownAt f hc C Dd
 replace g := At.grownAt g hc C Dd
 replace d := At.grownAt d hc C Dd
 replace hD := fI.grownAt hD hc C Dd Dd
 replace l := At.grownAt l hc C Dd
 replace hc := aw
 refine Ti 17 rfl rfl hS <| Td <| aQ _ _ <| cZ <| Zv (dm rfl rfl Om Om) <| Zi rfl <| cT ?_
 exact aN _ _ ((k + 1, jP e17_12 av a8, a7, iD e17_12 av)) Za ⟨rfl, rfl, trivial⟩ ⟨hz, hX, hB, f, g, d, hD, (by exact hc), Om, (Mf h8 hfr hi Om hlp hwa hwb hwc hwd ag ai al bb), trivial⟩ (by show 2 - (k + 1) < 2 - k; omega)
 refine dr <| aM _ _ <| Zr <| Zi rfl <| Zi rfl <| cT <| Zt <| dC (v := .int .i64 _) rfl ?_
 obtain rfl : k = 2 := by omega
 exact ⟨_, _, _, rfl, hX, hz, hD, hc, Ox h8 hfr hi hlp⟩
end
section
open Go Go.RowKit
end
section
open Go Go.RowKit
def AY (x : Rw) : Nat := q8 x.c + x.o % 16 * 65536
def RX (m k : Nat) : Nat := m / 2 ^ (2 * k) % 4
end
section
open Go Go.RowKit
theorem PM {s n : Nat} (h : vt s (n : Int) = true) : n ≤ 8 ∧ un n s 0 := by
 unfold vt at h
 obtain ⟨h1, h2⟩ := Bool.and_eq_true_iff.1 h
 obtain ⟨h3, h4⟩ := Bool.and_eq_true_iff.1 h2
 have h8 : n ≤ 8 := by have := of_decide_eq_true h3; omega
 rw [Int.toNat_natCast] at h4
 refine ⟨h8, KT fun p hp hb => ?_⟩
 have := ea.1 h4 p hp hb
 rw [fR] at this
 exact of_decide_eq_true this
theorem M3 {n : Nat} (h : n ≤ 8) {v : Value} (hv : v = if 0 ≤ (n : Int) ∧ (n : Int) ≤ 8 then .tuple #[eT (fo (n : Int).toNat), .int .i64 0] else .tuple #[eT 0, .int .i64 1]) : v = .tuple #[eT (fo n), .int .i64 0] := by
 rw [if_pos (by omega), Int.toNat_natCast] at hv
 exact hv
def dl (m q : Nat) : Int := if RX m q = 1 then 0 else if RX m q = 2 then 1 else 2
end
section
open Go Go.RowKit
theorem NI : ∀ q, Q9 q
 | 0 => fun N ba bm bz bc R ns e s n i w _ _ _ _ _ _ hfr hn => by
  have := hfr.le
  omega
 | q + 1 => fun N ba bm bz bc R ns e s n i w => Jm q N ba bm bz bc R ns e s n i w (NI q)
end
section
open Go Go.RowKit
section
variable {ns ns' : List Nd} {R n s id k : Nat} {er : Int}
end
end
end Go.Proofs.YteimkklmmanncaaGreat
