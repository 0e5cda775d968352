/- Plain words for what rows cover: the points of an output, point by point. Steps of the walks. No program in it. The walks of what rows cover, and of the document's rows, primes and growing. A row of the call's own is changed in place: one field of an element, and an append onto its own part (element -/
import Derived.Test.YteimkklmmanncaaGreatWMulti
import Derived.Laws.Strings2
import Derived.Laws.Strings3
import Derived.Laws.Concat
import Derived.Laws.BytesString
namespace Go.Proofs.YteimkklmmanncaaGreat
set_option linter.unusedVariables false
set_option linter.unusedSimpArgs false
section
open Go Go.RowKit
def gH (l : List Rw) : Prop := ∀ x, x ∈ l → x.c.m < 256 ∧ x.c.v < 256 ∧ x.o < 256
theorem gH.get {l : List Rw} (h : gH l) {k : Nat} (hk : k < l.length) : (l.getD k ⟨⟨0, 0⟩, 0⟩).c.m < 256 ∧ (l.getD k ⟨⟨0, 0⟩, 0⟩).c.v < 256 ∧ (l.getD k ⟨⟨0, 0⟩, 0⟩).o < 256 := h _ (dU hk)
theorem HI {S : Sp} {l : List Rw} {k : Nat} (hk : k < l.length) (h : ¬ EW S (l.getD k ⟨⟨0, 0⟩, 0⟩) = true) : Value.bool false = .bool (oX S l) := lW fun hm => h (kP.1 hm k hk)
theorem QJ {S : Sp} {x : Rw} (h : (!dZ x.c.m x.c.v S.n) = true) : ¬ EW S x = true := fun hk => by
 rw [(jn.1 hk).1] at h; cases h
theorem QN {S : Sp} {x : Rw} (h : (x.o : Int) = 0) : ¬ EW S x = true := fun hk => by
 have := (jn.1 hk).2.1; omega
theorem Rj {S : Sp} {x : Rw} (h : ((1 * 2 ^ S.on.length : Nat) : Int) ≤ (x.o : Int)) : ¬ EW S x = true := fun hk => by
 have := (jn.1 hk).2.2
 rw [Nat.one_mul] at h; omega
theorem QQ {S : Sp} {x : Rw} (h : (!dZ x.c.m x.c.v S.n) = false) (h2 : ¬ (x.o : Int) = 0) (h3 : ¬ ((1 * 2 ^ S.on.length : Nat) : Int) ≤ (x.o : Int)) : EW S x = true := by
 rw [Nat.one_mul] at h3
 exact jn.2 ⟨ig h, by omega, by omega⟩
theorem FQ {S : Sp} {x : Rw} : (Nw x.o S.on.length && dZ x.c.m x.c.v S.n) = EW S x := by
 rw [Bool.eq_iff_iff, Bool.and_eq_true, rV, jn]
 exact ⟨fun h => ⟨h.2, h.1⟩, fun h => ⟨h.2, h.1⟩⟩
def xP (l : List Rw) (n out : Int) : Bool := decide (0 ≤ n ∧ n ≤ 8 ∧ 0 ≤ out ∧ out < 4) && l.all fun x => dZ x.c.m x.c.v n
theorem sF {l : List Rw} {n out : Int} : xP l n out = true ↔ (0 ≤ n ∧ n ≤ 8 ∧ 0 ≤ out ∧ out < 4) ∧ ∀ k, k < l.length → dZ (l.getD k ⟨⟨0, 0⟩, 0⟩).c.m (l.getD k ⟨⟨0, 0⟩, 0⟩).c.v n = true := by
 unfold xP
 rw [Bool.and_eq_true, decide_eq_true_eq, List.all_eq_true]
 constructor
 ·rintro ⟨h1, h2⟩; exact ⟨h1, fun k hk => h2 _ (dU hk)⟩
 ·rintro ⟨h1, h2⟩
  refine ⟨h1, fun x hx => ?_⟩
  obtain ⟨k, hk, rfl⟩ := fh (d := ⟨⟨0, 0⟩, 0⟩) hx
  exact h2 k hk
theorem uE {l : List Rw} {n out : Int} (h : ¬ (0 ≤ n ∧ n ≤ 8 ∧ 0 ≤ out ∧ out < 4)) : ¬ xP l n out = true := fun k => h (sF.1 k).1
theorem Ph {l : List Rw} {n out : Int} {k : Nat} (hk : k < l.length) (h : dZ (l.getD k ⟨⟨0, 0⟩, 0⟩).c.m (l.getD k ⟨⟨0, 0⟩, 0⟩).c.v n = false) : ¬ xP l n out = true := fun q => by
 rw [(sF.1 q).2 k hk] at h; cases h
theorem M4 {l : List Rw} {n out : Int} {v : Value} (h : v = if xP l n out = true then .tuple #[eP (m5 l n.toNat out.toNat l.length), .int .i64 0] else .tuple #[eP 0, .int .i64 1]) :
  ∃ (sa : Nat) (er : Int), v = .tuple #[eP sa, .int .i64 er] ∧ ((xP l n out = true ∧ sa = m5 l n.toNat out.toNat l.length ∧ er = 0) ∨ (xP l n out = false ∧ sa = 0 ∧ er = 1)) := by
 by_cases ho : xP l n out = true
 ·rw [if_pos ho] at h
  exact ⟨_, _, h, .inl ⟨ho, rfl, rfl⟩⟩
 ·rw [if_neg ho] at h
  exact ⟨_, _, h, .inr ⟨by simpa using ho, rfl, rfl⟩⟩
theorem LM {S : Sp} {l : List Rw} {o : Nat} (hr : dL S = true) (hm : oX S l = true) (ho : o < S.on.length) : xP l S.n (o : Int) = true := by
 obtain ⟨h0, h8, h1, h4, h5, _⟩ := dX.1 hr
 exact sF.2 ⟨by omega, fun k hk => (jn.1 (kP.1 hm k hk)).1⟩
theorem OE {S : Sp} {l : List Rw} (h : dL S = false) : Value.bool false = .bool (jy S l) := lW fun k => by
 rw [(gY.1 k).1] at h; cases h
theorem Ox {S : Sp} {l : List Rw} (h : oX S l = false) : Value.bool false = .bool (jy S l) := lW fun k => by
 rw [(gY.1 k).2.1] at h; cases h
theorem P7 {S : Sp} {l : List Rw} {o : Nat} (ho : o < S.on.length) (h : ep (AO S o) (m5 l S.n.toNat o l.length) = false) : Value.bool false = .bool (jy S l) := lW fun k => by
 have := (gY.1 k).2.2 o ho
 unfold xR at this
 rw [h] at this; cases this
theorem P2 {S : Sp} {l : List Rw} {o : Nat} (ho : o < S.on.length) (h : ep (m5 l S.n.toNat o l.length) (iM S o) = false) : Value.bool false = .bool (jy S l) := lW fun k => by
 have := (gY.1 k).2.2 o ho
 unfold xR at this
 rw [h, Bool.and_false] at this; cases this
theorem HY {S : Sp} {l : List Rw} {o : Nat} (h1 : ep (AO S o) (m5 l S.n.toNat o l.length) = true) (h2 : ep (m5 l S.n.toNat o l.length) (iM S o) = true) : xR S l o = true := by
 unfold xR; rw [h1, h2]; rfl
def AE (l : List Rw) (p o : Nat) : Bool := l.any fun x => x.o.testBit o && mI x.c.m x.c.v p
theorem sI {l : List Rw} {p o : Nat} : AE l p o = true ↔ ∃ k, k < l.length ∧ ((l.getD k ⟨⟨0, 0⟩, 0⟩).o.testBit o && mI (l.getD k ⟨⟨0, 0⟩, 0⟩).c.m (l.getD k ⟨⟨0, 0⟩, 0⟩).c.v p) = true := by
 unfold AE
 rw [List.any_eq_true]
 constructor
 ·rintro ⟨x, hx, h⟩
  obtain ⟨k, hk, rfl⟩ := fh (d := ⟨⟨0, 0⟩, 0⟩) hx
  exact ⟨k, hk, h⟩
 ·rintro ⟨k, hk, h⟩; exact ⟨_, dU hk, h⟩
theorem RJ {l : List Rw} {p o k : Nat} (hk : k < l.length) (h1 : (l.getD k ⟨⟨0, 0⟩, 0⟩).o.testBit o = true) (h2 : mI (l.getD k ⟨⟨0, 0⟩, 0⟩).c.m (l.getD k ⟨⟨0, 0⟩, 0⟩).c.v p = true) : Value.bool true = .bool (AE l p o) := tV (sI.2 ⟨k, hk, by rw [h1, h2]; rfl⟩)
theorem RV {l : List Rw} {p o k : Nat} (hk : k = l.length) (h : ∀ q, q < k → ((l.getD q ⟨⟨0, 0⟩, 0⟩).o.testBit o && mI (l.getD q ⟨⟨0, 0⟩, 0⟩).c.m (l.getD q ⟨⟨0, 0⟩, 0⟩).c.v p) = false) : Value.bool false = .bool (AE l p o) := lW fun hc => by
 obtain ⟨q, hq, h2⟩ := sI.1 hc
 rw [h q (by omega)] at h2; cases h2
theorem JA : ∀ n, n ≤ 8 → (eo (Kt (kQ (2 ^ n)))).length = 2 ^ n := by decide +kernel
theorem mV {S : Sp} {l : List Rw} {o : Nat} (hr : dL S = true) (hm : oX S l = true) (ho : o < S.on.length) :
  xR S l o = true ↔ ∀ p, p < 2 ^ S.n.toNat → ((AO S o).testBit p = true → AE l p o = true) ∧ (AE l p o = true → (iM S o).testBit p = true) := by
 obtain ⟨h0, h8, h1, h4, h5, hin⟩ := dX.1 hr
 have hp := eT h8
 obtain ⟨w1, w2⟩ := hin o ho
 have hcv : ∀ p, p < 2 ^ S.n.toNat → ((m5 l S.n.toNat o l.length).testBit p = true ↔ AE l p o = true) := fun p hpn => by
  rw [kG (by omega) p _ (Nat.le_refl _), sI]
  have key : ∀ k, k < l.length → (Px (l.getD k ⟨⟨0, 0⟩, 0⟩) o p ↔ ((l.getD k ⟨⟨0, 0⟩, 0⟩).o.testBit o && mI (l.getD k ⟨⟨0, 0⟩, 0⟩).c.m (l.getD k ⟨⟨0, 0⟩, 0⟩).c.v p) = true) := fun k hk => by
   have hv := (dV.1 (jn.1 (kP.1 hm k hk)).1).2.2.2
   unfold Px hold mI
   rw [Bool.and_eq_true, decide_eq_true_eq, hv]
  constructor
  ·rintro ⟨_, k, hk, h⟩; exact ⟨k, hk, (key k hk).1 h⟩
  ·rintro ⟨k, hk, h⟩; exact ⟨hpn, k, hk, (key k hk).2 h⟩
 unfold xR
 rw [Bool.and_eq_true, ea, ea]
 constructor
 ·rintro ⟨g1, g2⟩ p hpn
  exact ⟨fun h => (hcv p hpn).1 (g1 p (by omega) h), fun h => g2 p (by omega) ((hcv p hpn).2 h)⟩
 ·intro g
  have hlt : ∀ p, p < 256 → (iM S o).testBit p = true → p < 2 ^ S.n.toNat := fun p hp2 h => by
   have := ea.1 w2 p hp2 h
   rw [fY] at this
   simpa using this
  refine ⟨fun p hp2 h => ?_, fun p hp2 h => ?_⟩
  ·have hpn := hlt p hp2 (ea.1 w1 p hp2 h)
   exact (hcv p hpn).2 ((g p hpn).1 h)
  ·have hpn := ((kG (by omega) p _ (Nat.le_refl _)).1 h).1
   exact (g p hpn).2 ((hcv p hpn).1 h)
theorem rI {S : Sp} {l : List Rw} {o p : Nat} (hr : dL S = true) (hm : oX S l = true) (ho : o < S.on.length) (hp : p < 2 ^ S.n.toNat)
  (h : ¬ (((AO S o).testBit p = true → AE l p o = true) ∧ (AE l p o = true → (iM S o).testBit p = true))) : Value.bool false = .bool (jy S l) := lW fun k => h ((mV hr hm ho).1 ((gY.1 k).2.2 o ho) p hp)
theorem KP {a b : Bool} (h : a = false) : (a && b) = false := by rw [h]; rfl
theorem KC {a b : Bool} (h : b = false) : (a && b) = false := by rw [h, Bool.and_false]
theorem Cs {o : Nat} {i : Int} (h : ((o / 2 ^ i.toNat &&& 1 : Nat) : Int) = 1) : o.testBit i.toNat = true := lr.1 h
theorem CL {o : Nat} {i : Int} (h : ¬ ((o / 2 ^ i.toNat &&& 1 : Nat) : Int) = 1) : ¬ o.testBit i.toNat = true := fun k => h (lr.2 k)
theorem KZ {S : Sp} {l : List Rw} {k : Nat} (hk : k < l.length) (h : ¬ EW S (l.getD k ⟨⟨0, 0⟩, 0⟩) = true) : Value.bool false = .bool (jy S l) := lW fun hc => h (kP.1 (gY.1 hc).2.1 k hk)
theorem JG {s p : Nat} (hp : p < 256) (h : (p0 s).getD (p : Int).toNat false = true) : s.testBit p = true := (y7 hp).symm.trans h
theorem Hf {s p : Nat} (hp : p < 256) (h : (p0 s).getD (p : Int).toNat false = false) : ¬ s.testBit p = true := fun k => by
 rw [y7 hp, k] at h; cases h
end
section
open Go Go.RowKit
theorem Ol31_0 {p : Prop} (h : p := by first | omega | (simp only [cV, cW, cX, da, de]; omega)) : p := h
theorem r8 : dD Tryz.prog 114 = true := by kernel_rfl
theorem P6 : dD Tryz.prog 89 = true := by kernel_rfl
theorem OD : dD Tryz.prog 90 = true := by kernel_rfl
theorem Qr : dD Tryz.prog 52 = true := by kernel_rfl
theorem OK : dD Tryz.prog 28 = true := by kernel_rfl
theorem PC : dD Tryz.prog 29 = true := by kernel_rfl
theorem DV (S : Sp) (onV mayV : Value) (xa : Value) (l : List Rw) (w : World) (hon : dO fQ 4 w onV S.on) (hmay : dO fQ 4 w mayV S.may) (hl : dO fI 3 w xa l) (hlb : l.length ≤ 2000000) (hlr : gH l) (h4 : S.on.length ≤ 20) :
    Fn Tryz.prog 89 #[.agg #[.int .i64 S.n, onV, mayV], xa] w fun v w' => v = .bool (oX S l) := by
 refine dr (n := 35) Tryz.func89 rfl rfl (Nat.le_of_ble_eq_true rfl) ?_
 have hB : Below w.heap.size w w := Below.refl _ _
 refine Zr <| Zy (dW (c := #[_, _, _]) rfl rfl fun t W3 i u a => ?_)
 have L := ZO i hB
 clear i
 replace hB := Ze hB u
 refine Zw (.bool false) rfl <| cT <| cZ fun K6 y => Zr <| Zw xa rfl <| Zv (dB (v := xa) rfl (Below.slT hB hl) dR) <| Zw (.int .i64 0) rfl <| cT <| c7 ?_
 refine dz (σ := (Nat)) [4, 6, 9, 10, 11, 12, 13, 14, 15, 16, 17, 18, 19, 20, 21, 22, 23, 24, 25, 26, 27, 28, 29, 30, 31, 32, 33, 34] (fun k => [(9, .int .i64 (k : Int))]) (fun k W => (Below w.heap.size w W) ∧ (At W t _ 24) ∧ (k ≤ l.length) ∧ (∀ q, q < k → EW S (l.getD q ⟨⟨0, 0⟩, 0⟩) = true) ∧ (True)) (fun k => l.length - k) (0) ⟨rfl, trivial⟩ ⟨hB, a, (Nat.zero_le _), eY, trivial⟩ ?_
 clear hB a
 rintro k M N ⟨hB, a, hk, hq, _⟩ O z
 refine Zr <| Zv (dN rfl rfl) <| cT <| cZ fun P A => ZQ rfl (fun B => ?_) fun B => ?_
 refine c9 <| A _ _ <| cZ fun Q C => c7 ?_
 obtain ⟨D, E, R⟩ := hlr.get (k := k) (by omega)
 refine Zr <| Zv (dI (v := xa) rfl (Below.slT hB hl) rfl dR Om Ol31_0) <| Zv (kU rfl eq (dO.cell (Below.slT hB hl) eg ⟨⟨0, 0⟩, 0⟩ Om Ol31_0 0 rfl) (dO.cell (Below.slT hB hl) eg ⟨⟨0, 0⟩, 0⟩ Om Ol31_0 1 rfl) (dO.cell (Below.slT hB hl) eg ⟨⟨0, 0⟩, 0⟩ Om Ol31_0 2 rfl)) <| Zy (dw kL rfl fun T U j p b => ?_)
 have F := ZO j hB
 clear j
 replace hB := Ze hB p
 replace a := p.at a
 refine Zy (dg rfl rfl eq rfl b rfl rfl fun V r G => ?_)
 replace hB := Zg hB r F
 replace a := At.grownAt a b r Dd
 replace b := G
 refine cT <| Zd d9 fun H e => ?_
 replace hB := Ze hB e
 replace a := e.at a
 replace b := e.at b
 have hS := d9.refl H
 refine Tf 0 rfl rfl gz hS <| Tk 1 rfl (fun _ hq => g7 rfl dP (At.cell (hq.at b) rfl) (At.cell (hq.at b) rfl)) hS <| Tf 2 rfl rfl fD hS <| Tk 3 rfl (fun _ hq => dk (v := .int .i64 _) rfl dC (At.cell (hq.at a) rfl)) hS <| To 4 rfl (TC (vs := [.agg #[_, _], .int .i64 _]) ED (sZ _ _ _ _ D E) rfl fun X Y d I => ⟨.inl (hS.trans d), ?_⟩)
 have J := hB
 have K := a
 have s := b
 replace hB := Ze hB d
 replace a := d.at a
 replace b := d.at b
 replace hS := hS.trans d
 obtain rfl := I
 refine Tk 5 rfl (fun _ _ => fG rfl) hS <| Tx 6 rfl (fun _ _ => iY (v := .bool _) rfl) hS (fun f => ?_) fun f => ?_
 refine Tp 7 rfl hS <| Tp 8 rfl hS <| Tp 9 rfl hS <| Tw 10 (.bool true) rfl rfl hS <| Tw 11 (.bool true) rfl rfl hS <| Tp 12 rfl hS <| Tp 13 rfl hS <| Tp 14 rfl hS <| Tp 15 rfl hS <| Tp 16 rfl hS <| Tp 17 rfl hS <| Tp 18 rfl hS <| Tp 19 rfl hS <| Tw 20 (.bool true) rfl rfl hS ?_
 refine Td <| dA rfl <| Zr <| Zw (.bool false) rfl <| cT <| Zt <| dE (v := .bool false) rfl ⟨hB, ?_⟩
 exact HI (k := k) Om (QJ f)
 refine Tf 7 rfl rfl fM hS <| Tk 8 rfl (fun _ hq => dk (v := .int .u8 _) rfl ek (At.cell (hq.at s) rfl)) hS <| Tk 9 rfl (fun _ _ => eD rfl rfl) hS <| Ty 10 rfl rfl hS <| Tx 11 rfl (fun _ _ => iY (v := .bool _) rfl) hS (fun g => ?_) fun g => ?_
 refine Tp 12 rfl hS <| Tp 13 rfl hS <| Tp 14 rfl hS <| Tp 15 rfl hS <| Tp 16 rfl hS <| Tp 17 rfl hS <| Tp 18 rfl hS <| Tp 19 rfl hS <| Tw 20 (.bool true) rfl rfl hS <| Td <| dA rfl <| Zr <| Zw (.bool false) rfl <| cT ?_
 refine Zt <| dE (v := .bool false) rfl ⟨hB, ?_⟩
 exact HI (k := k) Om (QN g)
 refine Tf 12 rfl rfl fM hS <| Tk 13 rfl (fun _ hq => dk (v := .int .u8 _) rfl ek (At.cell (hq.at s) rfl)) hS <| Tk 14 rfl (fun _ _ => iB rfl Tryz.underlying5 Tryz.underlying3 (by show (l.getD k ⟨⟨0, 0⟩, 0⟩).o < 9223372036854775808; omega)) hS <| Tf 15 rfl rfl fE hS <| Tk 16 rfl (fun _ hq => dk (v := onV) rfl eB (At.cell (hq.at K) rfl)) hS <| Tk 17 rfl (fun _ hq => dB (v := onV) rfl (hq.slT (Below.slT J hon)) d5) hS <| Tk 18 rfl (fun _ _ => jP (m := 1) rfl rfl Om (by simp only [IntKind.bits]; omega) (by exact rP _ _ (by simp only [l7]; omega))) hS <| Tk 19 rfl (fun _ _ => nU rfl rfl) hS <| Ty 20 rfl rfl hS <| Td <| ZQ rfl (fun h => ?_) fun h => ?_
 refine Zr <| Zw (.bool false) rfl <| cT <| Zt <| dE (v := .bool false) rfl ⟨hB, ?_⟩
 exact HI (k := k) Om (Rj h)
 refine c9 <| C _ _ <| cY <| Zv (dp rfl rfl Om Om) <| Zi rfl <| cT ?_
 exact z _ _ (k + 1) Za ⟨rfl, trivial⟩ ⟨hB, a, Om, (eh hq (QQ (x := (l.getD k ⟨⟨0, 0⟩, 0⟩)) f g h)), trivial⟩ Zo
 refine dt <| y _ _ <| Zr <| Zw (.bool true) rfl <| cT <| Zt <| dE (v := .bool true) rfl ⟨hB, ?_⟩
 obtain rfl : k = l.length := by omega
 exact tV (kP.2 hq)
theorem xZ (xa : Value) (l : List Rw) (n out : Int) (w : World) (hl : dO fI 3 w xa l) (hlb : l.length ≤ 2000000) (hlr : gH l) :
    Fn Tryz.prog 90 #[xa, .int .i64 n, .int .i64 out] w fun v w' => v = if xP l n out = true then .tuple #[eP (m5 l n.toNat out.toNat l.length), .int .i64 0] else .tuple #[eP 0, .int .i64 1] := by
 refine dr (n := 56) Tryz.func90 rfl rfl (Nat.le_of_ble_eq_true rfl) ?_
 have hB : Below w.heap.size w w := Below.refl _ _
 refine Zr <| Zy (dw eR rfl fun E W3 y N a => ?_)
 have g := ZO y hB
 clear y
 replace hB := Ze hB N
 replace a : At W3 E #[wv 0 0, wv 0 1, wv 0 2, wv 0 3] 49 := a
 refine Zw (.int .i64 0) rfl <| cT <| cZ fun K6 O => Zr <| Zi rfl <| Zv (dN rfl rfl) <| ZX rfl (fun P => ?_) fun P => ?_
 refine Zs <| Zs <| Zw (.bool true) rfl <| Zw (.bool true) rfl <| Zs <| Zs <| Zw (.bool true) rfl <| Zw (.bool true) rfl <| Zs <| Zs <| Zw (.bool true) rfl <| cT <| dA rfl <| Zr ?_
 refine Zv (v := eP 0) (gK ) <| Zy (dg rfl rfl df rfl a rfl rfl fun az Q R => ?_)
 replace hB := Zg hB Q g
 replace a := R
 refine Zw (.int .i64 1) rfl <| cT <| Zt <| fx rfl df a rfl (v1 := .int .i64 1) rfl ⟨hB, ?_⟩
 rw [if_neg (uE (by omega))]
 refine Zi rfl <| Zv (jp rfl rfl) <| Zb rfl <| ZX rfl (fun S => ?_) fun S => ?_
 refine Zs <| Zs <| Zw (.bool true) rfl <| Zw (.bool true) rfl <| Zs <| Zs <| Zw (.bool true) rfl <| cT <| dA rfl <| Zr <| Zv (v := eP 0) (gK ) <| Zy (dg rfl rfl df rfl a rfl rfl fun aA T U => ?_)
 replace hB := Zg hB T g
 replace a := U
 refine Zw (.int .i64 1) rfl <| cT <| Zt <| fx rfl df a rfl (v1 := .int .i64 1) rfl ⟨hB, ?_⟩
 rw [if_neg (uE (by omega))]
 refine Zi rfl <| Zv (dN rfl rfl) <| Zb rfl <| ZX rfl (fun V => ?_) fun V => ?_
 refine Zs <| Zs <| Zw (.bool true) rfl <| cT <| dA rfl <| Zr <| Zv (v := eP 0) (gK ) <| Zy (dg rfl rfl df rfl a rfl rfl fun aB X Y => ?_)
 replace hB := Zg hB X g
 replace a := Y
 refine Zw (.int .i64 1) rfl <| cT <| Zt <| fx rfl df a rfl (v1 := .int .i64 1) rfl ⟨hB, ?_⟩
 rw [if_neg (uE (by omega))]
 refine Zi rfl <| Zv (nU rfl rfl) <| Zb rfl <| cT <| ZQ rfl (fun Z => ?_) fun Z => ?_
 refine Zr <| Zv (v := eP 0) (gK ) <| Zy (dg rfl rfl df rfl a rfl rfl fun aC aa ab => ?_)
 replace hB := Zg hB aa g
 replace a := ab
 refine Zw (.int .i64 1) rfl <| cT <| Zt <| fx rfl df a rfl (v1 := .int .i64 1) rfl ⟨hB, ?_⟩
 rw [if_neg (uE (by omega))]
 refine c9 <| O _ _ <| Zr <| Zy (dw eR rfl fun F ac z G b => ?_)
 have ad := ZO z hB
 have A := Zn z a.lt
 clear z
 replace hB := Ze hB G
 replace a := G.at a
 replace b : At ac F #[wv 0 0, wv 0 1, wv 0 2, wv 0 3] 49 := b
 refine cT <| cZ fun aD ae => Zr <| Zw xa rfl <| Zv (dB (v := xa) rfl (Below.slT hB hl) dR) <| Zw (.int .i64 0) rfl <| cT <| c7 ?_
 refine dz (σ := (Nat)) [7, 10, 11, 12, 30, 31, 32, 33, 34, 35, 36, 37, 38, 39, 40, 41, 42, 43, 44, 45, 46, 47, 48, 49, 50, 51, 52, 53, 54] (fun k => [(30, .int .i64 (k : Int))]) (fun k W => (Below w.heap.size w W) ∧ (At W E _ 49) ∧ (At W F #[wv (m5 l n.toNat out.toNat k) 0, wv (m5 l n.toNat out.toNat k) 1, wv (m5 l n.toNat out.toNat k) 2, wv (m5 l n.toNat out.toNat k) 3] 49) ∧ (k ≤ l.length) ∧ (∀ q, q < k → dZ (l.getD q ⟨⟨0, 0⟩, 0⟩).c.m (l.getD q ⟨⟨0, 0⟩, 0⟩).c.v n = true) ∧ (True)) (fun k => l.length - k) (0) ⟨rfl, trivial⟩ ⟨hB, a, b, (Nat.zero_le _), eY, trivial⟩ ?_
 clear hB a b
 rintro k aE aF ⟨hB, a, b, hk, hq, _⟩ aG H
 refine Zr <| Zv (dN rfl rfl) <| cT <| cZ fun aH af => ZQ rfl (fun ag => ?_) fun ag => ?_
 refine c9 <| af _ _ <| cZ fun aI I => c7 ?_
 obtain ⟨ah, ai, aJ⟩ := hlr.get (k := k) (by omega)
 have y : (l.getD k ⟨⟨0, 0⟩, 0⟩).o / 2 ^ out.toNat ≤ (l.getD k ⟨⟨0, 0⟩, 0⟩).o := Nat.div_le_self _ _
 refine Zr <| Zv (dI (v := xa) rfl (Below.slT hB hl) rfl dR Om Ol31_0) <| Zv (kU rfl eq (dO.cell (Below.slT hB hl) eg ⟨⟨0, 0⟩, 0⟩ Om Ol31_0 0 rfl) (dO.cell (Below.slT hB hl) eg ⟨⟨0, 0⟩, 0⟩ Om Ol31_0 1 rfl) (dO.cell (Below.slT hB hl) eg ⟨⟨0, 0⟩, 0⟩ Om Ol31_0 2 rfl)) <| Zy (dw kL rfl fun aK aL J B d => ?_)
 have aj := ZO J hB
 clear J
 replace hB := Ze hB B
 replace a := B.at a
 replace b := B.at b
 refine Zy (dg rfl rfl eq rfl d rfl rfl fun aM C ak => ?_)
 replace hB := Zg hB C aj
 replace a := At.grownAt a d C Dd
 replace b := At.grownAt b d C Dd
 replace d := ak
 refine cT <| Zr <| Zf rfl gz <| Zv (g7 rfl dP (At.cell d rfl) (At.cell d rfl)) <| Zi rfl <| ZC (vs := [.agg #[_, _], .int .i64 _]) Ai (lu _ _ _ _ ah ai) rfl fun aN aO p al => ?_
 replace hB := Ze hB p
 replace a := p.at a
 replace b := p.at b
 replace d := p.at d
 obtain ⟨sa, er, rfl, hhP7_3⟩ := tK al
 refine Zw (.tuple #[.agg #[_, _, _, _], .int .i64 _]) rfl <| Zv (dK rfl) <| Zv (dM rfl) <| Zy (dw eR rfl fun ao ap r s f => ?_)
 have aq := ZO r hB
 have K := Zn r a.lt
 have L := Zn r b.lt
 clear r
 replace hB := Ze hB s
 replace a := s.at a
 replace b := s.at b
 replace d := s.at d
 replace f : At ap ao #[wv 0 0, wv 0 1, wv 0 2, wv 0 3] 49 := f
 refine Zy (dg rfl rfl df rfl f rfl rfl fun aP t ar => ?_)
 replace hB := Zg hB t aq
 replace a := At.grownNe a K t
 replace b := At.grownNe b L t
 replace d := At.grownAt d f t Dd
 replace f := ar
 refine Zi rfl <| cT <| cZ fun aQ au => Zr <| Zi rfl <| Zv (gq rfl rfl) <| cT <| ZQ rfl (fun D => ?_) fun D => ?_
 refine Zr <| Zv (v := eP 0) (gK ) <| Zi rfl <| Zy (dg rfl rfl df rfl a rfl rfl fun aR u av => ?_)
 replace hB := Zg hB u g
 replace b := At.grownNe b (Ne.symm A) u
 replace d := At.grownAt d a u Dd
 replace f := At.grownNe f (Ne.symm K) u
 replace a := av
 refine Zi rfl <| cT <| Zt <| fx rfl df a rfl (v1 := .int .i64 _) rfl ⟨hB, ?_⟩
 obtain ⟨hrr, her⟩ := hhP7_3.resolve_left (fun h => D h.2.2)
 rw [if_neg (Ph (k := k) (by omega) hrr), her]
 refine c9 <| au _ _ ?_
 obtain ⟨hrr, hsa, _⟩ := hhP7_3.resolve_right (fun h => D (fun e => by rw [h.2] at e; cases e))
 subst hsa
 refine Zr <| Zf rfl fM <| Zl rfl ek d rfl <| Zi rfl <| Zv (sR rfl rfl Om (by simp only [IntKind.bits]; omega)) <| Zv (nZ (n := 1) rfl rfl rfl (by show (l.getD k ⟨⟨0, 0⟩, 0⟩).o / 2 ^ out.toNat < 256; omega) Dd) <| Zv (eD rfl rfl) <| cT <| ZQ rfl (fun i => ?_) fun i => ?_
 refine cY <| Zv (db rfl df rfl b) <| Zv (db rfl df rfl f) <| ZC (vs := [.agg #[_, _, _, _], .agg #[_, _, _, _]]) r8 (sy _ _ _) rfl fun aS aT j aw => ?_
 replace hB := Ze hB j
 replace a := j.at a
 replace b := j.at b
 replace d := j.at d
 replace f := j.at f
 obtain rfl := aw
 refine Zy (dg rfl rfl df rfl b rfl rfl fun aU x ax => ?_)
 replace hB := Zg hB x ad
 replace a := At.grownNe a A x
 replace d := At.grownAt d b x Dd
 replace f := At.grownNe f (Ne.symm L) x
 replace b := ax
 refine cT <| I _ _ <| cY <| Zv (dp rfl rfl Om Om) <| Zi rfl <| cT ?_
 exact H _ _ (k + 1) Za ⟨rfl, trivial⟩ ⟨hB, a, (by first | (rw [← Ks (l := l) (k := k) (Cs i)]; exact b) | (rw [← IU (l := l) (k := k) (CL i)]; exact b)), Om, (eh hq hrr), trivial⟩ Zo
 refine c9 <| I _ _ <| cY <| Zv (dp rfl rfl Om Om) <| Zi rfl <| cT ?_
 exact H _ _ (k + 1) Za ⟨rfl, trivial⟩ ⟨hB, a, (by first | (rw [← Ks (l := l) (k := k) (Cs i)]; exact b) | (rw [← IU (l := l) (k := k) (CL i)]; exact b)), Om, (eh hq hrr), trivial⟩ Zo
 refine dt <| ae _ _ <| Zr <| Zv (db rfl df rfl b) <| Zy (dg rfl rfl df rfl a rfl rfl fun aV M ay => ?_)
 replace hB := Zg hB M g
 replace b := At.grownNe b (Ne.symm A) M
 replace a := ay
 refine Zw (.int .i64 0) rfl <| cT <| Zt <| fx rfl df a rfl (v1 := .int .i64 0) rfl ⟨hB, ?_⟩
 obtain rfl : k = l.length := by omega
 rw [if_pos (sF.2 ⟨by omega, hq⟩)]
theorem q7 (S : Sp) (onV mayV : Value) (xa : Value) (l : List Rw) (w : World) (hon : dO fQ 4 w onV S.on) (hmay : dO fQ 4 w mayV S.may) (hl : dO fI 3 w xa l) (hlb : l.length ≤ 2000000) (hlr : gH l) (h4 : S.on.length ≤ 20) :
    Fn Tryz.prog 48 #[.agg #[.int .i64 S.n, onV, mayV], xa] w fun v w' => v = .bool (jy S l) := by
 refine dr (n := 49) Tryz.func48 rfl rfl (Nat.le_of_ble_eq_true rfl) ?_
 have hB : Below w.heap.size w w := Below.refl _ _
 refine Zr <| Zy (dW (c := #[_, _, _]) rfl rfl fun E W3 y F a => ?_)
 have af := ZO y hB
 clear y
 replace hB := Ze hB F
 refine Zw (.bool false) rfl <| cT <| cZ fun K6 G => Zr <| Zv (db rfl eJ rfl a) <| ZC (vs := [.agg #[_, _, _]]) pQ (im S _ _  _ (Below.slT hB hon) (Below.slT hB hmay) ) rfl fun ag ah z H => ?_
 replace hB := Ze hB z
 replace a := z.at a
 obtain rfl := H
 refine Zv (fG rfl) <| ZX rfl (fun j => ?_) fun j => ?_
 refine Zs <| Zs <| Zs <| Zs <| Zw (.bool true) rfl <| cT <| dA rfl <| Zr <| Zw (.bool false) rfl <| cT <| Zt <| dE (v := .bool false) rfl ⟨hB, ?_⟩
 exact OE (iI j)
 refine Zv (db rfl eJ rfl a) <| Zw xa rfl <| ZC (vs := [.agg #[_, _, _], xa]) P6 (DV S _ _ _ l _ (Below.slT hB hon) (Below.slT hB hmay) (Below.slT hB hl) hlb hlr h4) rfl fun ai aj A I => ?_
 replace hB := Ze hB A
 replace a := A.at a
 obtain rfl := I
 refine Zv (fG rfl) <| Zb rfl <| cT <| ZQ rfl (fun m => ?_) fun m => ?_
 refine Zr <| Zw (.bool false) rfl <| cT <| Zt <| dE (v := .bool false) rfl ⟨hB, ?_⟩
 exact Ox (iI m)
 refine c9 <| G _ _ <| cZ fun ak J => ?_
 have hr : dL S = true := ig j
 have hm : oX S l = true := ig m
 obtain ⟨h0, h8, h1, h5, h6, _⟩ := dX.1 hr
 refine Zr <| Zf rfl fE <| ZL onV rfl eB a rfl <| Zv (dB (v := onV) rfl (Below.slT hB hon) d5) <| Zw (.int .i64 0) rfl <| cT <| c7 ?_
 refine dz (σ := (Nat)) [4, 5, 6, 7, 8, 21, 22, 23, 24, 25, 26, 27, 28, 29, 30, 31, 32, 33, 34, 35, 36, 37, 38, 39, 40, 41, 42, 43, 44, 45, 46, 47, 48] (fun k => [(21, .int .i64 (k : Int))]) (fun k W => (Below w.heap.size w W) ∧ (At W E _ 24) ∧ (k ≤ S.on.length) ∧ (∀ q, q < k → xR S l q = true) ∧ (True)) (fun k => S.on.length - k) (0) ⟨rfl, trivial⟩ ⟨hB, a, (Nat.zero_le _), eY, trivial⟩ ?_
 clear hB a
 rintro k al ao ⟨hB, a, hk, hq, _⟩ ap K
 refine Zr <| Zv (dN rfl rfl) <| cT <| cZ fun aq L => ZQ rfl (fun M => ?_) fun M => ?_
 refine c9 <| L _ _ <| cZ fun ar N => c7 <| Zr <| Zi rfl <| Zv (dI (v := onV) rfl (Below.slT hB hon) rfl d5 Om Ol31_0) <| Zv (fo rfl df (dO.cell (Below.slT hB hon) dF 0 Om Ol31_0 0 rfl) (dO.cell (Below.slT hB hon) dF 0 Om Ol31_0 1 rfl) (dO.cell (Below.slT hB hon) dF 0 Om Ol31_0 2 rfl) (dO.cell (Below.slT hB hon) dF 0 Om Ol31_0 3 rfl)) <| Zy (dw eR rfl fun O P B C b => ?_)
 have Q := ZO B hB
 clear B
 replace hB := Ze hB C
 replace a := C.at a
 replace b : At P O #[wv 0 0, wv 0 1, wv 0 2, wv 0 3] 49 := b
 refine Zi rfl <| Zy (dg rfl rfl df rfl b rfl rfl fun au D R => ?_)
 replace hB := Zg hB D Q
 replace a := At.grownAt a b D Dd
 replace b := R
 refine cT <| Zr <| Zw xa rfl <| Zf rfl fD <| Zl rfl dC a rfl <| Zi rfl <| ZC OD (xZ _ l S.n (k : Int) _ (Below.slT hB hl) hlb hlr) rfl fun av aw p T => ?_
 replace hB := Ze hB p
 replace a := p.at a
 replace b := p.at b
 obtain ⟨sa, er, rfl, hhP6_4⟩ := M4 T
 refine Zw (.tuple #[.agg #[_, _, _, _], .int .i64 _]) rfl <| Zv (dK rfl) <| Zv (dM rfl) <| Zy (dw eR rfl fun U V r s d => ?_)
 have X := ZO r hB
 have Y := Zn r b.lt
 clear r
 replace hB := Ze hB s
 replace a := s.at a
 replace b := s.at b
 replace d : At V U #[wv 0 0, wv 0 1, wv 0 2, wv 0 3] 49 := d
 refine Zy (dg rfl rfl df rfl d rfl rfl fun ax t Z => ?_)
 replace hB := Zg hB t X
 replace a := At.grownAt a d t Dd
 replace b := At.grownNe b Y t
 replace d := Z
 refine Zi rfl <| cT ?_
 obtain ⟨_, hsa, _⟩ := hhP6_4.resolve_right (fun h => by have h2 := LM (l := l) hr hm (show k < S.on.length by omega); rw [h.1] at h2; cases h2)
 rw [Int.toNat_natCast] at hsa
 subst hsa
 refine Zd d9 fun aa i => ?_
 replace hB := Ze hB i
 replace a := i.at a
 replace b := i.at b
 replace d := i.at d
 have hS := d9.refl aa
 refine Tk 0 rfl (fun _ hq => db rfl df rfl (hq.at b)) hS <| Tk 1 rfl (fun _ hq => db rfl df rfl (hq.at d)) hS <| To 2 rfl (TC (vs := [.agg #[_, _, _, _], .agg #[_, _, _, _]]) qt (il _ _ _) rfl fun ay az e ab => ⟨.inl (hS.trans e), ?_⟩)
 have g := hB
 have ac := a
 have ad := d
 replace hB := Ze hB e
 replace a := e.at a
 replace b := e.at b
 replace d := e.at d
 replace hS := hS.trans e
 obtain rfl := ab
 refine Tk 3 rfl (fun _ _ => fG rfl) hS <| Tx 4 rfl (fun _ _ => iY (v := .bool _) rfl) hS (fun u => ?_) fun u => ?_
 refine Tp 5 rfl hS <| Tp 6 rfl hS <| Tp 7 rfl hS <| Tp 8 rfl hS <| Tp 9 rfl hS <| Tp 10 rfl hS <| Tp 11 rfl hS <| Tp 12 rfl hS <| Tw 13 (.bool true) rfl rfl hS <| Td <| dA rfl <| Zr <| Zw (.bool false) rfl <| cT ?_
 refine Zt <| dE (v := .bool false) rfl ⟨hB, ?_⟩
 exact P7 (o := k) Om (iI u)
 refine Tk 5 rfl (fun _ hq => db rfl df rfl (hq.at ad)) hS <| Tf 6 rfl rfl fO hS <| Tk 7 rfl (fun _ hq => dk (v := mayV) rfl eB (At.cell (hq.at ac) rfl)) hS <| Ti 8 rfl rfl hS <| Tk 9 rfl (fun _ hq => dI (v := mayV) rfl (hq.slT (Below.slT g hmay)) rfl d5 Om Ol31_0) hS <| Tk 10 rfl (fun _ hq => fo rfl df (dO.cell (hq.slT (Below.slT g hmay)) dF 0 Om Ol31_0 0 rfl) (dO.cell (hq.slT (Below.slT g hmay)) dF 0 Om Ol31_0 1 rfl) (dO.cell (hq.slT (Below.slT g hmay)) dF 0 Om Ol31_0 2 rfl) (dO.cell (hq.slT (Below.slT g hmay)) dF 0 Om Ol31_0 3 rfl)) hS <| To 11 rfl (TC (vs := [.agg #[_, _, _, _], .agg #[_, _, _, _]]) qt (il _ _ _) rfl fun aA aB f ae => ⟨.inl (hS.trans f), ?_⟩)
 replace hB := Ze hB f
 replace a := f.at a
 replace b := f.at b
 replace d := f.at d
 replace hS := hS.trans f
 obtain rfl := ae
 refine Tk 12 rfl (fun _ _ => fG rfl) hS <| Ty 13 rfl rfl hS <| Td <| ZQ rfl (fun x => ?_) fun x => ?_
 refine Zr <| Zw (.bool false) rfl <| cT <| Zt <| dE (v := .bool false) rfl ⟨hB, ?_⟩
 exact P2 (o := k) Om (iI x)
 refine c9 <| N _ _ <| cY <| Zv (dp rfl rfl Om Om) <| Zi rfl <| cT ?_
 exact K _ _ (k + 1) Za ⟨rfl, trivial⟩ ⟨hB, a, Om, (eh hq (HY (ig u) (ig x))), trivial⟩ Zo
 refine dt <| J _ _ <| Zr <| Zw (.bool true) rfl <| cT <| Zt <| dE (v := .bool true) rfl ⟨hB, ?_⟩
 obtain rfl : k = S.on.length := by omega
 exact tV (gY.2 ⟨hr, hm, hq⟩)
theorem pt (n : Int) (w : World) (h0 : 0 ≤ n) (h1 : n ≤ 8) :
    Fn Tryz.prog 28 #[.int .i64 n] w fun v w' => v = .int .i64 ((2 ^ n.toNat : Nat) : Int) := by
 refine dr (n := 8) Tryz.func28 rfl rfl (Nat.le_of_ble_eq_true rfl) ?_
 have hB : Below w.heap.size w w := Below.refl _ _
 refine Zr <| Zw (.int .i64 0) rfl <| cT <| Zr <| Zi rfl <| ZC DH (jI _ _ (by first | assumption | omega) (by first | assumption | omega)) rfl fun e W5 f a => ?_
 have g := (Below.size hB)
 replace hB := Ze hB f
 replace a := dh.mono a g
 refine ZC (vs := [e]) Du (jE _ _ _ a.sl (cX _)) rfl fun k W8 c h => ?_
 replace hB := Ze hB c
 replace a := c.ow a
 obtain rfl := h
 refine ZC (vs := [.agg #[_, _, _, _]]) Qr (px _ _) rfl fun i l d b => ?_
 have j := (Below.size hB)
 replace hB := Ze hB d
 replace a := d.ow a
 replace b := dh.mono b j
 refine Zv (dB (v := i) rfl b.sl dy) <| Zi rfl <| cT <| Zt <| dE (v := .int .i64 _) rfl ⟨hB, ?_⟩
 rw [JA n.toNat (by omega)]
theorem nS (xa : Value) (l : List Rw) (p o : Nat) (w : World) (hl : dO fI 3 w xa l) (hlb : l.length ≤ 2000000) (hlr : gH l) (hp : p < 256) (ho : o < 8) :
    Fn Tryz.prog 29 #[xa, .int .i64 (p : Int), .int .i64 (o : Int)] w fun v w' => v = .bool (AE l p o) := by
 refine dr (n := 30) Tryz.func29 rfl rfl (Nat.le_of_ble_eq_true rfl) ?_
 have hB : Below w.heap.size w w := Below.refl _ _
 refine Zr <| Zw (.bool false) rfl <| cT <| cZ fun K3 f => Zr <| Zw (.int .i64 0) rfl <| cT <| c7 ?_
 refine dz (σ := (Nat)) [6, 7, 8, 9, 10, 11, 12, 13, 14, 15, 16, 17, 18, 19, 20, 21, 22, 23, 24, 25, 26, 27, 28, 29] (fun k => [(7, .int .i64 (k : Int))]) (fun k W => (Below w.heap.size w W) ∧ (k ≤ l.length) ∧ (∀ q, q < k → ((l.getD q ⟨⟨0, 0⟩, 0⟩).o.testBit o && mI (l.getD q ⟨⟨0, 0⟩, 0⟩).c.m (l.getD q ⟨⟨0, 0⟩, 0⟩).c.v p) = false) ∧ (True)) (fun k => l.length - k) (0) ⟨rfl, trivial⟩ ⟨hB, (Nat.zero_le _), eY, trivial⟩ ?_
 clear hB
 rintro k g8 W7 ⟨hB, hk, hq, _⟩ J9 d
 refine cZ fun y g => Zr <| Zi rfl <| Zw xa rfl <| Zv (dB (v := xa) rfl (Below.slT hB hl) dR) <| Zv (dN rfl rfl) <| cT <| ZQ rfl (fun h => ?_) fun h => ?_
 refine c9 <| g _ _ <| cZ fun z e => c7 ?_
 obtain ⟨i, j, r⟩ := hlr.get (k := k) (by omega)
 refine Zr <| Zw xa rfl <| Zi rfl <| Zv (dI (v := xa) rfl (Below.slT hB hl) rfl dR Om Ol31_0) <| Zf rfl fM <| Zv (dk (v := .int .u8 _) rfl ek (dO.cell (Below.slT hB hl) eg ⟨⟨0, 0⟩, 0⟩ Om Ol31_0 2 rfl)) <| Zi rfl <| ZC DO (jD _ _ _ r ho) rfl fun A B s t => ?_
 replace hB := Ze hB s
 obtain rfl := t
 refine ZX rfl (fun a => ?_) fun a => ?_
 refine Zw xa rfl <| Zi rfl <| Zv (dI (v := xa) rfl (Below.slT hB hl) rfl dR Om Ol31_0) <| Zf rfl gz <| Zv (g7 rfl dP (dO.cell (Below.slT hB hl) eg ⟨⟨0, 0⟩, 0⟩ Om Ol31_0 0 rfl) (dO.cell (Below.slT hB hl) eg ⟨⟨0, 0⟩, 0⟩ Om Ol31_0 1 rfl)) <| Zi rfl <| ZC (vs := [.agg #[_, _], .int .i64 _]) HA (lH _ _ p _ i j hp) rfl fun C D u x => ?_
 replace hB := Ze hB u
 obtain rfl := x
 refine Zb rfl <| cT <| ZQ rfl (fun b => ?_) fun b => ?_
 refine Zr <| Zw (.bool true) rfl <| cT <| Zt <| dE (v := .bool true) rfl ⟨hB, ?_⟩
 exact RJ (k := k) Om a b
 refine c9 <| e _ _ <| cY <| Zi rfl <| Zv (dp rfl rfl Om Om) <| Zi rfl <| cT ?_
 exact d _ _ (k + 1) Za ⟨rfl, trivial⟩ ⟨hB, Om, (eh hq (by first | exact KP a | exact KC b)), trivial⟩ Zo
 refine Zs <| Zs <| Zs <| Zs <| Zs <| Zs <| Zs <| Zw (.bool false) rfl <| cT <| d4 rfl <| c9 <| e _ _ <| cY <| Zi rfl ?_
 refine Zv (dp rfl rfl Om Om) <| Zi rfl <| cT ?_
 exact d _ _ (k + 1) Za ⟨rfl, trivial⟩ ⟨hB, Om, (eh hq (by first | exact KP a | exact KC b)), trivial⟩ Zo
 refine dt <| f _ _ <| Zr <| Zw (.bool false) rfl <| cT <| Zt <| dE (v := .bool false) rfl ⟨hB, ?_⟩
 exact RV Om hq
theorem oE (S : Sp) (onV mayV : Value) (xa : Value) (l : List Rw) (w : World) (hon : dO fQ 4 w onV S.on) (hmay : dO fQ 4 w mayV S.may) (hl : dO fI 3 w xa l) (hlb : l.length ≤ 2000000) (hlr : gH l) (hr : dL S = true) :
    Fn Tryz.prog 12 #[.agg #[.int .i64 S.n, onV, mayV], xa] w fun v w' => v = .bool (jy S l) := by
 refine dr (n := 76) Tryz.func12 rfl rfl (Nat.le_of_ble_eq_true rfl) ?_
 have hB : Below w.heap.size w w := Below.refl _ _
 obtain ⟨h0, h8, h1, h5, h6, _⟩ := dX.1 hr
 have h256 := eT h8
 refine Zr <| Zy (dW (c := #[_, _, _]) rfl rfl fun C W3 E H a => ?_)
 have ah := ZO E hB
 clear E
 replace hB := Ze hB H
 refine Zw (.bool false) rfl <| cT <| cZ fun K6 I => Zr <| Zw (.int .i64 0) rfl <| cT <| c7 ?_
 refine dz (σ := (Nat)) [4, 5, 11, 12, 13, 14, 15, 16, 17, 18, 19, 20, 21, 22, 23, 24, 25, 26, 27] (fun k => [(5, .int .i64 (k : Int))]) (fun k W => (Below w.heap.size w W) ∧ (At W C _ 24) ∧ (k ≤ l.length) ∧ (∀ q, q < k → EW S (l.getD q ⟨⟨0, 0⟩, 0⟩) = true) ∧ (True)) (fun k => l.length - k) (0) ⟨rfl, trivial⟩ ⟨hB, a, (Nat.zero_le _), eY, trivial⟩ ?_
 clear hB a
 rintro k ai aj ⟨hB, a, hk, hq, _⟩ ak J
 refine cZ fun al K => Zr <| Zi rfl <| Zw xa rfl <| Zv (dB (v := xa) rfl (Below.slT hB hl) dR) <| Zv (dN rfl rfl) <| cT <| ZQ rfl (fun L => ?_) fun L => ?_
 refine c9 <| K _ _ <| cZ fun ao M => c7 ?_
 obtain ⟨N, O, P⟩ := hlr.get (k := k) (by omega)
 refine Zd d9 fun Q F => ?_
 replace hB := Ze hB F
 replace a := F.at a
 have hS := d9.refl Q
 refine Tw 0 xa rfl rfl hS <| Ti 1 rfl rfl hS <| Tk 2 rfl (fun _ hq => dI (v := xa) rfl (hq.slT (Below.slT hB hl)) rfl dR Om Ol31_0) hS <| Tk 3 rfl (fun _ hq => kU rfl eq (dO.cell (hq.slT (Below.slT hB hl)) eg ⟨⟨0, 0⟩, 0⟩ Om Ol31_0 0 rfl) (dO.cell (hq.slT (Below.slT hB hl)) eg ⟨⟨0, 0⟩, 0⟩ Om Ol31_0 1 rfl) (dO.cell (hq.slT (Below.slT hB hl)) eg ⟨⟨0, 0⟩, 0⟩ Om Ol31_0 2 rfl)) hS <| Tf 4 rfl rfl fD hS <| Tk 5 rfl (fun _ hq => dk (v := .int .i64 _) rfl dC (At.cell (hq.at a) rfl)) hS <| Tf 6 rfl rfl fE hS <| Tk 7 rfl (fun _ hq => dk (v := onV) rfl eB (At.cell (hq.at a) rfl)) hS <| Tk 8 rfl (fun _ hq => dB (v := onV) rfl (hq.slT (Below.slT hB hon)) d5) hS <| To 9 rfl (TC (vs := [.agg #[_, _, _], .int .i64 _, .int .i64 _]) Ie (lF _ _ _ S.on.length _ _ N O P) rfl fun ap aq t R => ⟨.inl (hS.trans t), ?_⟩)
 replace hB := Ze hB t
 replace a := t.at a
 replace hS := hS.trans t
 obtain rfl := R
 refine Tk 10 rfl (fun _ _ => fG rfl) hS <| Td <| ZQ rfl (fun D => ?_) fun D => ?_
 refine Zr <| Zw (.bool false) rfl <| cT <| Zt <| dE (v := .bool false) rfl ⟨hB, ?_⟩
 exact KZ (k := k) Om (fun h => Bool.noConfusion (h.symm.trans ((FQ (S := S) (x := (l.getD k ⟨⟨0, 0⟩, 0⟩))).symm.trans (iI D))))
 refine c9 <| M _ _ <| cY <| Zi rfl <| Zv (dp rfl rfl Om Om) <| Zi rfl <| cT ?_
 exact J _ _ (k + 1) Za ⟨rfl, trivial⟩ ⟨hB, a, Om, (eh hq ((FQ (S := S) (x := (l.getD k ⟨⟨0, 0⟩, 0⟩))).symm.trans (ig D))), trivial⟩ Zo
 refine dt <| I _ _ <| cZ fun ar T => ?_
 obtain rfl : k = l.length := by omega
 have hm : oX S l = true := kP.2 hq
 refine Zr <| Zw (.int .i64 0) rfl <| cT <| c7 ?_
 refine dz (σ := (Nat)) [4, 6, 7, 8, 9, 10, 28, 29, 30, 31, 32, 33, 34, 35, 36, 37, 38, 39, 40, 41, 42, 43, 44, 45, 46, 47, 48, 49, 50, 51, 52, 53, 54, 55, 56, 57, 58, 59, 60, 61, 62, 63, 64, 65, 66, 67, 68, 69, 70, 71, 72, 73, 74, 75] (fun o => [(6, .int .i64 (o : Int))]) (fun o W => (Below w.heap.size w W) ∧ (At W C _ 24) ∧ (o ≤ S.on.length) ∧ (∀ q, q < o → xR S l q = true) ∧ (True)) (fun o => S.on.length - o) (0) ⟨rfl, trivial⟩ ⟨hB, a, (Nat.zero_le _), eY, trivial⟩ ?_
 clear hB a
 rintro o au av ⟨hB, a, ho, hq2, _⟩ aw U
 refine cZ fun ax V => Zr <| Zi rfl <| Zf rfl fE <| ZL onV rfl eB a rfl <| Zv (dB (v := onV) rfl (Below.slT hB hon) d5) <| Zv (dN rfl rfl) <| cT <| ZQ rfl (fun X => ?_) fun X => ?_
 refine c9 <| V _ _ <| cZ fun ay Y => c7 <| Zd d9 fun Z G => ?_
 replace hB := Ze hB G
 replace a := G.at a
 have hS := d9.refl Z
 refine Tf 0 rfl rfl fE hS <| Tk 1 rfl (fun _ hq => dk (v := onV) rfl eB (At.cell (hq.at a) rfl)) hS <| Ti 2 rfl rfl hS <| Tk 3 rfl (fun _ hq => dI (v := onV) rfl (hq.slT (Below.slT hB hon)) rfl d5 Om Ol31_0) hS <| Tk 4 rfl (fun _ hq => fo rfl df (dO.cell (hq.slT (Below.slT hB hon)) dF 0 Om Ol31_0 0 rfl) (dO.cell (hq.slT (Below.slT hB hon)) dF 0 Om Ol31_0 1 rfl) (dO.cell (hq.slT (Below.slT hB hon)) dF 0 Om Ol31_0 2 rfl) (dO.cell (hq.slT (Below.slT hB hon)) dF 0 Om Ol31_0 3 rfl)) hS <| Tf 6 rfl rfl fO hS <| Tk 7 rfl (fun _ hq => dk (v := mayV) rfl eB (At.cell (hq.at a) rfl)) hS <| Ti 8 rfl rfl hS <| Tk 9 rfl (fun _ hq => dI (v := mayV) rfl (hq.slT (Below.slT hB hmay)) rfl d5 Om Ol31_0) hS <| Tk 10 rfl (fun _ hq => fo rfl df (dO.cell (hq.slT (Below.slT hB hmay)) dF 0 Om Ol31_0 0 rfl) (dO.cell (hq.slT (Below.slT hB hmay)) dF 0 Om Ol31_0 1 rfl) (dO.cell (hq.slT (Below.slT hB hmay)) dF 0 Om Ol31_0 2 rfl) (dO.cell (hq.slT (Below.slT hB hmay)) dF 0 Om Ol31_0 3 rfl)) hS <| To 5 rfl (TC (vs := [.agg #[_, _, _, _]]) vD (gi _ _) rfl fun r az u b => ⟨.inl (hS.trans u), ?_⟩)
 have aa := (Below.size hB)
 replace hB := Ze hB u
 replace a := u.at a
 replace hS := hS.trans u
 replace b := dh.mono b aa
 refine To 11 rfl (TC (vs := [.agg #[_, _, _, _]]) vD (gi _ _) rfl fun g aA s d => ⟨.inl (hS.trans s), ?_⟩)
 have ab := dh.lt2 b
 have ac := (Below.size hB)
 replace hB := Ze hB s
 replace a := s.at a
 replace b := s.ow b
 replace hS := hS.trans s
 have i := eW.new ab d
 replace d := dh.mono d ac
 refine Tw 12 r rfl rfl hS <| Tw 13 g rfl rfl hS <| Td <| Zr <| Zw (.int .i64 0) rfl <| cT <| c7 ?_
 refine dz (σ := (Nat)) [4, 9, 10, 47, 48, 49, 50, 51, 52, 53, 54, 55, 56, 57, 58, 59, 60, 61, 62, 63, 64, 65, 66, 67, 68, 69, 70, 71, 72, 73, 74, 75] (fun p => [(9, .int .i64 (p : Int))]) (fun p W => (Below w.heap.size w W) ∧ (At W C _ 24) ∧ (dh rK 1 4 W w.heap.size r _) ∧ (eW r g) ∧ (dh rK 1 4 W w.heap.size g _) ∧ (p ≤ 2 ^ S.n.toNat) ∧ (∀ q, q < p → ((AO S o).testBit q = true → AE l q o = true) ∧ (AE l q o = true → (iM S o).testBit q = true)) ∧ (True)) (fun p => 2 ^ S.n.toNat - p) (0) ⟨rfl, trivial⟩ ⟨hB, a, b, i, d, (Nat.zero_le _), eY, trivial⟩ ?_
 clear hB a b i d
 rintro p aB aC ⟨hB, a, b, i, d, hp, hq3, _⟩ aD y
 refine cZ fun aE ad => Zr <| Zi rfl <| Zf rfl fD <| Zl rfl dC a rfl <| ZC OK (pt _ _ (by first | assumption | omega) (by first | assumption | omega)) rfl fun aF aG z ae => ?_
 replace hB := Ze hB z
 replace a := z.at a
 replace b := z.ow b
 replace d := z.ow d
 obtain rfl := ae
 refine Zv (dN rfl rfl) <| cT <| ZQ rfl (fun af => ?_) fun af => ?_
 refine c9 <| ad _ _ <| cZ fun aH A => c7 <| Zr <| Zw xa rfl <| Zi rfl <| Zi rfl <| ZC PC (nS _ l p o _ (Below.slT hB hl) hlb hlr Om Om) rfl fun aI aJ B ag => ?_
 replace hB := Ze hB B
 replace a := B.at a
 replace b := B.ow b
 replace d := B.ow d
 obtain rfl := ag
 refine Zb rfl <| cT <| Zr <| Zw r rfl <| Zi rfl <| Zv (dI (v := r) rfl b.sl rfl jq Om Ol31_0) <| Zv (dk (v := .bool _) rfl mZ (dO.cell b.sl jc false Om Ol31_0 0 rfl)) <| ZX rfl (fun j => ?_) fun j => ?_
 refine Zb rfl <| Zv (fG rfl) <| Zb rfl <| ZX rfl (fun m => ?_) fun m => ?_
 refine Zs <| Zs <| Zs <| Zs <| Zs <| Zs <| Zs <| Zs <| Zw (.bool true) rfl <| cT <| dA rfl <| Zr <| Zw (.bool false) rfl <| cT ?_
 refine Zt <| dE (v := .bool false) rfl ⟨hB, ?_⟩
 exact rI hr hm (o := o) (p := p) Om Om (fun h => Bool.noConfusion ((h.1 (JG Om j)).symm.trans (iI m)))
 refine Zb rfl <| ZX rfl (fun e => ?_) fun e => ?_
 refine Zw g rfl <| Zi rfl <| Zv (dI (v := g) rfl d.sl rfl jq Om Ol31_0) <| Zv (dk (v := .bool _) rfl mZ (dO.cell d.sl jc false Om Ol31_0 0 rfl)) <| Zv (fG rfl) <| Zb rfl <| Zb rfl <| cT <| ZQ rfl (fun f => ?_) fun f => ?_
 refine Zr <| Zw (.bool false) rfl <| cT <| Zt <| dE (v := .bool false) rfl ⟨hB, ?_⟩
 exact rI hr hm (o := o) (p := p) Om Om (fun h => Hf Om (iI f) (h.2 e))
 refine c9 <| A _ _ <| cY <| Zi rfl <| Zv (dp rfl rfl Om Om) <| Zi rfl <| cT ?_
 exact y _ _ (p + 1) Za ⟨rfl, trivial⟩ ⟨hB, a, b, i, d, Om, (eh hq3 ⟨fun h1 => by first | exact ig m | exact e | exact absurd h1 (Hf Om j), fun h2 => by first | exact JG Om (ig f) | exact absurd h2 (by rw [e]; decide)⟩), trivial⟩ Zo
 refine Zs <| Zs <| Zs <| Zs <| Zs <| Zw (.bool false) rfl <| Zw (.bool false) rfl <| cT <| d4 rfl <| c9 <| A _ _ <| cY <| Zi rfl <| Zv (dp rfl rfl Om Om) ?_
 refine Zi rfl <| cT ?_
 exact y _ _ (p + 1) Za ⟨rfl, trivial⟩ ⟨hB, a, b, i, d, Om, (eh hq3 ⟨fun h1 => by first | exact ig m | exact e | exact absurd h1 (Hf Om j), fun h2 => by first | exact JG Om (ig f) | exact absurd h2 (by rw [e]; decide)⟩), trivial⟩ Zo
 refine Zs <| Zs <| Zw (.bool false) rfl <| Zw (.bool false) rfl <| Zb rfl <| ZX rfl (fun e => ?_) fun e => ?_
 refine Zw g rfl <| Zi rfl <| Zv (dI (v := g) rfl d.sl rfl jq Om Ol31_0) <| Zv (dk (v := .bool _) rfl mZ (dO.cell d.sl jc false Om Ol31_0 0 rfl)) <| Zv (fG rfl) <| Zb rfl <| Zb rfl <| cT <| ZQ rfl (fun f => ?_) fun f => ?_
 refine Zr <| Zw (.bool false) rfl <| cT <| Zt <| dE (v := .bool false) rfl ⟨hB, ?_⟩
 exact rI hr hm (o := o) (p := p) Om Om (fun h => Hf Om (iI f) (h.2 e))
 refine c9 <| A _ _ <| cY <| Zi rfl <| Zv (dp rfl rfl Om Om) <| Zi rfl <| cT ?_
 exact y _ _ (p + 1) Za ⟨rfl, trivial⟩ ⟨hB, a, b, i, d, Om, (eh hq3 ⟨fun h1 => by first | exact ig m | exact e | exact absurd h1 (Hf Om j), fun h2 => by first | exact JG Om (ig f) | exact absurd h2 (by rw [e]; decide)⟩), trivial⟩ Zo
 refine Zs <| Zs <| Zs <| Zs <| Zs <| Zw (.bool false) rfl <| Zw (.bool false) rfl <| cT <| d4 rfl <| c9 <| A _ _ <| cY <| Zi rfl <| Zv (dp rfl rfl Om Om) ?_
 refine Zi rfl <| cT ?_
 exact y _ _ (p + 1) Za ⟨rfl, trivial⟩ ⟨hB, a, b, i, d, Om, (eh hq3 ⟨fun h1 => by first | exact ig m | exact e | exact absurd h1 (Hf Om j), fun h2 => by first | exact JG Om (ig f) | exact absurd h2 (by rw [e]; decide)⟩), trivial⟩ Zo
 refine dt <| Y _ _ <| cY <| Zi rfl <| Zv (dp rfl rfl Om Om) <| Zi rfl <| cT ?_
 exact U _ _ (o + 1) Za ⟨rfl, trivial⟩ ⟨hB, a, Om, (eh hq2 ((mV hr hm Om).2 (fun q hq => hq3 q Om))), trivial⟩ Zo
 refine dt <| T _ _ <| Zr <| Zw (.bool true) rfl <| cT <| Zt <| dE (v := .bool true) rfl ⟨hB, ?_⟩
 obtain rfl : o = S.on.length := by omega
 exact tV (gY.2 ⟨hr, hm, hq2⟩)
end
section
open Go Go.RowKit
section
variable {P : Program} {f : Nat → Value} {w w' : World} {d : Option Nat} {ty : TypeId} {ps : String} {af : Array Edge} {g : Option (Nat × Bool)} {x y : Operand}
variable {t : TypeId} {v u : Value} {T e : TypeId} {K : Value → World → Prop} {sz by_ N : Nat}
variable {α : Type} {enc : α → List Value} {l : List α}
theorem G7 (he : ∀ a, (enc a).length = sz) {a dd : α} {k r : Nat} (hk : k < l.length) (hr : r < sz) (hu : enc a = (enc (l.getD k dd)).set r u) :
  (l.set k a).flatMap enc = (l.flatMap enc).take (k * sz + r) ++ [u] ++ (l.flatMap enc).drop (k * sz + r + 1) := by
 have hle : k * sz + sz ≤ l.length * sz := by rw [← Nat.succ_mul]; exact Nat.mul_le_mul_right _ hk
 have hfl := kS he l
 have e0 : l.set k (l.getD k dd) = l := by
  rw [List.getD_eq_getElem?_getD, List.getElem?_eq_getElem hk]
  simp
 have e1 := sL he (l.getD k dd) l k hk
 rw [e0] at e1
 rw [sL he a l k hk, hu]
 have hq : (l.flatMap enc).take (k * sz + r) ++ [u] ++ (l.flatMap enc).drop (k * sz + r + 1) = (l.flatMap enc).set (k * sz + r) u := by
  rw [List.set_eq_take_append_cons_drop, if_pos (by omega), List.append_assoc]; rfl
 rw [hq]
 have hA : ((l.flatMap enc).take (k * sz)).length = k * sz := by rw [List.length_take]; omega
 have hB : (enc (l.getD k dd)).length = sz := he _
 generalize hA' : (l.flatMap enc).take (k * sz) = A at *
 generalize hC' : (l.flatMap enc).drop (k * sz + sz) = C at *
 rw [e1, List.append_assoc, List.append_assoc, List.set_append, if_neg (by omega), hA, show k * sz + r - k * sz = r by omega, List.set_append, if_pos (by omega)]
theorem IC {a dd : α} {j : Int} {r : Nat} (hx : dQ f x = .pointer (some ⟨ti v, BW v + j.toNat * sz + r, none⟩)) (hy : dQ f y = u) (hT : fC P t = true) (he : ∀ a, (enc a).length = sz)
  (h1 : u.oneCell' = true) (hr : r < sz) (hu : enc a = (enc (l.getD j.toNat dd)).set r u) (ho : dh enc sz e w N v l) (h0 : 0 ≤ j) (hj : j < l.length)
  (hK : ∀ w', w.grownBy w' v.ownBlock → dh enc sz e w' N v (l.set j.toNat a) → K undef w') : Yd P ⟨d, .store t x y, ty, ps, af, g⟩ f w K := by
 obtain ⟨hl, hor⟩ := ho
 rcases hor with ⟨_, h⟩ | ⟨q, cap, cur, rfl, hg, hh, hnc, hcm, hcs, ht⟩
 ·omega
 have hle : l.length * sz ≤ cap * sz := Nat.mul_le_mul_right _ hnc
 have hjs : j.toNat * sz + sz ≤ l.length * sz := by rw [← Nat.succ_mul]; exact Nat.mul_le_mul_right _ (by omega)
 have hst := run_storeCells_at P q (j.toNat * sz + r) e [u] 0 cur w hh (by simp; omega) (fun v h => by simp at h; subst h; exact h1)
 rw [Nat.add_zero] at hst
 have hw := yV (N := N) (e := e) (o := j.toNat * sz + r) (new := [u]) hl hg hh hnc hcm hcs ht (by simp; omega)
 have hgr : ∀ r, w.grownBy (w.setRow q r) (some q) := fun r => ⟨rfl, rfl, rfl, by simp, fun k _ hk => setRow_other w q k r (fun e => hk (by rw [e]))⟩
 refine .skip (w' := w.setRow q (cur.toList.take (j.toNat * sz + r) ++ [u] ++ cur.toList.drop (j.toNat * sz + r + 1)).toArray) ?_ (hK _ (hgr _) ?_)
 ·have h2 := congrFun (mj hT).2 w
  have hcs1 : u.cells = #[u] := by cases u <;> first | rfl | simp [Value.oneCell'] at h1
  have hcs2 : (storeVar t ⟨q, j.toNat * sz + r, none⟩ u).run P w = .ok () (w.setRow q (cur.toList.take (j.toNat * sz + r) ++ [u] ++ cur.toList.drop (j.toNat * sz + r + 1)).toArray) := by
   simp only [List.length_singleton] at hst
   simp [storeVar, h2, hcs1, hst]
  have hx' : dQ f x = .pointer (some ⟨q, j.toNat * sz + r, none⟩) := by rw [hx]; simp [ti, BW]
  simp [execOp, hx', hy, Instr.storeAt, Instr.sureAddr, hcs2]
 ·unfold dh
  rw [List.length_set, G7 he (by omega) hr hu]
  simpa using hw
theorem Ev {w0 : World} {n : Nat} {xs : List Value} {i : Int} {ki : IntKind} {xi : Operand} (hx : dQ f x = v) (hs : Sl w0 sz v n xs) (hT : fW P t = some (e, sz, by_)) (hi : dQ f xi = .int ki i) (h0 : 0 ≤ i) (h1 : i ≤ n) :
  (execOp (dQ f) ⟨d, .slice t x (some xi) none none, ty, ps, af, g⟩).run P w = .ok (.value (gg sz v i.toNat n (jf v))) w := by
 obtain ⟨hv, hn, _, _⟩ := hs.eqv
 unfold fW at hT
 cases hu : P.underlying t with
 | none => simp [hu] at hT
 | some desc =>
  cases desc <;> simp [hu] at hT
  obtain ⟨i', hi', rfl, rfl, rfl⟩ := hT
  unfold gg
  rw [hv] at hx
  generalize z8 v = A at *
  generalize jf v = C at *
  simp [execOp, hx, hi, Instr.sliceAt, Instr.slice, run_underlying hu, Instr.sliceBounds, Instr.sliceBound, asIntOf, sizeOf, typeInfo, hi', h0, h1]
theorem Dz {w0 : World} {n : Nat} {xs : List Value} {j : Int} {kj : IntKind} {xj : Operand} (hx : dQ f x = v) (hs : Sl w0 sz v n xs) (hT : fW P t = some (e, sz, by_)) (hj : dQ f xj = .int kj j) (h0 : 0 ≤ j) (h1 : j ≤ jf v) :
  (execOp (dQ f) ⟨d, .slice t x none (some xj) none, ty, ps, af, g⟩).run P w = .ok (.value (gg sz v 0 j.toNat (jf v))) w := by
 obtain ⟨hv, hn, _, _⟩ := hs.eqv
 unfold fW at hT
 cases hu : P.underlying t with
 | none => simp [hu] at hT
 | some desc =>
  cases desc <;> simp [hu] at hT
  obtain ⟨i', hi', rfl, rfl, rfl⟩ := hT
  unfold gg
  rw [hv] at hx
  generalize z8 v = A at *
  generalize jf v = C at *
  have hC : j ≤ (C : Int) := h1
  simp [execOp, hx, hj, Instr.sliceAt, Instr.slice, run_underlying hu, Instr.sliceBounds, Instr.sliceBound, asIntOf, sizeOf, typeInfo, hi', h0, hC]
theorem D9 {i j : Nat} (he : ∀ a, (enc a).length = sz) (hone : (l.flatMap enc).all Value.oneCell' = true) (hx : dQ f x = gg sz v 0 i (jf v)) (hy : dQ f y = gg sz v j l.length (jf v)) (hT : fW P t = some (e, sz, by_))
  (ho : dh enc sz e w N v l) (hij : i ≤ j) (hj : j ≤ l.length) (hi : i < l.length)
  (hK : ∀ v' w', w.grownBy w' v.ownBlock → dh enc sz e w' N v' (l.take i ++ l.drop j) → v'.ownBlock = v.ownBlock → K v' w') : Yd P ⟨d, .call ⟨.builtin .append, #[x, y], #[t, t]⟩, ty, ps, af, g⟩ f w K := by
 unfold fW at hT
 cases hun : P.underlying t with
 | none => simp [hun] at hT
 | some desc =>
  cases desc <;> simp [hun] at hT
  rename_i e'
  obtain ⟨i', hi', rfl, h1, rfl⟩ := hT
  subst h1
  have ho0 := ho
  obtain ⟨hl, hor⟩ := ho
  rcases hor with ⟨_, h⟩ | ⟨q, cap, cur, rfl, hg, hh, hnc, hcm, hcs, ht⟩
  ·omega
  have hle : l.length * i'.size ≤ cap * i'.size := Nat.mul_le_mul_right _ hnc
  have hfl := kS he (l.drop j)
  have hft := kS he (l.take i)
  have hll := kS he l
  have hxe : dQ f x = .slice (some ⟨q, 0, none⟩) i cap := by
   rw [hx]
   have hc0 : ¬ cap = 0 := by omega
   simp [gg, z8, jf, hc0, Addr.add]
  obtain ⟨a, hye, hac⟩ : ∃ a : Addr, dQ f y = .slice (some a) (l.length - j) (cap - j) ∧ (j < l.length → a = ⟨q, j * i'.size, none⟩) := by
   rw [hy]
   by_cases e : cap = j
   ·exact ⟨⟨q, 0, none⟩, by simp [gg, z8, jf, e], fun h => by omega⟩
   ·exact ⟨⟨q, j * i'.size, none⟩, by
     show Value.slice (if cap = j then some ⟨q, 0, none⟩ else (some (⟨q, 0, none⟩ : Addr)).map (·.add (j * i'.size))) (l.length - j) (cap - j) = _
     rw [if_neg e, Option.map_some, gV, Nat.zero_add], fun _ => rfl⟩
  have hnews : ∀ k u, ((l.drop j).flatMap enc)[k]? = some u → w.cell? (a.add k) = some u := fun k u hu => by
   have hlt : k < ((l.drop j).flatMap enc).length := (List.getElem?_eq_some_iff.1 hu).1
   have hjl : j < l.length := Classical.byContradiction fun hn => by
    rw [List.drop_eq_nil_of_le (by omega)] at hlt
    simp at hlt
   rw [hac hjl, gV]
   have hs := ho0.sl
   have hc := Sl.cell hs (j * i'.size + k) u (by rw [← List.getElem?_drop, ← qv he]; exact hu)
   simpa [ti, BW] using hc
  have hone2 : ∀ u ∈ (l.drop j).flatMap enc, u.oneCell' = true := fun u hu => by
   rw [qv he] at hu
   exact List.all_eq_true.1 hone u (List.mem_of_mem_drop hu)
  have hmul : (i + (l.length - j)) * i'.size ≤ l.length * i'.size := Nat.mul_le_mul_right _ (by omega)
  rw [Nat.add_mul] at hmul
  have hdl : ((l.drop j).flatMap enc).length = (l.length - j) * i'.size := by rw [hfl, List.length_drop]
  have hr := run_append_room (P := P) w t ty e' i' hun hi' q i cap cur hh a (l.length - j) (cap - j) ((l.drop j).flatMap enc) hdl hnews hone2 (by omega) (by rw [hdl, hcs]; omega)
  refine .val (v := .slice (some ⟨q, 0, none⟩) (i + (l.length - j)) cap) (w' := w.setRow q (cur.toList.take (i * i'.size) ++ (l.drop j).flatMap enc ++ cur.toList.drop (i * i'.size + ((l.drop j).flatMap enc).length)).toArray) ?_
   (hK _ _ ⟨rfl, rfl, rfl, by simp, fun k _ hk => setRow_other w q k _ (fun e => hk (by rw [e]; rfl))⟩ ?_ rfl)
  ·simp [execOp, resolve, invoke, builtin, hxe, hye, hr]
  ·have hlen2 : (l.take i ++ l.drop j).length = i + (l.length - j) := by rw [List.length_append, List.length_take, List.length_drop]; omega
   unfold dh
   rw [hlen2]
   refine ⟨by rw [kS he, hlen2], .inr ⟨q, cap, _, rfl, hg, setRow_heap w q cur _ e' (0, 0) hh, by omega, hcm, by simp only [List.size_toArray, List.length_append, List.length_take, List.length_drop, Array.length_toList, hdl]; omega, ?_⟩⟩
   rw [List.flatMap_append, qN he, ← ht, List.take_take]
   have e1 : min (i * i'.size) (l.length * i'.size) = i * i'.size := Nat.min_eq_left (by omega)
   have e2 : (cur.toList.take (i * i'.size)).length = i * i'.size := by rw [List.length_take, Array.length_toList]; omega
   rw [e1]
   have e3 : (i + (l.length - j)) * i'.size = (cur.toList.take (i * i'.size) ++ (l.drop j).flatMap enc).length := by rw [List.length_append, e2, hdl, Nat.add_mul]
   rw [e3]
   exact List.take_left
end
end
section
open Go Go.RowKit Go.ChangeShapes Go.WideShapes Go.ChangeAt Go.Joins Go.Deep
def encV (v : Value) : List Value := [v]
theorem gj (v : Value) : (encV v).length = 1 := rfl
structure LL (w : World) (vs : List Value) (L : List (List Int)) : Prop where
 len : vs.length = L.length
 get : ∀ k, k < L.length → dO ee 1 w (vs.getD k undef) (L.getD k [])
theorem LL.nil (w : World) : LL w [] [] := ⟨rfl, fun k hk => by cases hk⟩
theorem LL.below {w W : World} {vs : List Value} {L : List (List Int)} (h : Below w.heap.size w W) (k : LL w vs L) : LL W vs L := ⟨k.len, fun i hi => Below.slT h (k.get i hi)⟩
theorem LL.ext {w W : World} {vs : List Value} {L : List (List Int)} (h : d9 w W) (k : LL w vs L) : LL W vs L := ⟨k.len, fun i hi => d9.slT h (k.get i hi)⟩
section
variable {H : Type} {encH : TypeId × Value → H} {P : Program} {w : World} {base : Nat} {held : Bool} {r : Reach} {b0 : Nat} {t e : TypeId}
end
end
section
open Go Go.RowKit
def ox (cols : Int) (l : List Int) : Bool := (List.range l.length).all fun k => decide (0 ≤ l.getD k 0) && (decide (l.getD k 0 < cols) && decide (0 < k → l.getD (k - 1) 0 < l.getD k 0))
theorem je {cols : Int} {l : List Int} : ox cols l = true ↔ ∀ k, k < l.length → 0 ≤ l.getD k 0 ∧ l.getD k 0 < cols ∧ (0 < k → l.getD (k - 1) 0 < l.getD k 0) := by
 unfold ox
 rw [List.all_eq_true]
 constructor
 ·intro h k hk
  have := h k (List.mem_range.2 hk)
  simp only [Bool.and_eq_true, decide_eq_true_eq] at this
  exact ⟨this.1, this.2.1, this.2.2⟩
 ·intro h k hk
  obtain ⟨h1, h2, h3⟩ := h k (List.mem_range.1 hk)
  simp only [Bool.and_eq_true, decide_eq_true_eq]
  exact ⟨h1, h2, h3⟩
def d6 (cols : Int) (L : List (List Int)) : Bool := decide (0 ≤ cols) && (decide (cols ≤ 4000) && L.all (ox cols))
theorem fv {cols : Int} {L : List (List Int)} : d6 cols L = true ↔ 0 ≤ cols ∧ cols ≤ 4000 ∧ ∀ i, i < L.length → ox cols (L.getD i []) = true := by
 unfold d6
 rw [Bool.and_eq_true, Bool.and_eq_true, decide_eq_true_eq, decide_eq_true_eq, List.all_eq_true]
 constructor
 ·rintro ⟨h1, h2, h3⟩; exact ⟨h1, h2, fun i hi => h3 _ (dU hi)⟩
 ·rintro ⟨h1, h2, h3⟩
  refine ⟨h1, h2, fun x hx => ?_⟩
  obtain ⟨k, hk, rfl⟩ := fh (d := []) hx
  exact h3 k hk
def vC (l : List Int) : Nat → Int
 | 0 => -1
 | k + 1 => l.getD k 0
theorem tY (l : List Int) : vC l 0 = -1 := rfl
theorem ug (l : List Int) (k : Nat) : vC l (k + 1) = l.getD k 0 := rfl
theorem NX {cols : Int} {L : List (List Int)} {i k : Nat} (hi : i < L.length) (hk : k < (L.getD i []).length) (hb : ∀ q, q < k → 0 ≤ (L.getD i []).getD q 0) (h : (L.getD i []).getD k 0 ≤ vC (L.getD i []) k ∨ cols ≤ (L.getD i []).getD k 0) : Value.bool false = .bool (d6 cols L) := lW fun hr => by
 obtain ⟨h1, h2, h3⟩ := je.1 ((fv.1 hr).2.2 i hi) k hk
 rcases h with h | h
 ·cases k with
  | zero => rw [tY] at h; omega
  | succ k =>
   have := h3 (by omega)
   rw [ug] at h
   simp only [Nat.add_sub_cancel] at this
   omega
 ·omega
theorem Ln {cols : Int} {l : List Int} {k : Nat} (h : ∀ q, q < k → 0 ≤ l.getD q 0 ∧ l.getD q 0 < cols ∧ (0 < q → l.getD (q - 1) 0 < l.getD q 0)) (h1 : ¬ l.getD k 0 ≤ vC l k) (h2 : ¬ cols ≤ l.getD k 0) :
  ∀ q, q < k + 1 → 0 ≤ l.getD q 0 ∧ l.getD q 0 < cols ∧ (0 < q → l.getD (q - 1) 0 < l.getD q 0) := eh h (by
 cases k with
 | zero => rw [tY] at h1; exact ⟨by omega, by omega, fun h => by omega⟩
 | succ k =>
  have := h k (by omega)
  rw [ug] at h1
  exact ⟨by omega, by omega, fun _ => by simp only [Nat.add_sub_cancel]; omega⟩)
theorem R1 {cols : Int} {L : List (List Int)} (h0 : 0 ≤ cols) (h : ∀ i, i < L.length → ox cols (L.getD i []) = true) : Value.bool (decide (cols ≤ 4000)) = .bool (d6 cols L) := congrArg Value.bool (by
 rw [Bool.eq_iff_iff, fv, decide_eq_true_eq]
 exact ⟨fun hc => ⟨h0, hc, h⟩, fun hc => hc.2.1⟩)
theorem RR {cols : Int} {L : List (List Int)} (h0 : ¬ 0 ≤ cols) : Value.bool false = .bool (d6 cols L) := lW fun h => h0 (fv.1 h).1
def oU (L : List (List Int)) (cols : List Int) : Bool := L.all fun l => l.any fun c => decide (c ∈ cols)
theorem Br {L : List (List Int)} {cols : List Int} : oU L cols = true ↔ ∀ i, i < L.length → ∃ c, c ∈ L.getD i [] ∧ c ∈ cols := by
 unfold oU
 rw [List.all_eq_true]
 constructor
 ·intro h i hi
  have := h _ (dU (d := []) hi)
  rw [List.any_eq_true] at this
  obtain ⟨c, h1, h2⟩ := this
  exact ⟨c, h1, of_decide_eq_true h2⟩
 ·intro h l hl
  obtain ⟨k, hk, rfl⟩ := fh (d := []) hl
  obtain ⟨c, h1, h2⟩ := h k hk
  rw [List.any_eq_true]
  exact ⟨c, h1, decide_eq_true h2⟩
end
section
open Go Go.RowKit
def CS (n : Int) : List Value := [.int .u8 n]
theorem zt {l : List Int} : (l.flatMap CS).all Value.oneCell' = true := uU (fun _ => rfl) l
theorem GU (l : List Int) : l.flatMap CS = l.map (Value.int .u8) := by
 induction l with
 | nil => rfl
 | cons a l ih => simp [List.flatMap_cons, ih, CS]
def mF (l : List UInt8) : Value := .string ⟨l.toArray⟩
theorem Cz (a b : List UInt8) (h : mF a = mF b) : a = b := by
 simpa [mF] using h
theorem CQ (a c : List UInt8) : ((⟨a.toArray⟩ : ByteArray) == ⟨c.toArray⟩) = true ↔ a = c := by
 show (a.toArray == c.toArray) = true ↔ a = c
 simp
def pb (xs : List Int) : List UInt8 := xs.map fun n => UInt8.ofNat n.toNat
theorem wG : ∀ (ns : List Int) (s : ByteArray), ns.foldl (fun r n => r.push (UInt8.ofNat n.toNat)) s = ⟨s.data ++ (pb ns).toArray⟩
 | [], s => by simp [pb]
 | n :: ns, s => by
  rw [List.foldl_cons, wG ns]
  simp [ByteArray.push, pb]
section
variable {P : Program} {f : Nat → Value} {w : World} {d : Option Nat} {ty : TypeId} {ps : String} {af : Array Edge} {g : Option (Nat × Bool)} {x y : Operand} {v : Value}
theorem Eu {src dst e : TypeId} {xs : List Int} (hx : dQ f x = v) (hs : dO CS 1 w v xs) (h1 : P.underlying src = some (.slice e)) (h2 : P.underlying e = some (.int .u8)) (h3 : P.underlying dst = some .string) :
  (execOp (dQ f) ⟨d, .convert src dst x, ty, ps, af, g⟩).run P w = .ok (.value (mF (pb xs))) w := by
 have hsl : Sl w 1 v xs.length (xs.flatMap CS) := hs
 have hc := hsl.cell
 obtain ⟨hv, hn, h0, ha⟩ := hsl.eqv
 cases hA : z8 v with
 | none =>
  have h4 := h0 hA
  have hxs : xs = [] := List.eq_nil_of_length_eq_zero (by omega)
  rw [hA] at hv
  rw [hv] at hx
  subst hxs
  have hr := run_convert_bytes_string w src dst e none 0 (jf v) h1 h2 h3
  rw [show Conv.bytesToString (.slice none 0 (jf v)) = pure (.string .empty) from rfl] at hr
  have hr2 : (convert src dst (.slice none 0 (jf v))).run P w = .ok (.string ⟨#[]⟩) w := hr
  have hx2 : dQ f x = .slice none 0 (jf v) := hx
  simp [execOp, hx2, hr2, mF, pb]
 | some a =>
  rw [hA] at hv
  have hl := _root_.Go.run_loadCells_list (P := P) w a (xs.map (Value.int .u8)) (fun j u hj => by
   have hj' : j < xs.length := by
    have := (List.getElem?_eq_some_iff.1 hj).1
    simpa using this
   rw [ha a hA (by omega), gV]
   exact hc j u (by rw [GU]; exact hj))
  rw [List.length_map] at hl
  have hr := run_convert_bytes_string w src dst e (some a) xs.length (jf v) h1 h2 h3
  rw [run_bytesToString w a xs.length (jf v) xs hl, wG] at hr
  rw [hv] at hx
  simp [execOp, hx, hr, mF]
end
section
variable {w W : World}
theorem Below.ow {α : Type} {enc : α → List Value} {sz : Nat} {T : TypeId} {N : Nat} {v : Value} {l : List α} (h : Go.RowKit.Below w.heap.size w W) (k : dh enc sz T w N v l) : dh enc sz T W N v l :=
 World.ownsRow.kept k (row := none) ⟨h.os, h.tape, h.output, h.size, fun j hj _ => h.block j hj⟩ (by cases v.ownBlock <;> simp)
theorem Below.mapI {α β : Type} {enc : α → Value} {encV : β → Value} {b : Nat} {l : List (α × β)} (h : Go.RowKit.Below w.heap.size w W) (k : dT enc encV w b l) : dT enc encV W b l := k.moved (h.block b k.lt)
end
end
section
open Go Go.RowKit
section
variable {P : Program} {f : Nat → Value} {w : World} {d : Option Nat} {ty : TypeId} {ps : String} {af : Array Edge} {g : Option (Nat × Bool)} {x y : Operand} {t t2 : TypeId} {a : Int}
theorem Qc (hx : dQ f x = .int .i64 a) (hy : dQ f y = .int .u64 8) (h0 : 0 ≤ a) : (execOp (dQ f) ⟨d, .binOp .shr t x y t2, ty, ps, af, g⟩).run P w = .ok (.value (.int .i64 (a / 256))) w := by
 obtain ⟨m, rfl⟩ := Int.eq_ofNat_of_zero_le h0
 rw [sR hx hy (by omega) (by decide)]
 simp
theorem J8 {desc : TypeDesc} (h : dQ f x = .int .i64 a) (hs : P.underlying t = some desc) (ht : P.underlying t2 = some (.int .u8)) :
  (execOp (dQ f) ⟨d, .convert t t2 x, ty, ps, af, g⟩).run P w = .ok (.value (.int .u8 (a % 256))) w := by
 rw [Kk h hs ht]
 rfl
end
theorem nI {α : Type} [DecidableEq α] {l : List α} {k : α} (h : (ic (fF l) k).getD false = true) : k ∈ l := by
 rw [lI, decide_eq_true_eq] at h; exact h
theorem lQ {α : Type} [DecidableEq α] {l : List α} {k : α} (h : (ic (fF l) k).getD false = false) : k ∉ l := by
 rw [lI, decide_eq_false_iff_not] at h; exact h
structure LO (T : TypeId) (N : Nat) (w : World) (vs : List Value) (L : List (List Int)) : Prop where
 len : vs.length = L.length
 get : ∀ k, k < L.length → dh ee 1 T w N (vs.getD k undef) (L.getD k [])
section
variable {T : TypeId} {N : Nat} {w w' : World} {vs : List Value} {L : List (List Int)}
theorem LO.nil : LO T N w [] [] := ⟨rfl, fun k hk => by cases hk⟩
theorem LO.ll (h : LO T N w vs L) : LL w vs L := ⟨h.len, fun k hk => (h.get k hk).sl⟩
theorem LO.ext (h : d9 w w') (k : LO T N w vs L) : LO T N w' vs L := ⟨k.len, fun i hi => h.ow (k.get i hi)⟩
theorem LO.mono {N' : Nat} (k : LO T N w vs L) (h : N' ≤ N) : LO T N' w vs L := ⟨k.len, fun i hi => (k.get i hi).mono h⟩
theorem LO.grownAt {b : Nat} {c : Array Value} {T' : TypeId} (k : LO T N w vs L) (hm : At w b c T') (hG : w.grownBy w' (some b)) (hT : T' ≠ T) : LO T N w' vs L := ⟨k.len, fun i hi => (k.get i hi).grownAt hm hG hT⟩
theorem LO.grownMap {α β : Type} {enc : α → Value} {encV : β → Value} {b : Nat} {l : List (α × β)} (k : LO T N w vs L) (hm : dT enc encV w b l) (hG : w.grownBy w' (some b)) : LO T N w' vs L := ⟨k.len, fun i hi => (k.get i hi).grownMap hm hG⟩
theorem LO.grownOw {α : Type} {enc : α → List Value} {sz N' : Nat} {T' : TypeId} {v : Value} {l : List α} (k : LO T N w vs L) (h : dh enc sz T' w N' v l) (hG : w.grownBy w' v.ownBlock) (hT : T' ≠ T) : LO T N w' vs L := ⟨k.len, fun i hi => (k.get i hi).grownOw h hG hT.symm⟩
theorem LO.one (k : LO T N w vs L) : ∀ v, v ∈ vs → Value.oneCell' v = true := fun v hv => by
 obtain ⟨j, hj, e⟩ := fh (d := undef) hv
 have h := (k.get j (by rw [← k.len]; exact hj)).sl
 rw [e] at h
 obtain ⟨h1, _⟩ := Sl.eqv h
 rw [h1]; rfl
theorem BN {vs : List Value} (h : ∀ v, v ∈ vs → Value.oneCell' v = true) {i j : Nat} : (((vs.drop i).take j).flatMap encV).all Value.oneCell' = true := by
 rw [List.all_eq_true]
 intro v hv
 obtain ⟨u, hu, he⟩ := List.mem_flatMap.1 hv
 obtain rfl : v = u := by simpa [encV] using he
 exact h _ (List.mem_of_mem_drop (List.mem_of_mem_take hu))
theorem LO.below {W : World} (h : Below w.heap.size w W) (k : LO T N w vs L) : LO T N W vs L := ⟨k.len, fun i hi => Below.ow h (k.get i hi)⟩
theorem Fm {α : Type} (l : List α) (x d : α) {i : Nat} (j : Nat) (hi : i ≤ l.length) : (l.take i ++ ([x] ++ l.drop i)).getD j d = if j < i then l.getD j d else if j = i then x else l.getD (j - 1) d := by
 have hl : (l.take i).length = i := by rw [List.length_take]; omega
 simp only [List.getD_eq_getElem?_getD]
 by_cases h1 : j < i
 ·rw [if_pos h1, List.getElem?_append_left (by omega), List.getElem?_take, if_pos h1]
 ·rw [if_neg h1, List.getElem?_append_right (by omega), hl]
  by_cases h2 : j = i
  ·rw [if_pos h2, h2, Nat.sub_self]; rfl
  ·rw [if_neg h2, List.getElem?_append_right (by simp; omega), List.getElem?_drop]
   congr 2
   simp
   omega
theorem LO.put {v : Value} {l : List Int} {i : Nat} (k : LO T N w vs L) (h : dh ee 1 T w N v l) (hi : i ≤ L.length) : LO T N w (vs.take i ++ ([v] ++ vs.drop i)) (L.take i ++ ([l] ++ L.drop i)) := by
 have hl := k.len
 refine ⟨by simp [hl], fun j hj => ?_⟩
 rw [Fm _ _ _ _ (by omega), Fm _ _ _ _ hi]
 have hj2 : j < L.length + 1 := by
  rw [List.length_append, List.length_append, List.length_drop, List.length_take, List.length_singleton] at hj
  omega
 by_cases h1 : j < i
 ·rw [if_pos h1, if_pos h1]; exact k.get j (by omega)
 ·rw [if_neg h1, if_neg h1]
  by_cases h2 : j = i
  ·rw [if_pos h2, if_pos h2]; exact h
  ·rw [if_neg h2, if_neg h2]; exact k.get (j - 1) (by omega)
theorem LO.snoc {v : Value} {l : List Int} (k : LO T N w vs L) (h : dh ee 1 T w N v l) : LO T N w (vs ++ [v]) (L ++ [l]) := by
 have hp := k.put (i := L.length) h (Nat.le_refl _)
 rw [← k.len, List.take_length, List.drop_length, List.append_nil, k.len, List.take_length, List.drop_length, List.append_nil] at hp
 exact hp
theorem LL.snoc {v : Value} {l : List Int} (k : LL w vs L) (h : dO ee 1 w v l) : LL w (vs ++ [v]) (L ++ [l]) := by
 have hl := k.len
 refine ⟨by simp [hl], fun j hj => ?_⟩
 rw [List.length_append, List.length_singleton] at hj
 by_cases h1 : j < L.length
 ·have e1 : (vs ++ [v]).getD j undef = vs.getD j undef := by simp only [List.getD_eq_getElem?_getD]; rw [List.getElem?_append_left (by omega)]
  have e2 : (L ++ [l]).getD j [] = L.getD j [] := by simp only [List.getD_eq_getElem?_getD]; rw [List.getElem?_append_left (by omega)]
  rw [e1, e2]; exact k.get j h1
 ·obtain rfl : j = L.length := by omega
  have e1 : (vs ++ [v]).getD L.length undef = v := by simp only [List.getD_eq_getElem?_getD]; rw [List.getElem?_append_right (by omega), hl, Nat.sub_self]; rfl
  have e2 : (L ++ [l]).getD L.length [] = l := by simp only [List.getD_eq_getElem?_getD]; rw [List.getElem?_append_right (by omega), Nat.sub_self]; rfl
  rw [e1, e2]; exact h
end
end
section
open Go Go.RowKit
def oI : List Int → List Int → Bool
 | a :: aq, b :: bs => if a = b then oI aq bs else decide (a < b)
 | _, _ => false
theorem Fv : ∀ a : List Int, oI a a = false
 | [] => rfl
 | a :: aq => by rw [oI, if_pos rfl]; exact Fv aq
theorem za : ∀ a b c : List Int, oI a b = true → oI b c = true → oI a c = true
 | [], b, c, h, _ => by cases b <;> simp [oI] at h
 | a :: aq, [], c, h, _ => by simp [oI] at h
 | a :: aq, b :: bs, [], _, h => by simp [oI] at h
 | a :: aq, b :: bs, c :: cs, h1, h2 => by
  rw [oI] at h1 h2 ⊢
  by_cases e1 : a = b
  ·subst e1
   rw [if_pos rfl] at h1
   by_cases e2 : a = c
   ·subst e2
    rw [if_pos rfl] at h2 ⊢
    exact za aq bs cs h1 h2
   ·rw [if_neg e2] at h2 ⊢; exact h2
  ·rw [if_neg e1, decide_eq_true_eq] at h1
   by_cases e2 : b = c
   ·subst e2
    rw [if_neg e1, decide_eq_true_eq]; exact h1
   ·rw [if_neg e2, decide_eq_true_eq] at h2
    rw [if_neg (by omega), decide_eq_true_eq]; omega
theorem yE : ∀ a b : List Int, a.length = b.length → a ≠ b → oI a b = true ∨ oI b a = true
 | [], [], _, h => absurd rfl h
 | [], b :: bs, h, _ => by simp at h
 | a :: aq, [], h, _ => by simp at h
 | a :: aq, b :: bs, h, hne => by
  rw [oI, oI]
  by_cases e : a = b
  ·subst e
   rw [if_pos rfl, if_pos rfl]
   exact yE aq bs (by simpa using h) (fun e => hne (by rw [e]))
  ·rw [if_neg e, if_neg (fun h => e h.symm), decide_eq_true_eq, decide_eq_true_eq]; omega
theorem Ii : ∀ (a b : List Int) (k : Nat), a.length = b.length → k < a.length → (∀ q, q < k → a.getD q 0 = b.getD q 0) → a.getD k 0 ≠ b.getD k 0 → oI a b = decide (a.getD k 0 < b.getD k 0)
 | [], _, k, _, h, _, _ => by simp at h
 | a :: aq, [], k, h, _, _, _ => by simp at h
 | a :: aq, b :: bs, 0, h, h1, h2, h3 => by
  rw [oI, if_neg (by simpa using h3)]; rfl
 | a :: aq, b :: bs, k + 1, h, h1, h2, h3 => by
  have e : a = b := by simpa using h2 0 (by omega)
  rw [oI, if_pos e, Ii aq bs k (by simpa using h) (by simpa using h1) (fun q hq => by simpa using h2 (q + 1) (by omega)) (by simpa using h3)]
  simp
theorem yO : ∀ (a b : List Int), a.length = b.length → (∀ q, q < a.length → a.getD q 0 = b.getD q 0) → a = b
 | [], [], _, _ => rfl
 | [], b :: bs, h, _ => by simp at h
 | a :: aq, [], h, _ => by simp at h
 | a :: aq, b :: bs, h, h1 => by
  have e : a = b := by simpa using h1 0 (by simp)
  rw [e, yO aq bs (by simpa using h) (fun q hq => by simpa using h1 (q + 1) (by simpa using hq))]
def fX (a b : List Int) : Bool := decide (a.length < b.length) || (decide (a.length = b.length) && oI a b)
theorem CD {a b : List Int} (h : a.length < b.length) : fX a b = true := by unfold fX; rw [decide_eq_true h]; rfl
theorem Jk {a b : List Int} (h : b.length < a.length) : fX a b = false := by
 unfold fX; rw [decide_eq_false (show ¬ a.length < b.length by omega), decide_eq_false (show ¬ a.length = b.length by omega)]; rfl
theorem vS {a b : List Int} (h : a.length = b.length) : fX a b = oI a b := by
 unfold fX; rw [decide_eq_false (show ¬ a.length < b.length by omega), decide_eq_true h]; rfl
theorem QI {a b : List Int} (h : a.length ≠ b.length) : fX a b = decide (a.length < b.length) := by
 unfold fX; rw [decide_eq_false h, Bool.false_and, Bool.or_false]
theorem HM (a : List Int) : fX a a = false := by rw [vS rfl, Fv]
theorem w7 {a b c : List Int} (h1 : fX a b = true) (h2 : fX b c = true) : fX a c = true := by
 rcases Nat.lt_trichotomy a.length b.length with h | h | h
 ·rcases Nat.lt_trichotomy b.length c.length with k | k | k
  ·exact CD (by omega)
  ·exact CD (by omega)
  ·rw [Jk k] at h2; cases h2
 ·rcases Nat.lt_trichotomy b.length c.length with k | k | k
  ·exact CD (by omega)
  ·rw [vS h] at h1; rw [vS k] at h2; rw [vS (by omega)]; exact za _ _ _ h1 h2
  ·rw [Jk k] at h2; cases h2
 ·rw [Jk h] at h1; cases h1
theorem Bt {a b : List Int} (h : a ≠ b) : fX a b = true ∨ fX b a = true := by
 rcases Nat.lt_trichotomy a.length b.length with k | k | k
 ·exact .inl (CD k)
 ·rw [vS k, vS k.symm]; exact yE _ _ k h
 ·exact .inr (CD k)
theorem Ku {a b : List Int} (h : fX a b = true) : fX b a = false := Bool.eq_false_iff.2 fun k => by
 have := w7 h k
 rw [HM] at this; cases this
def qV : List (List Int) → List Int → List (List Int)
 | [], r => [r]
 | x :: xs, r => if fX x r then x :: qV xs r else r :: x :: xs
theorem Io : ∀ (L : List (List Int)) (r : List Int) (i : Nat), i ≤ L.length → (∀ q, q < i → fX (L.getD q []) r = true) → (i < L.length → fX (L.getD i []) r = false) → L.take i ++ ([r] ++ L.drop i) = qV L r
 | [], r, i, h, _, _ => by
  obtain rfl : i = 0 := by simpa using h
  rfl
 | x :: xs, r, 0, _, _, h => by
  have h0 : fX x r = false := by simpa using h (by simp)
  rw [qV, h0]; rfl
 | x :: xs, r, i + 1, hi, h1, h2 => by
  have h0 : fX x r = true := by simpa using h1 0 (by omega)
  rw [qV, if_pos h0, ← Io xs r i (by simpa using hi) (fun q hq => by simpa using h1 (q + 1) (by omega)) (fun h => by simpa using h2 (by simpa using h))]
  rfl
theorem JT (L : List (List Int)) (r : List Int) : (qV L r).length = L.length + 1 := by
 induction L with
 | nil => rfl
 | cons x xs ih =>
  rw [qV]
  split
  ·rw [List.length_cons, ih]; rfl
  ·rfl
theorem wL {L : List (List Int)} {r x : List Int} : x ∈ qV L r ↔ x ∈ L ∨ x = r := by
 induction L with
 | nil => simp [qV]
 | cons y ys ih =>
  rw [qV]
  split
  ·rw [List.mem_cons, ih, List.mem_cons, or_assoc]
  ·simp only [List.mem_cons]
   constructor
   ·rintro (h | h | h)
    ·exact .inr h
    ·exact .inl (.inl h)
    ·exact .inl (.inr h)
   ·rintro ((h | h) | h)
    ·exact .inr (.inl h)
    ·exact .inr (.inr h)
    ·exact .inl h
def Up (L : List (List Int)) : Prop := L.Pairwise fun a b => fX a b = true
theorem M3 {L : List (List Int)} {r : List Int} (h : Up L) (hr : r ∉ L) : Up (qV L r) := by
 induction L with
 | nil => exact List.pairwise_singleton _ _
 | cons y ys ih =>
  obtain ⟨h1, h2⟩ := List.pairwise_cons.1 h
  rw [qV]
  split
  ·rename_i hy
   refine List.pairwise_cons.2 ⟨fun z hz => ?_, ih h2 (fun k => hr (List.mem_cons_of_mem _ k))⟩
   rcases wL.1 hz with hz | rfl
   ·exact h1 z hz
   ·exact hy
  ·rename_i hy
   have hry : fX r y = true := by
    rcases Bt (a := r) (b := y) (fun e => hr (e ▸ List.mem_cons_self ..)) with k | k
    ·exact k
    ·exact absurd k hy
   refine List.pairwise_cons.2 ⟨fun z hz => ?_, h⟩
   rcases List.mem_cons.1 hz with rfl | hz
   ·exact hry
   ·exact w7 hry (h1 z hz)
def gX (ks : List (List Int)) : List (List Int) := ks.foldl qV []
theorem Hm (ks : List (List Int)) (r : List Int) : gX (iJ ks r) = if r ∈ ks then gX ks else qV (gX ks) r := by
 unfold iJ
 split
 ·rfl
 ·unfold gX; rw [List.foldl_append]; rfl
theorem BF {x : List Int} : ∀ (ks b : List (List Int)), x ∈ ks.foldl qV b ↔ x ∈ b ∨ x ∈ ks
 | [], b => by simp
 | k :: ks, b => by
  rw [List.foldl_cons, BF ks, wL, List.mem_cons, or_assoc]
theorem mB {ks : List (List Int)} {x : List Int} : x ∈ gX ks ↔ x ∈ ks := by
 unfold gX; rw [BF]; simp
theorem Bo : ∀ (ks b : List (List Int)), (ks.foldl qV b).length = b.length + ks.length
 | [], b => rfl
 | k :: ks, b => by rw [List.foldl_cons, Bo ks, JT, List.length_cons]; omega
theorem y4 (ks : List (List Int)) : (gX ks).length = ks.length := by unfold gX; rw [Bo]; simp
theorem FM : ∀ (ks b : List (List Int)), Up b → ks.Nodup → (∀ x, x ∈ ks → x ∉ b) → Up (ks.foldl qV b)
 | [], b, h, _, _ => h
 | k :: ks, b, h, hn, hd => by
  obtain ⟨n1, n2⟩ := List.nodup_cons.1 hn
  refine FM ks _ (M3 h (hd k (List.mem_cons_self ..))) n2 fun x hx hm => ?_
  rcases wL.1 hm with hm | rfl
  ·exact hd x (List.mem_cons_of_mem _ hx) hm
  ·exact n1 hx
theorem IZ {ks : List (List Int)} (h : ks.Nodup) : Up (gX ks) := FM ks [] List.Pairwise.nil h (fun x _ h => by cases h)
theorem Ov {L : List (List Int)} (h : Up L) {i j : Nat} (hij : i < j) (hj : j < L.length) : fX (L.getD i []) (L.getD j []) = true := by
 have := List.pairwise_iff_getElem.1 h i j (by omega) hj hij
 rw [List.getD_eq_getElem?_getD, List.getD_eq_getElem?_getD, List.getElem?_eq_getElem (by omega), List.getElem?_eq_getElem hj]
 exact this
theorem Hr {ks : List (List Int)} {r : List Int} {i : Nat} (hn : ks.Nodup) (hr : r ∉ ks) (hi : i ≤ (gX ks).length) (h1 : ∀ q, i ≤ q → q < (gX ks).length → fX r ((gX ks).getD q []) = true) (h2 : 0 < i → fX r ((gX ks).getD (i - 1) []) = false) :
  (gX ks).take i ++ ([r] ++ (gX ks).drop i) = gX (iJ ks r) := by
 rw [Hm, if_neg hr]
 refine Io _ _ _ hi (fun q hq => ?_) (fun h => Ku (h1 i (Nat.le_refl _) h))
 have hm : (gX ks).getD (i - 1) [] ∈ ks := mB.1 (dU (by omega))
 have hp : fX ((gX ks).getD (i - 1) []) r = true := by
  rcases Bt (a := (gX ks).getD (i - 1) []) (b := r) (fun e => hr (e ▸ hm)) with k | k
  ·exact k
  ·rw [h2 (by omega)] at k; cases k
 by_cases e : q = i - 1
 ·subst e; exact hp
 ·exact w7 (Ov (IZ hn) (show q < i - 1 by omega) (by omega)) hp
theorem HC {S : List (List Int)} {m : Nat} (h : m < S.length) : S.take m ++ [S.getD m []] = S.take (m + 1) := by
 rw [List.take_add_one, List.getD_eq_getElem?_getD, List.getElem?_eq_getElem h]; rfl
def Hd (l : List Rw) (c o p : Nat) : Bool := (l.getD c ⟨⟨0, 0⟩, 0⟩).o.testBit o && mI (l.getD c ⟨⟨0, 0⟩, 0⟩).c.m (l.getD c ⟨⟨0, 0⟩, 0⟩).c.v p
def jF (l : List Rw) (o p k : Nat) : List Int := ((List.range k).filter fun c => Hd l c o p).map fun c : Nat => (c : Int)
def qS (l : List Rw) (o p : Nat) : List Int := jF l o p l.length
theorem vH (l : List Rw) (o p k : Nat) : jF l o p (k + 1) = if Hd l k o p then jF l o p k ++ [(k : Int)] else jF l o p k := by
 unfold jF
 rw [List.range_succ, List.filter_append, List.map_append]
 by_cases h : Hd l k o p = true
 ·simp [h]
 ·simp [h]
theorem Nl {l : List Rw} {o p k : Nat} (h : Hd l k o p = true) : jF l o p k ++ [(k : Int)] = jF l o p (k + 1) := by rw [vH, if_pos h]
theorem Fb {l : List Rw} {o p k : Nat} (h : Hd l k o p = false) : jF l o p k = jF l o p (k + 1) := by rw [vH, if_neg (by rw [h]; decide)]
theorem oz {l : List Rw} {o p k : Nat} {x : Int} : x ∈ jF l o p k ↔ ∃ c : Nat, x = c ∧ c < k ∧ Hd l c o p = true := by
 unfold jF
 simp only [List.mem_map, List.mem_filter, List.mem_range]
 constructor
 ·rintro ⟨c, ⟨h1, h2⟩, rfl⟩; exact ⟨c, rfl, h1, h2⟩
 ·rintro ⟨c, rfl, h1, h2⟩; exact ⟨c, ⟨h1, h2⟩, rfl⟩
theorem tE (l : List Rw) (o p k : Nat) : (jF l o p k).length ≤ k := by
 unfold jF
 rw [List.length_map]
 exact Nat.le_trans (List.length_filter_le _ _) (by simp)
theorem Jb (l : List Rw) (o p k : Nat) : (jF l o p k).Pairwise fun a b => a < b := by
 unfold jF
 rw [List.pairwise_map]
 refine List.Pairwise.filter _ ?_
 exact List.pairwise_lt_range.imp (fun h => by omega)
theorem BC {n : Int} {L : List Int} (h : L.Pairwise fun a b => a < b) (hb : ∀ x, x ∈ L → 0 ≤ x ∧ x < n) : ox n L = true := je.2 fun k hk => by
 obtain ⟨h1, h2⟩ := hb _ (dU (d := 0) hk)
 refine ⟨h1, h2, fun hp => ?_⟩
 have := List.pairwise_iff_getElem.1 h (k - 1) k (by omega) hk (by omega)
 rw [List.getD_eq_getElem?_getD, List.getD_eq_getElem?_getD, List.getElem?_eq_getElem (by omega), List.getElem?_eq_getElem hk]
 exact this
theorem Lu (l : List Rw) (o p : Nat) : ox (l.length : Int) (qS l o p) = true := BC (Jb l o p _) fun x hx => by
 obtain ⟨c, rfl, h1, _⟩ := oz.1 hx
 omega
def sd (l : List Rw) (o : Nat) (pts : List Int) (base : List (List Int)) : Nat → List (List Int)
 | 0 => base
 | k + 1 => iJ (sd l o pts base k) (qS l o (pts.getD k 0).toNat)
def kw (S : Sp) (l : List Rw) : Nat → List (List Int)
 | 0 => []
 | o + 1 => sd l o (eo (S.on.getD o 0)) (kw S l o) (eo (S.on.getD o 0)).length
def RO (S : Sp) (l : List Rw) : List (List Int) := kw S l S.on.length
def lP (S : Sp) (l : List Rw) : List (List Int) := gX (RO S l)
theorem wV {l : List Rw} {o : Nat} {pts : List Int} {base : List (List Int)} {x : List Int} : ∀ k, x ∈ sd l o pts base k ↔ x ∈ base ∨ ∃ q, q < k ∧ x = qS l o (pts.getD q 0).toNat
 | 0 => by simp [sd]
 | k + 1 => by
  rw [sd, gv, wV k]
  constructor
  ·rintro ((h | ⟨q, h1, h2⟩) | h)
   ·exact .inl h
   ·exact .inr ⟨q, by omega, h2⟩
   ·exact .inr ⟨k, by omega, h⟩
  ·rintro (h | ⟨q, h1, h2⟩)
   ·exact .inl (.inl h)
   ·by_cases e : q = k
    ·subst e; exact .inr h2
    ·exact .inl (.inr ⟨q, by omega, h2⟩)
theorem oq {S : Sp} {l : List Rw} {x : List Int} : ∀ o, x ∈ kw S l o ↔ ∃ q, q < o ∧ ∃ j, j < (eo (S.on.getD q 0)).length ∧ x = qS l q ((eo (S.on.getD q 0)).getD j 0).toNat
 | 0 => by simp [kw]
 | o + 1 => by
  rw [kw, wV, oq o]
  constructor
  ·rintro (⟨q, h1, h2⟩ | ⟨j, h1, h2⟩)
   ·exact ⟨q, by omega, h2⟩
   ·exact ⟨o, by omega, j, h1, h2⟩
  ·rintro ⟨q, h1, h2⟩
   by_cases e : q = o
   ·subst e; exact .inr h2
   ·exact .inl ⟨q, by omega, h2⟩
theorem rl {l : List Rw} {o : Nat} {pts : List Int} {base : List (List Int)} (h : base.Nodup) : ∀ k, (sd l o pts base k).Nodup
 | 0 => h
 | k + 1 => jB (rl h k) _
theorem ui (S : Sp) (l : List Rw) : ∀ o, (kw S l o).Nodup
 | 0 => List.nodup_nil
 | o + 1 => rl (ui S l o) _
theorem w5 {l : List Rw} {o : Nat} {pts : List Int} {base : List (List Int)} : ∀ k, (sd l o pts base k).length ≤ base.length + k
 | 0 => Nat.le_refl _
 | k + 1 => by
  have := qn (sd l o pts base k) (qS l o (pts.getD k 0).toNat)
  have := w5 (l := l) (o := o) (pts := pts) (base := base) k
  rw [sd]; omega
theorem tk (S : Sp) (l : List Rw) : ∀ o, (kw S l o).length ≤ 256 * o
 | 0 => Nat.le_refl _
 | o + 1 => by
  have h1 := w5 (l := l) (o := o) (pts := eo (S.on.getD o 0)) (base := kw S l o) (eo (S.on.getD o 0)).length
  have h2 := tk S l o
  have h3 := lc (S.on.getD o 0)
  rw [kw]; omega
def pf (l : List Rw) (x : List Int) : Prop := ∃ o p, x = qS l o p
theorem A2 {S : Sp} {l : List Rw} {o : Nat} {x : List Int} (h : x ∈ kw S l o) : pf l x := by
 obtain ⟨q, _, j, _, e⟩ := (oq o).1 h
 exact ⟨_, _, e⟩
theorem j2 {S : Sp} {l : List Rw} (h : l.length ≤ 4000) : d6 (l.length : Int) (lP S l) = true := fv.2 ⟨by omega, by omega, fun i hi => by
 obtain ⟨o, p, e⟩ := A2 (mB.1 (dU (d := []) hi))
 rw [show (lP S l).getD i [] = qS l o p from e]
 exact Lu l o p⟩
def pJ (row : List Int) : List Int := row.flatMap fun c => [c / 256 % 256, c % 256]
def kn (row : List Int) : List UInt8 := pb (pJ row)
theorem Ez (row : List Int) (k : Nat) (hk : k < row.length) : pJ (row.take k) ++ [row.getD k 0 / 256 % 256, row.getD k 0 % 256] = pJ (row.take (k + 1)) := by
 unfold pJ
 rw [List.take_add_one, List.flatMap_append, List.getD_eq_getElem?_getD, List.getElem?_eq_getElem hk]
 simp
theorem GP (row : List Int) : (pJ row).length = 2 * row.length := by
 unfold pJ
 induction row with
 | nil => rfl
 | cons a l ih => rw [List.flatMap_cons, List.length_append, ih]; simp; omega
theorem Bj {x y : Int} (hx : 0 ≤ x ∧ x < 256) (hy : 0 ≤ y ∧ y < 256) (h : UInt8.ofNat x.toNat = UInt8.ofNat y.toNat) : x = y := by
 have h2 := congrArg UInt8.toNat h
 rw [UInt8.toNat_ofNat', UInt8.toNat_ofNat', Nat.mod_eq_of_lt (by omega), Nat.mod_eq_of_lt (by omega)] at h2
 omega
theorem yB : ∀ (a b : List Int), (∀ x, x ∈ a → 0 ≤ x ∧ x < 65536) → (∀ x, x ∈ b → 0 ≤ x ∧ x < 65536) → kn a = kn b → a = b
 | [], [], _, _, _ => rfl
 | [], b :: bs, _, _, h => by simp [kn, pJ, pb] at h
 | a :: aq, [], _, _, h => by simp [kn, pJ, pb] at h
 | a :: aq, b :: bs, ha, hb, h => by
  have h0 := ha a (List.mem_cons_self ..)
  have h1 := hb b (List.mem_cons_self ..)
  have hh : UInt8.ofNat (a / 256 % 256).toNat = UInt8.ofNat (b / 256 % 256).toNat ∧ UInt8.ofNat (a % 256).toNat = UInt8.ofNat (b % 256).toNat ∧ kn aq = kn bs := by
   simpa [kn, pJ, pb, List.flatMap_cons] using h
  have e1 := Bj ⟨by omega, by omega⟩ ⟨by omega, by omega⟩ hh.1
  have e2 := Bj ⟨by omega, by omega⟩ ⟨by omega, by omega⟩ hh.2.1
  rw [yB aq bs (fun x hx => ha x (List.mem_cons_of_mem _ hx)) (fun x hx => hb x (List.mem_cons_of_mem _ hx)) hh.2.2, show a = b by omega]
theorem pf.small {l : List Rw} {x : List Int} (h : pf l x) (hl : l.length ≤ 4000) : ∀ c, c ∈ x → 0 ≤ c ∧ c < 65536 := fun c hc => by
 obtain ⟨o, p, rfl⟩ := h
 obtain ⟨c, rfl, h1, _⟩ := oz.1 hc
 omega
theorem sG {l : List Rw} {ks : List (List Int)} {r : List Int} (hl : l.length ≤ 4000) (hk : ∀ x, x ∈ ks → pf l x) (hr : pf l r) : kn r ∈ ks.map kn ↔ r ∈ ks := by
 rw [List.mem_map]
 constructor
 ·rintro ⟨x, hx, e⟩
  rw [← yB x r ((hk x hx).small hl) (hr.small hl) e]; exact hx
 ·exact fun h => ⟨r, h, rfl⟩
theorem Jd {l : List Rw} {ks : List (List Int)} {r : List Int} (hl : l.length ≤ 4000) (hk : ∀ x, x ∈ ks → pf l x) (hr : pf l r) : iJ (ks.map kn) (kn r) = (iJ ks r).map kn := by
 unfold iJ
 by_cases h : r ∈ ks
 ·rw [if_pos h, if_pos ((sG hl hk hr).2 h)]
 ·rw [if_neg h, if_neg (fun k => h ((sG hl hk hr).1 k)), List.map_append]; rfl
end
section
open Go Go.RowKit
def zk (S : Sp) (l : List Rw) : Int := if dL S = true ∧ ∀ k, k < l.length → dZ (l.getD k ⟨⟨0, 0⟩, 0⟩).c.m (l.getD k ⟨⟨0, 0⟩, 0⟩).c.v S.n = true then (if 4000 < l.length then 3 else 0) else 1
theorem QL {a b : List Int} (h : ¬ (a.length : Int) = (b.length : Int)) : Value.bool (decide ((a.length : Int) < (b.length : Int))) = .bool (fX a b) := congrArg Value.bool (by
 rw [QI (by omega)]
 by_cases k : a.length < b.length
 ·rw [decide_eq_true k, decide_eq_true (by omega)]
 ·rw [decide_eq_false k, decide_eq_false (by omega)])
theorem Rs {a b : List Int} {k : Nat} (hl : a.length = b.length) (hk : k < a.length) (h : ∀ q, q < k → a.getD q 0 = b.getD q 0) (hn : ¬ a.getD k 0 = b.getD k 0) : Value.bool (decide (a.getD k 0 < b.getD k 0)) = .bool (fX a b) := congrArg Value.bool (by
 rw [vS hl, Ii a b k hl hk h hn])
theorem QV {a b : List Int} {k : Nat} (hl : a.length = b.length) (hk : k = a.length) (h : ∀ q, q < k → a.getD q 0 = b.getD q 0) : Value.bool false = .bool (fX a b) := congrArg Value.bool (by
 rw [yO a b hl (hk ▸ h), HM])
def tQ (l : List Rw) (n : Int) (k : Nat) : List Nat := (l.take k).map fun x => oQ x.c.m x.c.v n.toNat
theorem A3 {l : List Rw} {n : Int} {k : Nat} (h : k ≤ l.length) : (tQ l n k).length = k := by
 unfold tQ
 rw [List.length_map, List.length_take]; omega
theorem Gq {l : List Rw} {n : Int} {k : Nat} (h : k < l.length) : tQ l n k ++ [oQ (l.getD k ⟨⟨0, 0⟩, 0⟩).c.m (l.getD k ⟨⟨0, 0⟩, 0⟩).c.v n.toNat] = tQ l n (k + 1) := by
 unfold tQ
 rw [List.take_add_one, List.map_append, List.getD_eq_getElem?_getD, List.getElem?_eq_getElem h]; rfl
theorem Hx {l : List Rw} {n : Int} {k : Nat} (h : k < l.length) : (tQ l n l.length).getD k 0 = oQ (l.getD k ⟨⟨0, 0⟩, 0⟩).c.m (l.getD k ⟨⟨0, 0⟩, 0⟩).c.v n.toNat := by
 unfold tQ
 rw [List.take_length, List.getD_eq_getElem?_getD, List.getElem?_map, List.getD_eq_getElem?_getD, List.getElem?_eq_getElem h]; rfl
theorem EY {l : List Rw} {n p : Int} {k o : Nat} (h : k < l.length) (hr : dZ (l.getD k ⟨⟨0, 0⟩, 0⟩).c.m (l.getD k ⟨⟨0, 0⟩, 0⟩).c.v n = true) (hp : 0 ≤ p ∧ p.toNat < 2 ^ n.toNat) (hb : (l.getD k ⟨⟨0, 0⟩, 0⟩).o.testBit o = true) : xU ((tQ l n l.length).getD k 0) p = Hd l k o p.toNat := by
 obtain ⟨h0, h8, hm, hv⟩ := dV.1 hr
 have h256 := eT h8
 rw [Hx h]
 unfold Hd mI
 rw [hb, Bool.true_and]
 obtain ⟨q, rfl⟩ := Int.eq_ofNat_of_zero_le hp.1
 rw [Int.toNat_natCast] at hp ⊢
 have hq : q < 256 := by omega
 rw [w4 hq, iV (by omega), decide_eq_true hp.2, Bool.true_and, hv]
theorem PT {l : List Rw} {p : Nat} {k o : Nat} (hb : ¬ (l.getD k ⟨⟨0, 0⟩, 0⟩).o.testBit o = true) : Hd l k o p = false := by
 unfold Hd
 rw [Bool.eq_false_iff.2 hb]; rfl
theorem KM {l : List Rw} {n p : Int} {k o : Nat} (h : k < l.length) (hr : dZ (l.getD k ⟨⟨0, 0⟩, 0⟩).c.m (l.getD k ⟨⟨0, 0⟩, 0⟩).c.v n = true) (hp : 0 ≤ p ∧ p.toNat < 2 ^ n.toNat) (hs : (((l.getD k ⟨⟨0, 0⟩, 0⟩).o / 2 ^ o &&& 1 : Nat) : Int) = 1) (hb : xU ((tQ l n l.length).getD k 0) p = true) : jF l o p.toNat k ++ [(k : Int)] = jF l o p.toNat (k + 1) :=
 Nl ((EY h hr hp (lr.1 hs)).symm.trans hb)
theorem DQ {l : List Rw} {n p : Int} {k o : Nat} (h : k < l.length) (hr : dZ (l.getD k ⟨⟨0, 0⟩, 0⟩).c.m (l.getD k ⟨⟨0, 0⟩, 0⟩).c.v n = true) (hp : 0 ≤ p ∧ p.toNat < 2 ^ n.toNat) (hs : (((l.getD k ⟨⟨0, 0⟩, 0⟩).o / 2 ^ o &&& 1 : Nat) : Int) = 1) (hb : xU ((tQ l n l.length).getD k 0) p = false) : jF l o p.toNat k = jF l o p.toNat (k + 1) :=
 Fb ((EY h hr hp (lr.1 hs)).symm.trans hb)
theorem C4 {l : List Rw} {p : Nat} {k o : Nat} (hs : ¬ (((l.getD k ⟨⟨0, 0⟩, 0⟩).o / 2 ^ o &&& 1 : Nat) : Int) = 1) : jF l o p k = jF l o p (k + 1) :=
 Fb (PT (fun h => hs (lr.2 h)))
theorem Mw {l : List Rw} {x : List Int} (h : pf l x) : x.length ≤ l.length := by
 obtain ⟨o, p, rfl⟩ := h
 exact tE _ _ _ _
theorem H0 {l : List Rw} {ks : List (List Int)} (h : ∀ x, x ∈ ks → pf l x) (j : Nat) : ((gX ks).getD j []).length ≤ l.length := by
 by_cases hj : j < (gX ks).length
 ·exact Mw (h _ (mB.1 (dU hj)))
 ·rw [List.getD_eq_getElem?_getD, List.getElem?_eq_none (by omega)]; simp
theorem GL {ks : List (List Int)} {r : List Int} (h : r ∈ ks) : iJ ks r = ks := if_pos h
theorem Lp {S : Sp} {l : List Rw} {o k : Nat} {pts : List Int} {x : List Int} (h : x ∈ sd l o pts (kw S l o) k) : pf l x := by
 rcases (wV k).1 h with h | ⟨q, _, e⟩
 ·exact A2 h
 ·exact ⟨_, _, e⟩
theorem CM {α : Type} (L : List α) (i : Nat) : (L.drop i).take (L.length - i) = L.drop i := List.take_of_length_le (by simp)
theorem NT {S : Sp} {o p : Nat} (hr : dL S = true) (ho : o < S.on.length) (hb : (S.on.getD o 0).testBit p = true) (hp : p < 256) : p < 2 ^ S.n.toNat := by
 obtain ⟨w1, w2⟩ := (dX.1 hr).2.2.2.2.2 o ho
 have := ea.1 w2 p hp (ea.1 w1 p hp hb)
 rw [fY] at this
 simpa using this
theorem KD {S : Sp} {l : List Rw} {o k : Nat} (ho : o < 4) (hk : k ≤ (eo (S.on.getD o 0)).length) : (sd l o (eo (S.on.getD o 0)) (kw S l o) k).length ≤ 2000 := by
 have h1 := w5 (l := l) (o := o) (pts := eo (S.on.getD o 0)) (base := kw S l o) k
 have h2 := tk S l o
 have h3 := lc (S.on.getD o 0)
 omega
theorem QY {S : Sp} {l : List Rw} (h : ¬ dL S = true) : zk S l = 1 := if_neg fun k => h k.1
theorem Q2 {S : Sp} {l : List Rw} {k : Nat} (hk : k < l.length) (h : ¬ dZ (l.getD k ⟨⟨0, 0⟩, 0⟩).c.m (l.getD k ⟨⟨0, 0⟩, 0⟩).c.v S.n = true) : zk S l = 1 := if_neg fun q => h (q.2 k hk)
theorem QG {S : Sp} {l : List Rw} (h : dL S = true) (h2 : ∀ k, k < l.length → dZ (l.getD k ⟨⟨0, 0⟩, 0⟩).c.m (l.getD k ⟨⟨0, 0⟩, 0⟩).c.v S.n = true) (h3 : 4000 < l.length) : zk S l = 3 := by
 unfold zk; rw [if_pos ⟨h, h2⟩, if_pos h3]
theorem Nm {S : Sp} {l : List Rw} (h : dL S = true) (h2 : ∀ k, k < l.length → dZ (l.getD k ⟨⟨0, 0⟩, 0⟩).c.m (l.getD k ⟨⟨0, 0⟩, 0⟩).c.v S.n = true) (h3 : ¬ 4000 < l.length) : zk S l = 0 := by
 unfold zk; rw [if_pos ⟨h, h2⟩, if_neg h3]
def K1 (l : List Rw) (bs : List Bool) : Nat → List Rw
 | 0 => []
 | k + 1 => if bs.getD k false = true then K1 l bs k ++ [l.getD k ⟨⟨0, 0⟩, 0⟩] else K1 l bs k
def Md (bs : List Bool) : Nat → List Int
 | 0 => []
 | k + 1 => if bs.getD k false = true then Md bs k ++ [(k : Int)] else Md bs k
theorem sf {l : List Rw} {bs : List Bool} {x : Rw} : ∀ k, x ∈ K1 l bs k ↔ ∃ c, c < k ∧ bs.getD c false = true ∧ x = l.getD c ⟨⟨0, 0⟩, 0⟩
 | 0 => by simp [K1]
 | k + 1 => by
  rw [K1]
  by_cases h : bs.getD k false = true
  ·rw [if_pos h, List.mem_append, sf k, List.mem_singleton]
   constructor
   ·rintro (⟨c, h1, h2⟩ | rfl)
    ·exact ⟨c, by omega, h2⟩
    ·exact ⟨k, by omega, h, rfl⟩
   ·rintro ⟨c, h1, h2, h3⟩
    by_cases e : c = k
    ·subst e; exact .inr h3
    ·exact .inl ⟨c, by omega, h2, h3⟩
  ·rw [if_neg h, sf k]
   constructor
   ·rintro ⟨c, h1, h2⟩; exact ⟨c, by omega, h2⟩
   ·rintro ⟨c, h1, h2, h3⟩
    have e : c ≠ k := fun e => h (e ▸ h2)
    exact ⟨c, by omega, h2, h3⟩
theorem vl {bs : List Bool} {x : Int} : ∀ k, x ∈ Md bs k ↔ ∃ c : Nat, c < k ∧ bs.getD c false = true ∧ x = (c : Int)
 | 0 => by simp [Md]
 | k + 1 => by
  rw [Md]
  by_cases h : bs.getD k false = true
  ·rw [if_pos h, List.mem_append, vl k, List.mem_singleton]
   constructor
   ·rintro (⟨c, h1, h2⟩ | rfl)
    ·exact ⟨c, by omega, h2⟩
    ·exact ⟨k, by omega, h, rfl⟩
   ·rintro ⟨c, h1, h2, h3⟩
    by_cases e : c = k
    ·subst e; exact .inr h3
    ·exact .inl ⟨c, by omega, h2, h3⟩
  ·rw [if_neg h, vl k]
   constructor
   ·rintro ⟨c, h1, h2⟩; exact ⟨c, by omega, h2⟩
   ·rintro ⟨c, h1, h2, h3⟩
    have e : c ≠ k := fun e => h (e ▸ h2)
    exact ⟨c, by omega, h2, h3⟩
theorem wr {L : List (List Int)} {cols : List Int} : oU L cols = true ↔ ∀ r, r ∈ L → ∃ c, c ∈ r ∧ c ∈ cols := by
 rw [Br]
 constructor
 ·intro h r hr
  obtain ⟨k, hk, rfl⟩ := fh (d := []) hr
  exact h k hk
 ·exact fun h i hi => h _ (dU hi)
theorem Da {l : List Rw} {bs : List Bool} {k p o : Nat} : AE (K1 l bs k) p o = true ↔ ∃ c, c < k ∧ bs.getD c false = true ∧ Hd l c o p = true := by
 unfold AE
 rw [List.any_eq_true]
 constructor
 ·rintro ⟨x, hx, h⟩
  obtain ⟨c, h1, h2, rfl⟩ := (sf k).1 hx
  exact ⟨c, h1, h2, h⟩
 ·rintro ⟨c, h1, h2, h3⟩
  exact ⟨_, (sf k).2 ⟨c, h1, h2, rfl⟩, h3⟩
theorem NP {S : Sp} {l : List Rw} {bs : List Bool} {k : Nat} (hr : dL S = true) (hw : ∀ q, q < l.length → lY S (l.getD q ⟨⟨0, 0⟩, 0⟩) = true) (hl : l.length ≤ 4000) (hk : k ≤ l.length) :
  (d6 (l.length : Int) (lP S l) && oU (lP S l) (Md bs k)) = jy S (K1 l bs k) := by
 rw [j2 hl, Bool.true_and]
 obtain ⟨h0, h8, h1, h4, h5, hin⟩ := dX.1 hr
 have hp := eT h8
 have hm : oX S (K1 l bs k) = true := by
  unfold oX
  rw [List.all_eq_true]
  intro x hx
  obtain ⟨c, h1, _, rfl⟩ := (sf k).1 hx
  have hi := hw c (by omega)
  exact jn.2 ⟨fk hi, (fz.1 hi).2.1, by rw [h5]; exact (lS hi).1⟩
 have hon : ∀ o, o < S.on.length → ∀ p, (AO S o).testBit p = true → p < 256 → p < 2 ^ S.n.toNat := fun o ho p hb hp2 => by
  obtain ⟨w1, w2⟩ := hin o ho
  have := ea.1 w2 p hp2 (ea.1 w1 p hp2 hb)
  rw [fY] at this
  simpa using this
 rw [Bool.eq_iff_iff, wr, gY]
 constructor
 ·intro h
  refine ⟨hr, hm, fun o ho => (mV hr hm ho).2 fun p hpn => ⟨fun hb => ?_, fun hc => ?_⟩⟩
  ·have hmem : qS l o p ∈ lP S l := mB.2 ((oq _).2 (by
    obtain ⟨j, hj, hjp⟩ := fh (d := (0 : Int)) (jh.2 ⟨p, by omega, hb, rfl⟩ : (p : Int) ∈ eo (AO S o))
    refine ⟨o, ho, j, hj, ?_⟩
    unfold AO at hjp
    rw [hjp, Int.toNat_natCast]))
   obtain ⟨c, hc1, hc2⟩ := h _ hmem
   obtain ⟨c, rfl, g1, g2⟩ := oz.1 hc1
   obtain ⟨c', g3, g4, g5⟩ := (vl k).1 hc2
   obtain rfl : c = c' := by omega
   exact Da.2 ⟨c, g3, g4, g2⟩
  ·obtain ⟨c, g1, g2, g3⟩ := Da.1 hc
   have hi := hw c (by omega)
   unfold Hd at g3
   rw [Bool.and_eq_true] at g3
   obtain ⟨k1, k2⟩ := (fz.1 hi).2.2 o g3.1
   have hv := (dV.1 (fk hi)).2.2.2
   refine (gn.1 k2).2 p hpn ?_
   have := of_decide_eq_true g3.2
   rw [hv] at this
   exact this
 ·rintro ⟨_, _, h⟩ r hr2
  obtain ⟨o, ho, j, hj, rfl⟩ := (oq _).1 (mB.1 hr2)
  obtain ⟨p, hp2, hb, e⟩ := lj hj
  rw [e, Int.toNat_natCast]
  have hpn := hon o ho p hb hp2
  obtain ⟨c, g1, g2, g3⟩ := Da.1 (((mV hr hm ho).1 (h o ho) p hpn).1 hb)
  exact ⟨(c : Int), oz.2 ⟨c, rfl, by omega, g3⟩, (vl k).2 ⟨c, g1, g2, rfl⟩⟩
def Po (n : Nat) : List Int := (List.range n).map fun k : Nat => (k : Int)
theorem LX {k : Nat} {x : Int} : x ∈ Po k ↔ 0 ≤ x ∧ x < k := by
 unfold Po
 rw [List.mem_map]
 constructor
 ·rintro ⟨c, h, rfl⟩
  have := List.mem_range.1 h
  omega
 ·intro h
  exact ⟨x.toNat, List.mem_range.2 (by omega), by omega⟩
def jk (L : List (List Int)) (k : Nat) : Bool := (List.range k).all fun i => decide (0 < (L.getD i []).length)
theorem JI {L : List (List Int)} {k : Nat} : jk L k = true ↔ ∀ i, i < k → 0 < (L.getD i []).length := by
 unfold jk
 rw [List.all_eq_true]
 exact ⟨fun h i hi => by simpa using h i (List.mem_range.2 hi), fun h i hi => by simpa using h i (List.mem_range.1 hi)⟩
end
end Go.Proofs.YteimkklmmanncaaGreat
