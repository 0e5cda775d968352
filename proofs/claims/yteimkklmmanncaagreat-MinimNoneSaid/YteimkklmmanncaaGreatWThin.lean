/- The family of a spec's primes: some outputs' primes, but for those that more outputs have. No program in it. The walk of the family of a spec's primes. Plain words for the document's rows: all of them in order, those that no other one holds. No program in it. Plain words for thinning: rows without w -/
import Derived.Test.YteimkklmmanncaaGreatT6
namespace Go.Proofs.YteimkklmmanncaaGreat
set_option linter.unusedVariables false
set_option linter.unusedSimpArgs false
section
open Go Go.RowKit
abbrev nN (S : Sp) : Nat := S.n.toNat
def FS (S : Sp) (o j y : Nat) : Prop := sO (nN S) (gf S o) y ∧ ∀ p, o < p → p < j → p &&& o = o → ¬ sO (nN S) (gf S p) y
def F0 (S : Sp) (j x : Nat) : Prop := ∃ o, 1 ≤ o ∧ o < j ∧ ∃ y, FS S o (2 ^ S.may.length) y ∧ x = y + o * 65536
section
variable {S : Sp} {o p j x y : Nat}
theorem QN : FS S o (o + 1) = sO (nN S) (gf S o) := fH fun y => ⟨fun h => h.1, fun h => ⟨h, fun p h1 h2 => by omega⟩⟩
theorem QC (h : j &&& o = o) (hj : o < j) : FS S o (j + 1) = fun y => FS S o j y ∧ ¬ sO (nN S) (gf S j) y := fH fun y => by
 unfold FS
 constructor
 ·rintro ⟨h1, h2⟩
  exact ⟨⟨h1, fun p a b => h2 p a (by omega)⟩, h2 j hj (by omega) h⟩
 ·rintro ⟨⟨h1, h2⟩, h3⟩
  refine ⟨h1, fun p a b c => ?_⟩
  by_cases e : p = j
  ·subst e; exact h3
  ·exact h2 p a (by omega) c
theorem Qq (h : ¬ j &&& o = o) : FS S o (j + 1) = FS S o j := fH fun y => by
 unfold FS
 constructor
 ·rintro ⟨h1, h2⟩
  exact ⟨h1, fun p a b => h2 p a (by omega)⟩
 ·rintro ⟨h1, h2⟩
  refine ⟨h1, fun p a b c => ?_⟩
  by_cases e : p = j
  ·subst e; exact absurd c h
  ·exact h2 p a (by omega) c
theorem P1 : F0 S 1 = fun _ => False := fH fun x => ⟨fun ⟨o, h1, h2, _⟩ => by omega, fun h => h.elim⟩
theorem OK (h : 1 ≤ o) : F0 S (o + 1) x ↔ F0 S o x ∨ ∃ y, FS S o (2 ^ S.may.length) y ∧ x = y + o * 65536 := by
 constructor
 ·rintro ⟨q, h1, h2, h3⟩
  by_cases e : q = o
  ·subst e; exact .inr h3
  ·exact .inl ⟨q, h1, by omega, h3⟩
 ·rintro (⟨q, h1, h2, h3⟩ | h3)
  ·exact ⟨q, h1, by omega, h3⟩
  ·exact ⟨o, h, by omega, h3⟩
theorem ms (hr : dP S = true) : nN S ≤ 8 ∧ S.n = (nN S : Int) ∧ S.may.length ≤ 4 := by
 obtain ⟨h0, h8, _, h4, h5, _⟩ := d7.1 hr
 unfold nN
 omega
theorem H0 (hr : dP S = true) (o : Nat) : tW (nN S) (gf S o) 0 := by
 obtain ⟨h8, hn, _⟩ := ms hr
 have := GK hr o
 rw [hn] at this
 exact (Ny this).2
theorem Fa (hr : dP S = true) (h : FS S o j y) : y < 65536 := by
 obtain ⟨h8, _, _⟩ := ms hr
 have h1 := zD h8 h.1
 have h2 : 2 ^ (2 * nN S) ≤ 2 ^ 16 := Nat.pow_le_pow_right (by decide) (by omega)
 exact Nat.lt_of_lt_of_le h1 h2
theorem Jp (hr : dP S = true) {c : Cb} (h1 : 1 ≤ o) (ho : o < 2 ^ S.may.length) : oJ S ⟨c, o⟩ = true ↔ gK c.m c.v (gf S o) (nN S : Int) = true ∧ ∀ p, o < p → p < 2 ^ S.may.length → p &&& o = o → ¬ gK c.m c.v (gf S p) (nN S : Int) = true := by
 obtain ⟨h8, hn, _⟩ := ms hr
 have wi : ∀ q, q < 2 ^ S.may.length → (o0 c.m c.v (gf S q) S.n = true ↔ dY c.m c.v S.n = true ∧ ∀ j, q.testBit j = true → j < S.may.length ∧ o0 c.m c.v (jf S j) S.n = true) := fun q hq => by
  rw [s8]
  refine and_congr_right fun _ => ⟨fun h j hj => ?_, fun h j _ hj => (h j hj).2⟩
  have hlt : j < S.may.length := by
   rcases Nat.lt_or_ge j S.may.length with k | k
   ·exact k
   ·rw [fZ.1 hq j k] at hj; cases hj
  exact ⟨hlt, h j hlt hj⟩
 have le : ∀ q : Nat, (∀ j, q.testBit j = true → (kB S c).testBit j = true) ↔ ∀ j, q.testBit j = true → j < S.may.length ∧ o0 c.m c.v (jf S j) S.n = true := fun q => by
  refine forall_congr' fun j => imp_congr_right fun _ => ?_
  exact gz _
 have out_lt : kB S c < 2 ^ S.may.length := qk S c _
 have prim : ∀ q : Nat, gK c.m c.v (gf S q) (nN S : Int) = true → o0 c.m c.v (gf S q) S.n = true := fun q hq => by rw [hn]; exact (fY.1 hq).1
 have sub : ∀ (q q' : Nat) (d : Cb), (∀ j, q.testBit j = true → q'.testBit j = true) → D0 (nN S) (gf S q') d → D0 (nN S) (gf S q) d := fun q q' d hq hw p hp hh => by
  have := hw p hp hh
  rw [iW] at this ⊢
  exact ⟨this.1, fun j hj hb => this.2 j hj (hq j hb)⟩
 rw [fC, gy]
 constructor
 ·rintro ⟨⟨_, _, hin⟩, hout, hp⟩
  rw [hn] at hp
  refine ⟨hp, fun q h3 h4 h5 hq => ?_⟩
  have h6 := ((wi q h4).1 (prim q hq)).2
  have h7 := (le q).2 h6
  rw [hout] at h7
  have : q = o := Nat.eq_of_testBit_eq fun j => by
   have h8 := congrArg (fun z => z.testBit j) h5
   simp only [Nat.testBit_and] at h8
   cases e1 : q.testBit j with
   | true => exact (h7 j e1).symm
   | false => rw [e1, Bool.false_and] at h8; exact h8
  omega
 ·rintro ⟨hp, hno⟩
  have hw := (wi o ho).1 (prim o hp)
  have hle := (le o).2 hw.2
  have hout : kB S c = o := by
   refine Decidable.byContradiction fun hne => ?_
   have hand : kB S c &&& o = o := Nat.eq_of_testBit_eq fun j => by
    rw [Nat.testBit_and]
    cases e : o.testBit j with
    | true => rw [hle j e]; rfl
    | false => rw [Bool.and_false]
   have hge : o ≤ kB S c := by rw [← hand]; exact Nat.and_le_left
   refine hno (kB S c) (by omega) out_lt hand ?_
   obtain ⟨g1, g2, g3⟩ := (fL h8).1 hp
   refine (fL h8).2 ⟨g1, ?_, fun i hi hb hq => g3 i hi hb (sub o _ _ hle hq)⟩
   have hwo : o0 c.m c.v (gf S (kB S c)) S.n = true := (wi _ out_lt).2 ⟨hw.1, fun j hj => (gz _).1 hj⟩
   have := f6.1 hwo
   have h9 := this.2
   unfold nN
   exact h9
  refine ⟨⟨hr, h1, hw.2⟩, hout, ?_⟩
  rw [hn]
  exact hp
theorem A5 (hr : dP S = true) : F0 S (2 ^ S.may.length) x ↔ ∃ r, r ∈ eR S ∧ x = Ae r := by
 obtain ⟨h8, hn, h4⟩ := ms hr
 have h16 := F4 h4
 have h256 := fT h8
 constructor
 ·rintro ⟨o, h1, h2, y, ⟨⟨c, hc, rfl⟩, hno⟩, rfl⟩
  refine ⟨⟨c, o⟩, (nT hr).2 ((Jp hr h1 h2).2 ⟨hc, fun p a b d hp => hno p a b d ⟨c, hp, rfl⟩⟩), ?_⟩
  unfold Ae
  rw [Nat.mod_eq_of_lt (show o < 16 by omega)]
 ·rintro ⟨⟨c, o⟩, hm, rfl⟩
  have hp := (nT hr).1 hm
  have ho : 0 < o ∧ o < 2 ^ S.may.length := by
   have h3 := (fC.1 hp).1
   exact ⟨(gy.1 h3).2.1, (oq h3).1⟩
  obtain ⟨g1, g2⟩ := (Jp hr ho.1 ho.2).1 hp
  refine ⟨o, ho.1, ho.2, qH c, ⟨⟨c, g1, rfl⟩, fun p a b d ⟨c', hc', e⟩ => ?_⟩, ?_⟩
  ·have r1 := ((fL h8).1 g1).1
   have r2 := ((fL h8).1 hc').1
   have := Br (by have := r1.m; omega) (by have := r2.m; omega) r1.v r2.v e
   rw [← this] at hc'
   exact g2 p a b d hc'
  ·unfold Ae
   rw [Nat.mod_eq_of_lt (show o < 16 by omega)]
end
theorem Wf.prefix {ns ns' : List Nd} (h : Wf ns') (hp : ns <+: ns') : Wf ns := by
 have hl := fX hp
 refine ⟨List.Nodup.sublist hp.sublist h.nd, fun i hi => ?_⟩
 have k := h.ok i (by omega)
 rw [su hp hi] at k
 obtain ⟨k1, k2, k3, k4, k5, k6⟩ := k
 exact ⟨k1, k2, k3, by rwa [gH hp (by omega)] at k4, by rwa [gH hp (by omega)] at k5, k6⟩
theorem Kz (o : Nat) : uM 0 [((o * 65536 : Nat) : Int)] ≤ 24 := Gv [((o * 65536 : Nat) : Int)]
def bF (S : Sp) : Nat := tC (nN S) + 2 * nN S * 3 ^ nN S
def bO (S : Sp) : Nat := 2 ^ S.may.length * bF S + 24 + rh (16 + S.may.length) * 3 ^ nN S + (16 + S.may.length) * 3 ^ nN S
structure MP (ns nsc : List Nd) (R : Nat) (S : Sp) (j : Nat) (ec : Int) (out : Nat) : Prop where
 v : out < nsc.length + 2
 pre : ns <+: nsc
 st : ∃ c, c ≤ (j - 1) * bO S ∧ uy ns nsc R c ec
 m : ec = 0 → M nsc out = F0 S j
structure Ot (nsc nsi : List Nd) (R : Nat) (S : Sp) (o j : Nat) (ec ei : Int) (f : Nat) : Prop where
 v : f < nsi.length + 2
 pre : nsc <+: nsi
 st : ec = 0 → ∃ c, c ≤ (j - o) * bF S ∧ uy nsc nsi R c ei
 err : ¬ ec = 0 → ei = ec
 m : ei = 0 → M nsi f = FS S o j
 crd : ei = 0 → (dQ nsi f).length ≤ 3 ^ nN S
section
variable {ns nsc nsi ns1 ns2 ns3 ns4 : List Nd} {R o j out f id idl idg idj ido lL lG lJ lO cG : Nat} {S : Sp} {ec ei e1 erL erG erJ erO : Int}
theorem Hr : MP ns ns R S 1 0 0 := ⟨by omega, List.prefix_refl _, ⟨0, Nat.zero_le _, uy.refl⟩, fun _ => by rw [P1]; exact fH fun x => ⟨fun h => Gm ns x h, fun h => h.elim⟩⟩
theorem IG (p : Jn nsc ns1 R ec e1 (nN S) 0 (gf S o) id) : Ot nsc ns1 R S o (o + 1) ec e1 id :=
 ⟨p.v, p.pre, fun z => ⟨_, by rw [Nat.sub_zero, show o + 1 - o = 1 by omega, Nat.one_mul]; exact Nat.le_add_right _ _, p.sta z⟩, p.err, fun z => by rw [QN]; exact p.m z, fun z => p.crd z⟩
theorem Lc (hr : dP S = true) (hw : Wf ns2) (h : Ot nsc nsi R S o j ec ei f) (hj : o < j) (hb : j &&& o = o) (p : Jn nsi ns1 R ei e1 (nN S) 0 (gf S j) id) (gL : jv ns1 ns2 R (sQ.cst ns1 f id) lL (sQ.res (M ns1 f) (M ns1 id)) idl erL) : Ot nsc ns2 R S o (j + 1) ec (io e1 erL) (jC e1 erL idl) := by
 obtain ⟨h8, _, _⟩ := ms hr
 have hw1 := hw.prefix gL.pre
 have hpl := fX p.pre
 have hv := h.v
 have cL : e1 = 0 → sQ.cst ns1 f id ≤ 2 * nN S * 3 ^ nN S := fun z1 => by
  have z0 := jN p.err z1
  have t1 : tp ns1 f ≤ 2 * nN S := ln.2 fun x hx => by
   have hx' : M ns1 f x := hx
   rw [iA p.pre h.v, h.m z0] at hx'
   exact zD h8 hx'.1
  have t2 : tp ns1 id ≤ 2 * nN S := ln.2 fun x hx => by
   have hx' : M ns1 id x := hx
   rw [p.m z1] at hx'
   exact zD h8 hx'
  refine Nat.le_trans (LJ hw1 Cd.endF (by omega) p.v t1 t2) (Nat.mul_le_mul (Nat.sub_le _ _) ?_)
  have := p.crd z1
  rw [Nat.sub_zero] at this
  exact Nat.le_trans (Nat.min_le_right _ _) this
 refine ⟨n4 gL.valid, (h.pre.trans p.pre).trans gL.pre, fun z => ?_, fun z => ?_, fun z => ?_, fun z => ?_⟩
 ·obtain ⟨c, hc, s⟩ := h.st z
  have s1 := s.step (c2 := tC (nN S - 0)) (fun z => p.sta z) (fun z => ⟨p.pre, p.err z⟩)
  refine ⟨_, ?_, s1.did gL (c2 := 2 * nN S * 3 ^ nN S) cL⟩
  rw [Nat.sub_zero, show j + 1 - o = (j - o) + 1 by omega, Nat.add_mul, Nat.one_mul]
  unfold bF at hc ⊢
  omega
 ·have h1 := h.err z
  have h2 := p.err (by rw [h1]; exact z)
  unfold io
  rw [if_neg (by rw [h2, h1]; exact z), h2, h1]
 ·obtain ⟨z1, z2⟩ := gW.1 z
  rw [kR z, QC hb hj, show M ns2 idl = sQ.res (M ns1 f) (M ns1 id) from fH (gL.ok z2).2.2, iA p.pre h.v, h.m (jN p.err z1), p.m z1]
  rfl
 ·obtain ⟨z1, z2⟩ := gW.1 z
  rw [kR z]
  have hg := gL.ok z2
  have hsub : ∀ x, x ∈ dQ ns2 idl → x ∈ dQ nsi f := fun x hx => by
   have hx' : M ns1 f x := ((hg.2.2 x).1 hx).1
   rw [iA p.pre h.v] at hx'
   exact hx'
  exact Nat.le_trans (HS hw hg.1 hsub) (h.crd (jN p.err z1))
theorem Kh (h : Ot nsc nsi R S o j ec ei f) (hb : ¬ j &&& o = o) : Ot nsc nsi R S o (j + 1) ec ei f :=
 ⟨h.v, h.pre, fun z => by obtain ⟨c, hc, s⟩ := h.st z; exact ⟨c, Nat.le_trans hc (Nat.mul_le_mul_right _ (by omega)), s⟩, h.err, fun z => by rw [Qq hb]; exact h.m z, h.crd⟩
theorem Le (hr : dP S = true) (hw : Wf ns3) (hcG : cG ≤ 24) (ho : MP ns nsc R S o ec out) (h1 : 1 ≤ o) (h16 : o < 16) (hom : o < 2 ^ S.may.length) (h : Ot nsc nsi R S o (2 ^ S.may.length) ec ei f)
  (gG : jv nsi ns1 R cG lG (bS [((o * 65536 : Nat) : Int)] 0) idg erG) (gJ : jv ns1 ns2 R (qa.cst ns1 f (jC ei erG idg)) lJ (qa.res (M ns1 f) (M ns1 (jC ei erG idg))) idj erJ)
  (gO : jv ns2 ns3 R (nI.cst ns2 out (jC (io ei erG) erJ idj)) lO (nI.res (M ns2 out) (M ns2 (jC (io ei erG) erJ idj))) ido erO) :
  MP ns ns3 R S (o + 1) (io (io (io ei erG) erJ) erO) (jC (io (io ei erG) erJ) erO ido) := by
 have p1 := fX h.pre
 have p2 := fX gG.pre
 have p3 := fX gJ.pre
 have hv := h.v
 have hov := ho.v
 have hw2 := hw.prefix gO.pre
 have hw1 := hw2.prefix gJ.pre
 have hg0 : erG = 0 → M ns1 idg = fun x => x = o * 65536 := fun zG => fH fun x => by
  refine ((gG.ok zG).2.2 x).trans ?_
  constructor
  ·rintro ⟨m, hm, e⟩
   rw [List.mem_singleton.1 hm, Int.toNat_natCast, x8] at e
   exact e
  ·rintro rfl
   exact ⟨_, List.mem_singleton.2 rfl, by rw [Int.toNat_natCast, x8]⟩
 have key : ∀ y, FS S o (2 ^ S.may.length) y → y ||| o * 65536 = y + o * 65536 := fun y hy => by
  have hlt := Fa hr hy
  have e := Nat.two_pow_add_eq_or_of_lt (i := 16) hlt o
  have e16 : (2 : Nat) ^ 16 = 65536 := rfl
  rw [e16] at e
  rw [Nat.or_comm, Nat.mul_comm, ← e, Nat.add_comm]
 have e16 : (2 : Nat) ^ (16 + S.may.length) = 65536 * 2 ^ S.may.length := by rw [Nat.pow_add]
 have big : ∀ y q, y < 65536 → q < 2 ^ S.may.length → y + q * 65536 < 2 ^ (16 + S.may.length) := fun y q hy hq => by
  rw [e16]
  have : (q + 1) * 65536 ≤ 65536 * 2 ^ S.may.length := by rw [Nat.mul_comm]; exact Nat.mul_le_mul_left _ hq
  omega
 have cJ : io ei erG = 0 → qa.cst ns1 f (jC ei erG idg) ≤ rh (16 + S.may.length) * 3 ^ nN S := fun z2 => by
  obtain ⟨z1, zG⟩ := gW.1 z2
  rw [kR z2]
  have t1 : tp ns1 f ≤ 16 + S.may.length := ln.2 fun x hx => by
   have hx' : M ns1 f x := hx
   rw [iA gG.pre h.v, h.m z1] at hx'
   have := big x 0 (Fa hr hx') (by omega)
   omega
  have t2 : tp ns1 idg ≤ 16 + S.may.length := ln.2 fun x hx => by
   have hx' : M ns1 idg x := hx
   rw [hg0 zG] at hx'
   have := big 0 o (by omega) hom
   omega
  have l1 : (dQ ns1 f).length ≤ 3 ^ nN S := by rw [gC gG.pre h.v]; exact h.crd z1
  have l2 : (dQ ns1 idg).length ≤ 1 := iY (l2 := [o * 65536]) (jo hw1 idg (gG.ok zG).1) fun x hx => by
   have hx' : M ns1 idg x := hx
   rw [hg0 zG] at hx'
   exact List.mem_singleton.2 hx'
  refine Nat.le_trans (Qi hw1 (by omega) (gG.ok zG).1 t1 t2) (Nat.mul_le_mul (pP (Nat.sub_le _ _)) ?_)
  exact Nat.le_trans (Nat.mul_le_mul l1 l2) (Nat.le_of_eq (Nat.mul_one _))
 have hj0 : io (io ei erG) erJ = 0 → M ns2 idj = fun x => ∃ y, FS S o (2 ^ S.may.length) y ∧ x = y + o * 65536 := fun z3 => fH fun x => by
  obtain ⟨z2, zJ⟩ := gW.1 z3
  obtain ⟨z1, zG⟩ := gW.1 z2
  refine ((gJ.ok zJ).2.2 x).trans ?_
  rw [kR z2, hg0 zG, iA gG.pre h.v, h.m z1]
  show mH _ _ x ↔ _
  constructor
  ·rintro ⟨y, b, hy, rfl, rfl⟩
   exact ⟨y, hy, key y hy⟩
  ·rintro ⟨y, hy, rfl⟩
   exact ⟨y, _, hy, rfl, (key y hy).symm⟩
 have cO : io (io ei erG) erJ = 0 → nI.cst ns2 out (jC (io ei erG) erJ idj) ≤ (16 + S.may.length) * 3 ^ nN S := fun z3 => by
  obtain ⟨z2, zJ⟩ := gW.1 z3
  obtain ⟨z1, zG⟩ := gW.1 z2
  have zc := jN h.err z1
  rw [kR z3]
  have t1 : tp ns2 out ≤ 16 + S.may.length := ln.2 fun x hx => by
   have hx' : M ns2 out x := hx
   rw [iA ((h.pre.trans gG.pre).trans gJ.pre) ho.v, ho.m zc] at hx'
   obtain ⟨q, q1, q2, y, hy, rfl⟩ := hx'
   exact big y q (Fa hr hy) (by omega)
  have t2 : tp ns2 idj ≤ 16 + S.may.length := ln.2 fun x hx => by
   have hx' : M ns2 idj x := hx
   rw [hj0 z3] at hx'
   obtain ⟨y, hy, rfl⟩ := hx'
   exact big y o (Fa hr hy) hom
  refine Nat.le_trans (LJ hw2 Ce.endF (by omega) (gJ.ok zJ).1 t1 t2) (Nat.mul_le_mul (Nat.sub_le _ _) (Nat.le_trans (Nat.min_le_right _ _) ?_))
  have := iY (l2 := (dQ nsi f).map fun y => y + o * 65536) (jo hw2 idj (gJ.ok zJ).1) fun x hx => by
   have hx' : M ns2 idj x := hx
   rw [hj0 z3] at hx'
   obtain ⟨y, hy, rfl⟩ := hx'
   refine List.mem_map.2 ⟨y, ?_, rfl⟩
   show M nsi f y
   rw [h.m z1]; exact hy
  rw [List.length_map] at this
  exact Nat.le_trans this (h.crd z1)
 refine ⟨n4 gO.valid, ho.pre.trans (((h.pre.trans gG.pre).trans gJ.pre).trans gO.pre), ?_, fun z => fH fun x => ?_⟩
 ·obtain ⟨c, hc, s⟩ := ho.st
  have s0 : ∃ c', c' ≤ (o - 1) * bO S + 2 ^ S.may.length * bF S ∧ uy ns nsi R c' ei := by
   by_cases z : ec = 0
   ·obtain ⟨c2, hc2, s2⟩ := h.st z
    exact ⟨_, Nat.add_le_add hc (Nat.le_trans hc2 (Nat.mul_le_mul_right _ (Nat.sub_le _ _))), s.step (fun _ => s2) (fun q => absurd z q)⟩
   ·exact ⟨_, by omega, s.step (c2 := 0) (fun q => absurd q z) (fun _ => ⟨h.pre, h.err z⟩)⟩
  obtain ⟨c0, hc0, s0⟩ := s0
  have s1 := s0.did gG (c2 := 24) fun _ => hcG
  have s2 := s1.did gJ (c2 := _) cJ
  refine ⟨_, ?_, s2.did gO (c2 := _) cO⟩
  have e : (o + 1 - 1) * bO S = (o - 1) * bO S + bO S := by rw [show o + 1 - 1 = (o - 1) + 1 by omega, Nat.add_mul, Nat.one_mul]
  rw [e]
  unfold bO at hc0 ⊢
  omega
 ·obtain ⟨z3, zO⟩ := gW.1 z
  obtain ⟨z2, zJ⟩ := gW.1 z3
  obtain ⟨z1, zG⟩ := gW.1 z2
  have zc := jN h.err z1
  have hj := hj0 z3
  rw [kR z, OK h1]
  refine ((gO.ok zO).2.2 x).trans ?_
  show (M ns2 out x ∨ M ns2 (jC (io ei erG) erJ idj) x) ↔ _
  rw [kR z3, hj, iA ((h.pre.trans gG.pre).trans gJ.pre) ho.v, ho.m zc]
end
theorem OX {o : Nat} (h : o < 16) : yP [((o * 65536 : Nat) : Int)] = true := qn.2 fun m hm => by
 rw [List.mem_singleton.1 hm]
 omega
def Pb (R : Nat) (ns : List Nd) (S : Sp) (ns' : List Nd) (id : Nat) (er : Int) : Prop := MP ns ns' R S (2 ^ S.may.length) er id ∧ (¬ er = 0 → id = 0)
theorem PI {ns ns' : List Nd} {R id : Nat} {S : Sp} {e : Int} (h : MP ns ns' R S (2 ^ S.may.length) e id) (hz : e = 0) : Pb R ns S ns' id 0 := by
 subst hz
 exact ⟨h, fun z => absurd rfl z⟩
theorem JW {ns ns' : List Nd} {R id : Nat} {S : Sp} {e : Int} (h : MP ns ns' R S (2 ^ S.may.length) e id) (hz : ¬ e = 0) : Pb R ns S ns' 0 e :=
 ⟨⟨by omega, h.pre, h.st, fun z => absurd z hz⟩, fun _ => rfl⟩
theorem NC {ns ns' : List Nd} {R id : Nat} {S : Sp} {e : Int} (h : Pb R ns S ns' id e) : e = 0 ∨ e = 5 := by
 obtain ⟨c, _, s⟩ := h.1.st
 exact s.ers
end
section
open Go Go.RowKit
theorem Ol72_0 {p : Prop} (h : p := by first | omega | (simp only [cV, cW, cX, da]; omega)) : p := h
theorem iS : fp Tryz.prog 142 = true := by kernel_rfl
theorem LM : eL Tryz.prog 144 = some (.agg #[.pointer none, .int .i64 0]) := by kernel_rfl
theorem qr : (Tryz.prog.info? 30).map (·.size) = some 1 := by kernel_rfl
theorem w4 {f : Nat → Value} {w : World} {d : Option Nat} {ty : TypeId} {ps : String} {af : Array Edge} {g : Option (Nat × Bool)} {x0 : Operand} {c0_0 : Value} (h0 : dO f x0 = c0_0) (k0 : c0_0.cells = #[c0_0]) :
    (execOp (dO f) ⟨d, .build 144 #[(0, x0)], ty, ps, af, g⟩).run Tryz.prog w = .ok (.value (.agg #[c0_0, .int .i64 0])) w := by
  obtain ⟨i0, hi0, hz0⟩ := Option.bind_eq_some_iff.1 (show (Tryz.prog.info? 144).bind (·.zero) = _ from LM)
  obtain ⟨j30, hj30, hs30⟩ := Option.map_eq_some_iff.1 qr
  obtain ⟨j102, hj102, hs102⟩ := Option.map_eq_some_iff.1 wm
  simp [execOp, h0, k0, Instr.build, zeroValue, typeInfo, sizeOf, hi0, hz0, run_underlying Tryz.underlying144, Instr.fill, eW, hj30, hs30, hj102, hs102]
theorem LI : eL Tryz.prog 142 = some (.pointer none) := by kernel_rfl
theorem EU : dC Tryz.prog 100 = true := by kernel_rfl
set_option maxRecDepth 10000 in
theorem pH (w0 : World) (ba bm bz bc R : Nat) (ns : List Nd) (e : Int) (S : Sp) (onV mayV : Value) (o ball bs bp : Nat) (w : World) (hB : Below w0.heap.size w0 w) (hz : At w bz #[.pointer (some ⟨ba, 0, none⟩)] 141) (hD : fD 163 188 w0.heap.size ba bm R w ns) (hc : At w bc #[.pointer (some ⟨bz, 0, none⟩), .int .i64 e] 144) (loc : w0.heap.size ≤ bc) (hr : dP S = true) (hon : dM gp 4 w0 onV S.on) (hmay : dM gp 4 w0 mayV S.may) (hal : At w ball #[wv (fj (nN S)) 0, wv (fj (nN S)) 1, wv (fj (nN S)) 2, wv (fj (nN S)) 3] 49) (hsp : At w bs #[.int .i64 ((nN S : Nat) : Int), onV, mayV] 24) (hbp : At w bp #[.pointer (some ⟨bc, 0, none⟩)] 142) (ho : o < 16) :
    qJ Tryz.prog 100 #[.int .i64 (o : Int), .pointer (some ⟨ball, 0, none⟩), .pointer (some ⟨bs, 0, none⟩), .pointer (some ⟨bp, 0, none⟩)] w fun v w' => ∃ (ns' : List Nd) (e' : Int) (id : Nat), v = .int .i64 (id : Int) ∧ Dc 188 144 w0.heap.size bc bz ba bm w w' ∧ At w' bz #[.pointer (some ⟨ba, 0, none⟩)] 141 ∧ fD 163 188 w0.heap.size ba bm R w' ns' ∧ At w' bc #[.pointer (some ⟨bz, 0, none⟩), .int .i64 e'] 144 ∧ Jn ns ns' R e e' (nN S) 0 (gf S o) id := by
 refine eX (n := 33) Tryz.func100 rfl rfl (Nat.le_of_ble_eq_true rfl) ?_
 have hX : Dc 188 144 w0.heap.size bc bz ba bm w w := Dc.refl
 have hwf := hD.wf
 have hroom := hD.room
 have htop := hD.top
 obtain ⟨h8, hSn, B⟩ := ms hr
 have Q := F4 B
 refine Zr <| Zw (.int .i64 0) rfl <| cT <| Zr <| Zv (db rfl df rfl hal) <| Zy (dt eM rfl fun r W5 p h a => ?_)
 have q := ZO p hB
 have s := Zn p hal.lt
 have t : w.heap.size ≤ r := p ▸ hX.dx.size
 clear p
 replace hz := h.at hz
 replace hc := h.at hc
 replace hD := fD.ext h hD
 replace hX := Dc.trans hX (Dc.ext h)
 replace hal := h.at hal
 replace hsp := h.at hsp
 replace hbp := h.at hbp
 replace hB := Ze hB h
 replace a : At W5 r #[wv 0 0, wv 0 1, wv 0 2, wv 0 3] 49 := a
 refine Zy (dg rfl rfl df rfl a rfl rfl fun W8 i C => ?_)
 replace hz := At.grownAt hz a i Dd
 replace hc := At.grownAt hc a i Dd
 replace hD := fD.grownAt hD a i Dd Dd
 replace hX := Dc.new hX t q i a Dd
 replace hal := At.grownNe hal s i
 replace hsp := At.grownAt hsp a i Dd
 replace hbp := At.grownAt hbp a i Dd
 replace hB := Zg hB i q
 replace a := C
 refine cT <| cY fun T D => Zr <| Zf rfl fU <| ZL mayV rfl eE hsp rfl <| Zv (dA (v := mayV) rfl (Below.slT hB hmay) ea) <| Zw (.int .i64 0) rfl <| cT <| c7 ?_
 refine dw (σ := (Nat)) [7, 8, 13, 14, 15, 16, 17, 18, 19, 20, 21, 22, 23, 24, 25, 26] (fun k => [(13, .int .i64 (k : Int))]) (fun k W => (At W bz _ 141) ∧ (At W bc _ 144) ∧ (fD 163 188 w0.heap.size ba bm R W ns) ∧ (Dc 188 144 w0.heap.size bc bz ba bm w W) ∧ (At W ball _ 49) ∧ (At W bs _ 24) ∧ (At W bp _ 142) ∧ (Below w0.heap.size w0 W) ∧ (At W r #[wv (kH S o k) 0, wv (kH S o k) 1, wv (kH S o k) 2, wv (kH S o k) 3] 49) ∧ (k ≤ S.may.length) ∧ (True)) (fun k => S.may.length - k) (0) ⟨rfl, trivial⟩ ⟨hz, hc, hD, hX, hal, hsp, hbp, hB, a, (Nat.zero_le _), trivial⟩ ?_
 clear hz hc hD hX hal hsp hbp hB a
 rintro k U V ⟨hz, hc, hD, hX, hal, hsp, hbp, hB, a, hk, _⟩ X u
 refine Zr <| Zv (dL rfl rfl) <| cT <| cY fun Y E => ZQ rfl (fun F => ?_) fun F => ?_
 refine c9 <| E _ _ <| cY fun Z x => c7 <| Zr <| Zi rfl <| Zv (dJ (v := mayV) rfl (Below.slT hB hmay) rfl ea Om Ol72_0) <| Zv (fq rfl df (dM.cell (Below.slT hB hmay) dG 0 Om Ol72_0 0 rfl) (dM.cell (Below.slT hB hmay) dG 0 Om Ol72_0 1 rfl) (dM.cell (Below.slT hB hmay) dG 0 Om Ol72_0 2 rfl) (dM.cell (Below.slT hB hmay) dG 0 Om Ol72_0 3 rfl)) <| Zy (dt eM rfl fun y G l d b => ?_)
 have z := ZO l hB
 have H := Zn l hal.lt
 have A := Zn l a.lt
 have I : w.heap.size ≤ y := l ▸ hX.dx.size
 clear l
 replace hz := d.at hz
 replace hc := d.at hc
 replace hD := fD.ext d hD
 replace hX := Dc.trans hX (Dc.ext d)
 replace hal := d.at hal
 replace hsp := d.at hsp
 replace hbp := d.at hbp
 replace hB := Ze hB d
 replace a := d.at a
 replace b : At G y #[wv 0 0, wv 0 1, wv 0 2, wv 0 3] 49 := b
 refine Zi rfl <| Zy (dg rfl rfl df rfl b rfl rfl fun aa f J => ?_)
 replace hz := At.grownAt hz b f Dd
 replace hc := At.grownAt hc b f Dd
 replace hD := fD.grownAt hD b f Dd Dd
 replace hX := Dc.new hX I z f b Dd
 replace hal := At.grownNe hal H f
 replace hsp := At.grownAt hsp b f Dd
 replace hbp := At.grownAt hbp b f Dd
 replace hB := Zg hB f z
 replace a := At.grownNe a A f
 replace b := J
 refine cT <| Zr <| Zi rfl <| Zi rfl <| Zv (sL rfl rfl Om (by simp only [IntKind.bits]; omega)) <| Zv (nE (n := 1) rfl rfl rfl (by simp only [d5]; have := Nat.div_le_self o (2 ^ ((k : Nat) : Int).toNat); omega) Dd) <| Zv (eB rfl rfl) <| cT <| ZQ rfl (fun m => ?_) fun m => ?_
 refine cZ <| Zv (db rfl df rfl a) <| Zv (db rfl df rfl b) <| ZC (vs := [.agg #[_, _, _, _], .agg #[_, _, _, _]]) tt (qs _ _ _) rfl fun ab ac c K => ?_
 replace hz := c.at hz
 replace hc := c.at hc
 replace hD := fD.ext c hD
 replace hX := Dc.trans hX (Dc.ext c)
 replace hal := c.at hal
 replace hsp := c.at hsp
 replace hbp := c.at hbp
 replace hB := Ze hB c
 replace a := c.at a
 replace b := c.at b
 obtain rfl := K
 refine Zy (dg rfl rfl df rfl a rfl rfl fun ad g L => ?_)
 replace hz := At.grownAt hz a g Dd
 replace hc := At.grownAt hc a g Dd
 replace hD := fD.grownAt hD a g Dd Dd
 replace hX := Dc.new hX t q g a Dd
 replace hal := At.grownNe hal s g
 replace hsp := At.grownAt hsp a g Dd
 replace hbp := At.grownAt hbp a g Dd
 replace hB := Zg hB g q
 replace b := At.grownNe b (Ne.symm A) g
 replace a := L
 refine cT <| x _ _ <| cZ <| Zv (dp rfl rfl Om Om) <| Zi rfl <| cT ?_
 exact u _ _ (k + 1) Za ⟨rfl, trivial⟩ ⟨hz, hc, hD, hX, hal, hsp, hbp, hB, (by first | (rw [← DO (uL m)]; exact a) | (rw [← D3 (ur m)]; exact a)), Om, trivial⟩ Zo
 refine c9 <| x _ _ <| cZ <| Zv (dp rfl rfl Om Om) <| Zi rfl <| cT ?_
 exact u _ _ (k + 1) Za ⟨rfl, trivial⟩ ⟨hz, hc, hD, hX, hal, hsp, hbp, hB, (by first | (rw [← DO (uL m)]; exact a) | (rw [← D3 (ur m)]; exact a)), Om, trivial⟩ Zo
 refine dr <| D _ _ ?_
 obtain rfl : k = S.may.length := by omega
 refine Zr <| ZL (.pointer (some ⟨bc, 0, none⟩)) rfl iS hbp rfl <| Zv (db rfl df rfl a) <| Zv (db rfl df rfl hal) <| Zf rfl fQ <| Zl rfl dB hsp rfl <| ZH (vs := [.pointer (some ⟨bc, 0, none⟩), .agg #[_, _, _, _], .agg #[_, _, _, _], .int .i64 _, .int .i64 0]) yx (Mq (nN S + 1) w0.heap.size ba bm bz bc R ns e (gf S o) (nN S) 0 _ (Below.size hB) hz hD hc loc h8 (H0 hr o) Om) rfl fun ae af M => ?_
 obtain ⟨ag, e8_5, ah, rfl, j, N, hD8_5, O, P⟩ := M
 replace hX := Dc.trans hX j
 replace hal := At.dc hD hc j hal Dd Dd Dd
 replace hsp := At.dc hD hc j hsp Dd Dd Dd
 replace hbp := At.dc hD hc j hbp Dd Dd Dd
 replace hB := Below.dx hB (Nat.le_refl _) (Nat.le_refl _) j.dx
 replace a := At.dc hD hc j a Dd Dd Dd
 replace hz := N
 replace hD := hD8_5
 replace hc := O
 clear j
 refine Zi rfl <| cT <| Zt <| dE (v := .int .i64 _) rfl ?_
 exact ⟨_, _, _, rfl, hX, hz, hD, hc, P⟩
set_option maxRecDepth 20000 in
theorem yz (w0 : World) (ba bm bz R : Nat) (ns : List Nd) (S : Sp) (onV mayV : Value) (w : World) (hB : Below w0.heap.size w0 w) (hz : At w bz #[.pointer (some ⟨ba, 0, none⟩)] 141) (hD : fD 163 188 w0.heap.size ba bm R w ns) (hr : dP S = true) (hon : dM gp 4 w0 onV S.on) (hmay : dM gp 4 w0 mayV S.may) :
    qJ Tryz.prog 66 #[.pointer (some ⟨bz, 0, none⟩), .agg #[.int .i64 S.n, onV, mayV]] w fun v w' => PW 163 188 w0.heap.size ba bm R w ns (Pb R ns S) v w' := by
 refine eX (n := 114) Tryz.func66 rfl rfl (Nat.le_of_ble_eq_true rfl) ?_
 have hX : Dx 188 w0.heap.size [ba, bm] w w := Dx.refl
 have hwf := hD.wf
 have hroom := hD.room
 have htop := hD.top
 obtain ⟨h8, hSn, aI⟩ := ms hr
 have bA := F4 aI
 have bB := Nat.two_pow_pos S.may.length
 refine Zr <| Zy (dU (c := #[_, _, _]) rfl rfl fun s W3 ae ac g => ?_)
 have bC := ZO ae hB
 have bD : w.heap.size ≤ s := ae ▸ hX.size
 clear ae
 replace hz := ac.at hz
 replace hD := fD.ext ac hD
 replace hX := Dx.trans hX (Dx.ext ac)
 replace hB := Ze hB ac
 refine Zw (.int .i64 0) rfl <| Zw (.int .i64 0) rfl <| cT <| cY fun K6 aJ => Zr <| Zp rfl <| Zv (pu rfl rfl Tryz.underlying102) <| Zw (.bool false) rfl <| Zv (db rfl eV rfl g) <| ZC (vs := [.agg #[_, _, _]]) q5 (iN S _ _  _ (Below.slT hB hon) (Below.slT hB hmay) ) rfl fun bE bF U aK => ?_
 replace hz := U.at hz
 replace hD := fD.ext U hD
 replace hX := Dx.trans hX (Dx.ext U)
 replace hB := Ze hB U
 replace g := U.at g
 obtain rfl := aK
 refine Zv (fy rfl) <| Zb rfl <| cT <| ZQ rfl (fun aB => ?_) fun aB => ?_
 exact absurd (IH aB) (by rw [hr]; decide)
 refine c9 <| aJ _ _ <| Zr <| Zp rfl <| Zv (w4 (h0 := rfl) (k0 := rfl) (c0_0 := .pointer (some ⟨bz, 0, none⟩))) <| Zy (dU (c := #[_, _]) rfl rfl fun k bG af V d => ?_)
 have l := ZO af hB
 have N : w.heap.size ≤ k := af ▸ hX.size
 clear af
 replace hz := V.at hz
 replace hD := fD.ext V hD
 replace hX := Dx.trans hX (Dx.ext V)
 replace hB := Ze hB V
 replace g := V.at g
 refine Zy (dt LI rfl fun t bH ag O e => ?_)
 have aC := ZO ag hB
 have aL : w.heap.size ≤ t := ag ▸ hX.size
 clear ag
 replace hz := O.at hz
 replace hD := fD.ext O hD
 replace hX := Dx.trans hX (Dx.ext O)
 replace hB := Ze hB O
 replace g := O.at g
 replace d := O.at d
 refine Zy (eC (v := .pointer (some ⟨k, 0, none⟩)) rfl rfl iS rfl e (by exact Nat.zero_lt_one) fun bI P aM => ?_)
 replace hz := At.grownAt hz e P Dd
 replace hD := fD.grownAt hD e P Dd Dd
 replace hX := Dx.new1 hX aL (Dx.grown P (List.mem_cons_self ..) aC)
 replace hB := Zg hB P aC
 replace g := At.grownAt g e P Dd
 replace d := At.grownAt d e P Dd
 replace e := aM
 replace e : At _ _ #[_] _ := e
 refine cT ?_
 rw [hSn] at g
 refine Zr <| Zf rfl fQ <| Zl rfl dB g rfl <| ZC wF (nR ((nN S : Nat) : Int) _) rfl fun bJ bK I aN => ?_
 replace hz := I.at hz
 replace hD := fD.ext I hD
 replace hX := Dx.trans hX (Dx.ext I)
 replace hB := Ze hB I
 replace g := I.at g
 replace d := I.at d
 replace e := I.at e
 obtain rfl := KY h8 aN
 refine Zw (.tuple #[.agg #[_, _, _, _], .int .i64 0]) rfl <| Zv (dI rfl) <| Zv (dK rfl) <| Zy (dt eM rfl fun r aO ah J i => ?_)
 have aD := ZO ah hB
 have aP : w.heap.size ≤ r := ah ▸ hX.size
 clear ah
 replace hz := J.at hz
 replace hD := fD.ext J hD
 replace hX := Dx.trans hX (Dx.ext J)
 replace hB := Ze hB J
 replace g := J.at g
 replace d := J.at d
 replace e := J.at e
 replace i : At aO r #[wv 0 0, wv 0 1, wv 0 2, wv 0 3] 49 := i
 refine Zy (dg rfl rfl df rfl i rfl rfl fun bL K aQ => ?_)
 replace hz := At.grownAt hz i K Dd
 replace hD := fD.grownAt hD i K Dd Dd
 replace hX := Dx.new1 hX aP (Dx.grown K (List.mem_cons_self ..) aD)
 replace hB := Zg hB K aD
 replace g := At.grownAt g i K Dd
 replace d := At.grownAt d i K Dd
 replace e := At.grownAt e i K Dd
 replace i := aQ
 refine Zw (.int .i64 0) rfl <| cT <| Zr <| Zw (.int .i64 0) rfl <| cT <| Zr <| Zv (gV (vs := #[.pointer (some ⟨r, 0, none⟩), .pointer (some ⟨s, 0, none⟩), .pointer (some ⟨t, 0, none⟩)]) (by simp only [List.map_toArray, List.map_cons, List.map_nil]; rfl)) <| Zw (.func (.func 100) #[] #[.pointer (some ⟨r, 0, none⟩), .pointer (some ⟨s, 0, none⟩), .pointer (some ⟨t, 0, none⟩)]) rfl <| cT <| cY fun bM aR => Zr <| Zw (.int .i64 1) rfl <| cT <| c7 ?_
 refine dw (σ := (Nat) × (Nat) × (List Nd) × (Int)) [9, 11, 12, 13, 14, 32, 33, 34, 35, 36, 37, 38, 39, 40, 41, 42, 43, 44, 45, 46, 47, 48, 49, 50, 51, 52, 53, 54, 55, 56, 57, 58, 59, 60, 61, 62, 63, 64, 65, 66, 67, 68, 69, 70, 71, 72, 73, 74, 75, 76, 77, 78, 79, 80, 81, 82, 83, 84, 85, 86, 87, 88, 89, 90, 91, 92, 93, 94, 95, 96, 97, 98, 99, 100, 101, 102, 103] (fun (o, out, nsc, ec) => [(11, .int .i64 (o : Int)), (9, .int .i64 (out : Int))]) (fun sg W => match sg with | (o, out, nsc, ec) => (At W bz _ 141) ∧ (Dx 188 w0.heap.size [ba, bm] w W) ∧ (Below w0.heap.size w0 W) ∧ (At W s _ 24) ∧ (At W t _ 142) ∧ (At W r _ 49) ∧ (fD 163 188 w0.heap.size ba bm R W nsc) ∧ (At W k #[.pointer (some ⟨bz, 0, none⟩), .int .i64 ec] 144) ∧ (1 ≤ o ∧ o ≤ 2 ^ S.may.length) ∧ (MP ns nsc R S o ec out) ∧ (True)) (fun (o, out, nsc, ec) => 2 ^ S.may.length - o) ((1, 0, ns, 0)) ⟨rfl, rfl, trivial⟩ ⟨hz, hX, hB, g, e, i, hD, d, Om, Hr, trivial⟩ ?_
 clear hz hD hX hB g d e i
 rintro ⟨o, out, nsc, ec⟩ bN bO ⟨hz, hX, hB, g, e, i, hD, d, hoo, halw, _⟩ bP aS
 refine cY fun bQ aT => Zr <| Zi rfl <| Zf rfl fU <| ZL mayV rfl eE g rfl <| Zv (dA (v := mayV) rfl (Below.slT hB hmay) ea) <| Zv (jB (m := 1) rfl rfl Om (by simp only [IntKind.bits]; omega) (by exact rO _ _ (by simp only [lN]; omega))) <| Zv (dL rfl rfl) <| cT <| ZQ rfl (fun X => ?_) fun X => ?_
 refine c9 <| aT _ _ <| cY fun bR aU => c7 ?_
 have hol : o < 16 := by simp only [Nat.one_mul, Int.toNat_natCast] at X; omega
 have hom : o < 2 ^ S.may.length := by simp only [Nat.one_mul, Int.toNat_natCast] at X; omega
 have hwo := halw.v
 refine Zr <| Zw (.func (.func 100) #[] #[.pointer (some ⟨r, 0, none⟩), .pointer (some ⟨s, 0, none⟩), .pointer (some ⟨t, 0, none⟩)]) rfl <| Zi rfl ?_
 refine mG (dd := some 42) rfl rfl rfl (jV (q := 100) (first := #[]) (cap := #[.pointer (some ⟨r, 0, none⟩), .pointer (some ⟨s, 0, none⟩), .pointer (some ⟨t, 0, none⟩)]) (vs := #[.int .i64 _, .pointer (some ⟨r, 0, none⟩), .pointer (some ⟨s, 0, none⟩), .pointer (some ⟨t, 0, none⟩)]) rfl EU (by simp only [List.map_toArray, List.map_cons, List.map_nil, List.append_toArray, List.nil_append, List.cons_append]; rfl)) (pH w0 ba bm bz k R nsc ec S onV mayV o _ _ _ _ hB hz hD d l hr hon hmay i g e Om) (fun bS bT aV => ?_)
 obtain ⟨aW, e10_2, aX, rfl, Q, aY, hD10_2, aZ, a0⟩ := aV
 replace hX := Dx.new1 hX N Q.dx
 replace hB := Below.dx hB (Nat.le_refl _) (Nat.le_refl _) Q.dx
 replace g := At.dc hD d Q g Dd Dd Dd
 replace e := At.dc hD d Q e Dd Dd Dd
 replace i := At.dc hD d Q i Dd Dd Dd
 replace hz := aY
 replace hD := hD10_2
 replace d := aZ
 clear Q
 refine Zi rfl <| cT <| cY fun bU a1 => Zr <| Zi rfl <| Zv (dp rfl rfl Om Om) <| Zi rfl <| cT <| c7 ?_
 refine dw (σ := (Nat) × (Nat) × (List Nd) × (Int)) [12, 13, 45, 46, 47, 48, 49, 50, 51, 52, 53, 54, 55, 56, 57, 58, 59, 60, 61, 62, 63, 64, 65, 66, 67, 68, 69, 70] (fun (j, f, nsi, ei) => [(13, .int .i64 (j : Int)), (12, .int .i64 (f : Int))]) (fun sg W => match sg with | (j, f, nsi, ei) => (At W bz _ 141) ∧ (Dx 188 w0.heap.size [ba, bm] w W) ∧ (Below w0.heap.size w0 W) ∧ (At W s _ 24) ∧ (At W t _ 142) ∧ (At W r _ 49) ∧ (fD 163 188 w0.heap.size ba bm R W nsi) ∧ (At W k #[.pointer (some ⟨bz, 0, none⟩), .int .i64 ei] 144) ∧ (o < j ∧ j ≤ 2 ^ S.may.length) ∧ (Ot nsc nsi R S o j ec ei f) ∧ (True)) (fun (j, f, nsi, ei) => 2 ^ S.may.length - j) ((o + 1, aX, aW, e10_2)) ⟨rfl, rfl, trivial⟩ ⟨hz, hX, hB, g, e, i, hD, d, (by simp only [Nat.one_mul, Int.toNat_natCast] at X; omega), (IG a0), trivial⟩ ?_
 clear hz hX hB g e i hD d
 rintro ⟨j, f, nsi, ei⟩ bV bW ⟨hz, hX, hB, g, e, i, hD, d, hjj, hfw, _⟩ bX aE
 refine cY fun bY a2 => Zr <| Zi rfl <| Zf rfl fU <| ZL mayV rfl eE g rfl <| Zv (dA (v := mayV) rfl (Below.slT hB hmay) ea) <| Zv (jB (m := 1) rfl rfl Om (by simp only [IntKind.bits]; omega) (by exact rO _ _ (by simp only [lN]; omega))) <| Zv (dL rfl rfl) <| cT <| ZQ rfl (fun ai => ?_) fun ai => ?_
 refine c9 <| a2 _ _ <| cY fun bZ aF => c7 ?_
 have hjp : j < 2 ^ S.may.length := by simp only [Nat.one_mul, Int.toNat_natCast] at ai; omega
 refine Zr <| Zi rfl <| Zi rfl <| Zv (nE (n := _) rfl rfl rfl (by first | assumption | (simp only [d5]; omega) | (simp only [d5]; decide)) (by first | assumption | (simp only [d5]; omega) | (simp only [d5]; decide))) <| Zi rfl <| Zv (eB rfl rfl) <| cT <| ZQ rfl (fun aj => ?_) fun aj => ?_
 refine gx (fun a b => Dc 188 144 w0.heap.size k bz ba bm a b) im (fun ak z => ?_)
 replace hz := z.at hz
 replace hX := Dx.trans hX (Dx.ext z)
 replace hB := Ze hB z
 replace g := z.at g
 replace e := z.at e
 replace i := z.at i
 replace hD := fD.ext z hD
 replace d := z.at d
 have hwk0 : Wc 144 k bz ak := ⟨_, d⟩
 have hS : Dc 188 144 w0.heap.size k bz ba bm ak ak := Dc.refl
 refine Tk 0 rfl (fun _ hq => dk (v := .pointer (some ⟨k, 0, none⟩)) rfl iS (At.cell (At.dc hD d hq e Dd Dd Dd) rfl)) hS <| Tk 1 rfl (fun _ hq => dk (v := .pointer (some ⟨k, 0, none⟩)) rfl iS (At.cell (At.dc hD d hq e Dd Dd Dd) rfl)) hS <| Tc 2 rfl rfl hS <| Tf 3 rfl rfl jh hS <| Tk 4 rfl (fun _ hq => dk (v := .pointer (some ⟨bz, 0, none⟩)) rfl ii (Wc.c0 (Dc.wk hq hwk0))) hS <| Ti 5 rfl rfl hS <| Tw 6 (.func (.func 100) #[] #[.pointer (some ⟨r, 0, none⟩), .pointer (some ⟨s, 0, none⟩), .pointer (some ⟨t, 0, none⟩)]) rfl rfl hS <| Ti 7 rfl rfl hS <| To 8 rfl (Yd.callG (jV (q := 100) (first := #[]) (cap := #[.pointer (some ⟨r, 0, none⟩), .pointer (some ⟨s, 0, none⟩), .pointer (some ⟨t, 0, none⟩)]) (vs := #[.int .i64 _, .pointer (some ⟨r, 0, none⟩), .pointer (some ⟨s, 0, none⟩), .pointer (some ⟨t, 0, none⟩)]) rfl EU (by simp only [List.map_toArray, List.map_cons, List.map_nil, List.append_toArray, List.nil_append, List.cons_append]; rfl)) (pH w0 ba bm bz k R nsi ei S onV mayV j _ _ _ _ hB hz hD d l hr hon hmay i g e Om) fun b0 b1 al => ⟨.inl (Dc.trans hS ((by obtain ⟨_, _, _, _, h, _⟩ := al; exact h))), ?_⟩)
 replace hS := Dc.trans hS ((by obtain ⟨_, _, _, _, h, _⟩ := al; exact h))
 obtain ⟨a3, e15_8, a4, rfl, T, a5, hD15_8, a6, ao⟩ := al
 replace hX := Dx.new1 hX N T.dx
 replace hB := Below.dx hB (Nat.le_refl _) (Nat.le_refl _) T.dx
 replace g := At.dc hD d T g Dd Dd Dd
 replace e := At.dc hD d T e Dd Dd Dd
 replace i := At.dc hD d T i Dd Dd Dd
 replace hz := a5
 replace hD := hD15_8
 replace d := a6
 clear T
 have hwa := hD.wf
 have hla := fX ao.pre
 have hwi := hfw.v
 refine To 9 rfl (TG DL (m6 w0.heap.size ba bm bz R a3 f a4 _ (Below.size hB) hz hD Om ao.v) rfl fun b2 b3 ap => ⟨.inl (Dc.trans hS (Dc.zdd hD (PO.dx ap) (by decide) (by decide))), ?_⟩)
 replace hS := Dc.trans hS (Dc.zdd hD (PO.dx ap) Dd Dd)
 obtain ⟨a7, a8, aG, rfl, L, a9, bb⟩ := ap
 replace hz := At.dx hD L hz Dd Dd
 replace hX := Dx.trans hX (L)
 replace hB := Below.dx hB (Nat.le_refl _) (Nat.le_refl _) L
 replace g := At.dx hD L g Dd Dd
 replace e := At.dx hD L e Dd Dd
 replace i := At.dx hD L i Dd Dd
 replace d := At.dx hD L d Dd Dd
 replace hD := a9
 refine Tk 10 rfl (fun _ _ => dI rfl) hS <| Tk 11 rfl (fun _ _ => dK rfl) hS <| To 12 rfl (TG m8 (eT w0.heap.size k bz _ _ _ _ (Below.size hB) d l) rfl fun b4 b5 Y => ⟨.inl (Dc.trans hS (Dc.did Y.1 l Y.2.1)), ?_⟩)
 replace hS := Dc.trans hS (Dc.did Y.1 l Y.2.1)
 obtain ⟨M, bc, rfl⟩ := Y
 replace hz := At.grownAt hz d M Dd
 replace hX := Dx.new1 hX N (Dx.grown M (List.mem_cons_self ..) l)
 replace hB := Zg hB M l
 replace g := At.grownAt g d M Dd
 replace e := At.grownAt e d M Dd
 replace i := At.grownAt i d M Dd
 replace hD := fD.grownAt hD d M Dd Dd
 replace d := bc
 refine Ti 13 rfl rfl hS <| Td <| aF _ _ <| cZ <| Zi rfl <| Zv (dp rfl rfl Om Om) <| Zi rfl <| cT ?_
 exact aE _ _ ((j + 1, jC e15_8 aG a8, a7, io e15_8 aG)) Za ⟨rfl, rfl, trivial⟩ ⟨hz, hX, hB, g, e, i, hD, (by exact d), Om, (Lc hr hD.wf hfw hjj.1 (CF aj) ao bb), trivial⟩ (by show 2 ^ S.may.length - (j + 1) < 2 ^ S.may.length - j; omega)
 refine c9 <| aF _ _ <| cZ <| Zi rfl <| Zv (dp rfl rfl Om Om) <| Zi rfl <| cT ?_
 exact aE _ _ ((j + 1, f, nsi, ei)) Za ⟨rfl, rfl, trivial⟩ ⟨hz, hX, hB, g, e, i, hD, (by exact d), Om, (Kh hfw (fun h => aj (congrArg Int.ofNat h))), trivial⟩ (by show 2 ^ S.may.length - (j + 1) < 2 ^ S.may.length - j; omega)
 refine dr <| a1 _ _ ?_
 obtain rfl : j = 2 ^ S.may.length := by simp only [Nat.one_mul, Int.toNat_natCast] at ai; omega
 have hwi := hfw.v
 have hwl := fX hfw.pre
 refine Zd (fun a b => Dc 188 144 w0.heap.size k bz ba bm a b) fun aq A => ?_
 replace hz := A.at hz
 replace hX := Dx.trans hX (Dx.ext A)
 replace hB := Ze hB A
 replace g := A.at g
 replace e := A.at e
 replace i := A.at i
 replace hD := fD.ext A hD
 replace d := A.at d
 have hwk0 : Wc 144 k bz aq := ⟨_, d⟩
 have hS : Dc 188 144 w0.heap.size k bz ba bm aq aq := Dc.refl
 refine Tk 0 rfl (fun _ hq => dk (v := .pointer (some ⟨k, 0, none⟩)) rfl iS (At.cell (At.dc hD d hq e Dd Dd Dd) rfl)) hS <| Tk 1 rfl (fun _ hq => dk (v := .pointer (some ⟨k, 0, none⟩)) rfl iS (At.cell (At.dc hD d hq e Dd Dd Dd) rfl)) hS <| Tc 2 rfl rfl hS <| Tf 3 rfl rfl jh hS <| Tk 4 rfl (fun _ hq => dk (v := .pointer (some ⟨bz, 0, none⟩)) rfl ii (Wc.c0 (Dc.wk hq hwk0))) hS <| Ti 5 rfl rfl hS <| Tk 6 rfl (fun _ hq => dk (v := .pointer (some ⟨k, 0, none⟩)) rfl iS (At.cell (At.dc hD d hq e Dd Dd Dd) rfl)) hS <| Tk 7 rfl (fun _ hq => dk (v := .pointer (some ⟨k, 0, none⟩)) rfl iS (At.cell (At.dc hD d hq e Dd Dd Dd) rfl)) hS <| Tc 8 rfl rfl hS <| Tf 9 rfl rfl jh hS <| Tk 10 rfl (fun _ hq => dk (v := .pointer (some ⟨bz, 0, none⟩)) rfl ii (Wc.c0 (Dc.wk hq hwk0))) hS <| Ti 11 rfl rfl hS <| Tk 12 rfl (fun _ _ => jB (m := _) rfl rfl Om (by simp only [IntKind.bits]; omega) (by show o * 65536 < _; simp only [d5]; omega)) hS <| To 13 rfl (fc (u := .int .i64 _) rfl du fv rfl Dd Dd fun bd b6 ar x bf => ⟨.inl (Dc.trans hS (Dc.ext x)), ?_⟩)
 have bg := ZO ar hB
 have b7 : w.heap.size ≤ bd := ar ▸ hX.size
 clear ar
 replace hz := x.at hz
 replace hX := Dx.trans hX (Dx.ext x)
 replace hB := Ze hB x
 replace g := x.at g
 replace e := x.at e
 replace i := x.at i
 replace hD := fD.ext x hD
 replace d := x.at d
 replace hS := Dc.trans hS (Dc.ext x)
 have p := ix (enc := d9) (a := ((o * 65536 : Nat) : Int)) bf rfl rfl bg
 refine To 14 rfl (TG Et (oR w0.heap.size ba bm bz R nsi _ [((o * 65536 : Nat) : Int)] _ (Below.size hB) hz hD p.sl (show 1 ≤ 1000000 by decide)) rfl fun b8 b9 au => ⟨.inl (Dc.trans hS (Dc.zdd hD (PE.dx au) (by decide) (by decide))), ?_⟩)
 replace hS := Dc.trans hS (Dc.zdd hD (PE.dx au) Dd Dd)
 obtain ⟨bh, bi, ad, rfl, B, bj, bk⟩ := au
 replace hz := At.dx hD B hz Dd Dd
 replace hX := Dx.trans hX (B)
 replace hB := Below.dx hB (Nat.le_refl _) (Nat.le_refl _) B
 replace g := At.dx hD B g Dd Dd
 replace e := At.dx hD B e Dd Dd
 replace i := At.dx hD B i Dd Dd
 replace d := At.dx hD B d Dd Dd
 replace p := dh.dx hD B p Dd Dd
 replace hD := bj
 have hgA := Mi bk (OX hol)
 have hvA := hgA.valid
 have hlA := fX hgA.pre
 refine Tk 15 rfl (fun _ _ => dI rfl) hS <| Tk 16 rfl (fun _ _ => dK rfl) hS <| To 17 rfl (TG m8 (eT w0.heap.size k bz _ _ _ _ (Below.size hB) d l) rfl fun ca cb Z => ⟨.inl (Dc.trans hS (Dc.did Z.1 l Z.2.1)), ?_⟩)
 replace hS := Dc.trans hS (Dc.did Z.1 l Z.2.1)
 obtain ⟨C, bl, rfl⟩ := Z
 replace hz := At.grownAt hz d C Dd
 replace hX := Dx.new1 hX N (Dx.grown C (List.mem_cons_self ..) l)
 replace hB := Zg hB C l
 replace g := At.grownAt g d C Dd
 replace e := At.grownAt e d C Dd
 replace i := At.grownAt i d C Dd
 replace hD := fD.grownAt hD d C Dd Dd
 replace p := dh.grownAt p d C Dd
 replace d := bl
 refine To 18 rfl (TG DE (ng w0.heap.size ba bm bz R bh f (jC ei ad bi) _ (Below.size hB) hz hD Om (n4 hvA)) rfl fun cc cd av => ⟨.inl (Dc.trans hS (Dc.zdd hD (PO.dx av) (by decide) (by decide))), ?_⟩)
 replace hS := Dc.trans hS (Dc.zdd hD (PO.dx av) Dd Dd)
 obtain ⟨bn, bo, aw, rfl, D, bp, ax⟩ := av
 replace hz := At.dx hD D hz Dd Dd
 replace hX := Dx.trans hX (D)
 replace hB := Below.dx hB (Nat.le_refl _) (Nat.le_refl _) D
 replace g := At.dx hD D g Dd Dd
 replace e := At.dx hD D e Dd Dd
 replace i := At.dx hD D i Dd Dd
 replace d := At.dx hD D d Dd Dd
 replace p := dh.dx hD D p Dd Dd
 replace hD := bp
 have hvJ := ax.valid
 have hlJ := fX ax.pre
 refine Tk 19 rfl (fun _ _ => dI rfl) hS <| Tk 20 rfl (fun _ _ => dK rfl) hS <| To 21 rfl (TG m8 (eT w0.heap.size k bz _ _ _ _ (Below.size hB) d l) rfl fun ce cf aa => ⟨.inl (Dc.trans hS (Dc.did aa.1 l aa.2.1)), ?_⟩)
 replace hS := Dc.trans hS (Dc.did aa.1 l aa.2.1)
 obtain ⟨E, bq, rfl⟩ := aa
 replace hz := At.grownAt hz d E Dd
 replace hX := Dx.new1 hX N (Dx.grown E (List.mem_cons_self ..) l)
 replace hB := Zg hB E l
 replace g := At.grownAt g d E Dd
 replace e := At.grownAt e d E Dd
 replace i := At.grownAt i d E Dd
 replace hD := fD.grownAt hD d E Dd Dd
 replace p := dh.grownAt p d E Dd
 replace d := bq
 refine Ti 22 rfl rfl hS <| Td ?_
 refine gx (fun a b => Dc 188 144 w0.heap.size k bz ba bm a b) im (fun ay y => ?_)
 replace hz := y.at hz
 replace hX := Dx.trans hX (Dx.ext y)
 replace hB := Ze hB y
 replace g := y.at g
 replace e := y.at e
 replace i := y.at i
 replace hD := fD.ext y hD
 replace d := y.at d
 replace p := y.ow p
 have hwk0 : Wc 144 k bz ay := ⟨_, d⟩
 have hS : Dc 188 144 w0.heap.size k bz ba bm ay ay := Dc.refl
 refine Tk 0 rfl (fun _ hq => dk (v := .pointer (some ⟨k, 0, none⟩)) rfl iS (At.cell (At.dc hD d hq e Dd Dd Dd) rfl)) hS <| Tk 1 rfl (fun _ hq => dk (v := .pointer (some ⟨k, 0, none⟩)) rfl iS (At.cell (At.dc hD d hq e Dd Dd Dd) rfl)) hS <| Tc 2 rfl rfl hS <| Tf 3 rfl rfl jh hS <| Tk 4 rfl (fun _ hq => dk (v := .pointer (some ⟨bz, 0, none⟩)) rfl ii (Wc.c0 (Dc.wk hq hwk0))) hS <| Ti 5 rfl rfl hS <| Ti 6 rfl rfl hS <| To 7 rfl (TG y5 (jT w0.heap.size ba bm bz R bn out (jC (io ei ad) aw bo) _ (Below.size hB) hz hD Om (n4 hvJ)) rfl fun cg ch az => ⟨.inl (Dc.trans hS (Dc.zdd hD (PO.dx az) (by decide) (by decide))), ?_⟩)
 replace hS := Dc.trans hS (Dc.zdd hD (PO.dx az) Dd Dd)
 obtain ⟨br, bs, aH, rfl, F, bt, bu⟩ := az
 replace hz := At.dx hD F hz Dd Dd
 replace hX := Dx.trans hX (F)
 replace hB := Below.dx hB (Nat.le_refl _) (Nat.le_refl _) F
 replace g := At.dx hD F g Dd Dd
 replace e := At.dx hD F e Dd Dd
 replace i := At.dx hD F i Dd Dd
 replace d := At.dx hD F d Dd Dd
 replace p := dh.dx hD F p Dd Dd
 replace hD := bt
 refine Tk 8 rfl (fun _ _ => dI rfl) hS <| Tk 9 rfl (fun _ _ => dK rfl) hS <| To 10 rfl (TG m8 (eT w0.heap.size k bz _ _ _ _ (Below.size hB) d l) rfl fun ci cj ab => ⟨.inl (Dc.trans hS (Dc.did ab.1 l ab.2.1)), ?_⟩)
 replace hS := Dc.trans hS (Dc.did ab.1 l ab.2.1)
 obtain ⟨G, bv, rfl⟩ := ab
 replace hz := At.grownAt hz d G Dd
 replace hX := Dx.new1 hX N (Dx.grown G (List.mem_cons_self ..) l)
 replace hB := Zg hB G l
 replace g := At.grownAt g d G Dd
 replace e := At.grownAt e d G Dd
 replace i := At.grownAt i d G Dd
 replace hD := fD.grownAt hD d G Dd Dd
 replace p := dh.grownAt p d G Dd
 replace d := bv
 refine Ti 11 rfl rfl hS <| Td <| aU _ _ <| cZ <| Zi rfl <| Zv (dp rfl rfl Om Om) <| Zi rfl <| cT ?_
 exact aS _ _ ((o + 1, jC (io (io ei ad) aw) aH bs, br, io (io (io ei ad) aw) aH)) Za ⟨rfl, rfl, trivial⟩ ⟨hz, hX, hB, g, e, i, hD, (by exact d), Om, (Le hr hD.wf (Kz o) halw hoo.1 hol hom hfw hgA ax bu), trivial⟩ (by show 2 ^ S.may.length - (o + 1) < 2 ^ S.may.length - o; omega)
 refine dr <| aR _ _ <| cY fun ck bw => ?_
 obtain rfl : o = 2 ^ S.may.length := by simp only [Nat.one_mul, Int.toNat_natCast] at X; omega
 refine Zr <| ZL (.pointer (some ⟨k, 0, none⟩)) rfl iS e rfl <| Zc rfl <| Zf rfl jU <| Zl rfl jL d rfl <| Zv (f7 rfl rfl) <| cT <| ZQ rfl (fun aA => ?_) fun aA => ?_
 refine Zd eo fun bx H => ?_
 replace hz := H.at hz
 replace hX := Dx.trans hX (Dx.ext H)
 replace hB := Ze hB H
 replace g := H.at g
 replace e := H.at e
 replace i := H.at i
 replace hD := fD.ext H hD
 replace d := H.at d
 have hS := eo.refl bx
 refine Tk 0 rfl (fun _ hq => dk (v := .pointer (some ⟨k, 0, none⟩)) rfl iS (At.cell (hq.at e) rfl)) hS <| Tc 1 rfl rfl hS <| Tf 2 rfl rfl jU hS <| Tk 3 rfl (fun _ hq => dk (v := .int .i64 _) rfl jL (At.cell (hq.at d) rfl)) hS <| Tw 4 (.int .i64 0) rfl rfl hS <| Ti 5 rfl rfl hS <| Td <| Zt <| dZ (v := .int .i64 0) rfl (v1 := .int .i64 _) rfl ?_
 exact ⟨_, _, _, rfl, hX, hD, JW halw aA⟩
 refine c9 <| bw _ _ <| Zr <| Zi rfl <| Zi rfl <| Zw (.int .i64 0) rfl <| cT <| Zt <| dZ (v := .int .i64 _) rfl (v1 := .int .i64 0) rfl ?_
 exact ⟨_, _, _, rfl, hX, hD, PI halw (Decidable.of_not_not aA)⟩
end
section
open Go Go.RowKit
theorem Nu {S : Sp} (hr : dP S = true) : hU (eR S) := fun x hx => by
 have h := (fC.1 ((nT hr).1 hx)).1
 have h1 := ly (gn h)
 have h2 := fh (d7.1 hr).2.1
 have h3 := (oq h).2
 omega
theorem oe {S : Sp} (hr : dP S = true) {i : Nat} (hi : i < (eR S).length) : oJ S ((eR S).getD i ⟨⟨0, 0⟩, 0⟩) = true := (nT hr).1 (dS hi)
def nq (S : Sp) : Bool := decide (20 < S.on.length) || decide (20 < S.may.length)
theorem EZ {S : Sp} (h : (20 : Int) < (S.on.length : Int)) : true = nq S := by
 unfold nq; rw [decide_eq_true (show 20 < S.on.length by omega), Bool.true_or]
theorem DD {S : Sp} (h : ¬ (20 : Int) < (S.on.length : Int)) : decide ((20 : Int) < (S.may.length : Int)) = nq S := by
 unfold nq; rw [decide_eq_false (show ¬ 20 < S.on.length by omega), Bool.false_or, Bool.eq_iff_iff, decide_eq_true_eq, decide_eq_true_eq]; omega
def AU (l : List Rw) (x : Rw) : Nat → Bool
 | 0 => false
 | k + 1 => AU l x k || q9 (l.getD k ⟨⟨0, 0⟩, 0⟩) x
theorem qt {l : List Rw} {x : Rw} : ∀ k, AU l x k = true ↔ ∃ j, j < k ∧ q9 (l.getD j ⟨⟨0, 0⟩, 0⟩) x = true
 | 0 => by simp [AU]
 | k + 1 => by
  rw [AU, Bool.or_eq_true, qt k]
  constructor
  ·rintro (⟨j, hj, h⟩ | h)
   ·exact ⟨j, by omega, h⟩
   ·exact ⟨k, by omega, h⟩
  ·rintro ⟨j, hj, h⟩
   rcases Nat.lt_succ_iff_lt_or_eq.1 hj with hj | rfl
   ·exact .inl ⟨j, hj, h⟩
   ·exact .inr h
theorem Em {S : Sp} {x : Rw} (h : pM S x = true) : AU (eR S) x (eR S).length = true := by
 obtain ⟨h1, h2⟩ := mU h
 obtain ⟨j, hj, he⟩ := fo (d := ⟨⟨0, 0⟩, 0⟩) ((nT (gy.1 h).1).2 h1)
 exact (qt _).2 ⟨j, hj, by rw [he]; exact h2⟩
theorem Ew {S : Sp} (hr : dP S = true) : ju S (eR S) = true := by
 obtain ⟨h0, h8, h1, h4, h5, hin⟩ := d7.1 hr
 have hp := fh h8
 refine gX.2 ⟨hr, kq.2 fun k hk => ?_, fun o ho => ?_⟩
 ·have hi := (fC.1 (oe hr hk)).1
  exact jd.2 ⟨gn hi, (gy.1 hi).2.1, h5 ▸ (oq hi).1⟩
 ·obtain ⟨w1, w2⟩ := hin o ho
  refine IM (d6.2 fun p hp2 h => ?_) (d6.2 fun p hp2 h => ?_)
  ·have hm := d6.1 w1 p hp2 h
   have hpn : p < 2 ^ S.n.toNat := by
    have := d6.1 w2 p hp2 hm
    rw [fP] at this
    simpa using this
   have hpow := Nat.two_pow_pos S.n.toNat
   have hx : pM S ⟨⟨2 ^ S.n.toNat - 1, p⟩, 2 ^ o⟩ = true := by
    have hand : p &&& (2 ^ S.n.toNat - 1) = p := by rw [Nat.and_two_pow_sub_one_eq_mod, Nat.mod_eq_of_lt hpn]
    refine gy.2 ⟨hr, Nat.two_pow_pos o, fun j hj => ?_⟩
    have hj' : (2 ^ o).testBit j = true := hj
    rw [Nat.testBit_two_pow, decide_eq_true_eq] at hj'
    subst hj'
    refine ⟨by omega, ?_⟩
    have := (f6 (s := jf S o) (n := S.n) (c := ⟨2 ^ S.n.toNat - 1, p⟩)).2 ⟨dW.2 ⟨h0, h8, by show 2 ^ S.n.toNat - 1 < 2 ^ S.n.toNat; omega, hand⟩, fun q hq hqp => by
     have hqp' : q &&& (2 ^ S.n.toNat - 1) = p := hqp
     rw [Nat.and_two_pow_sub_one_eq_mod, Nat.mod_eq_of_lt hq] at hqp'
     subst hqp'; exact hm⟩
    exact this
   obtain ⟨j, hj, hh⟩ := (qt _).1 (Em hx)
   obtain ⟨g1, g2⟩ := oD.1 hh
   have hi := (fC.1 (oe hr hj)).1
   refine (kr (by omega) p _ (Nat.le_refl _)).2 ⟨hpn, j, hj, g2 o (by show (2 ^ o).testBit o = true; rw [Nat.testBit_two_pow]; simp), ?_⟩
   refine lh (p := p) (dW.1 (gn hi)).2.2.2 g1 ?_
   show p &&& (2 ^ S.n.toNat - 1) = p
   rw [Nat.and_two_pow_sub_one_eq_mod, Nat.mod_eq_of_lt hpn]
  ·obtain ⟨hpn, j, hj, hb, hh⟩ := (kr (by omega) p _ (Nat.le_refl _)).1 h
   have hi := (fC.1 (oe hr hj)).1
   have hw := ((gy.1 hi).2.2 o hb).2
   exact (f6.1 hw).2 p hpn hh
end
section
open Go Go.RowKit
def wy (x : Rw) (k : Nat) : Rw := ⟨x.c, x.o - 2 ^ k⟩
def tl (x : Rw) : List Rw := if 0 < x.o then [x] else []
def PB (l : List Rw) : List Rw := l.filter fun x => decide (0 < x.o)
def lP (l : List Rw) (i k : Nat) : List Rw :=
 if andNot (l.getD i ⟨⟨0, 0⟩, 0⟩).o (2 ^ k) = 0 then l.take i ++ l.drop (i + 1) else l.set i ⟨(l.getD i ⟨⟨0, 0⟩, 0⟩).c, andNot (l.getD i ⟨⟨0, 0⟩, 0⟩).o (2 ^ k)⟩
def t3 (l : List Rw) : Prop := ∀ x, x ∈ l → 0 < x.o
theorem t3.app {a b : List Rw} (ha : t3 a) (hb : t3 b) : t3 (a ++ b) := fun x hx => (List.mem_append.1 hx).elim (ha x) (hb x)
theorem t3.kp (x : Rw) : t3 (tl x) := fun y hy => by
 unfold tl at hy
 split at hy
 ·simp at hy; subst hy; assumption
 ·cases hy
theorem t3.drop {l : List Rw} (h : t3 l) (k : Nat) : t3 (l.drop k) := fun x hx => h x (List.mem_of_mem_drop hx)
theorem ED (x : Rw) : (tl x).length = if 0 < x.o then 1 else 0 := by unfold tl; split <;> rfl
theorem ud {x : Rw} (h : 0 < x.o) : tl x = [x] := if_pos h
theorem HR {x : Rw} (h : x.o = 0) : tl x = [] := if_neg (by omega)
theorem Jo {S : Sp} {l : List Rw} (h : ju S l = true) : t3 l := fun x hx => by
 obtain ⟨k, hk, rfl⟩ := fo (d := ⟨⟨0, 0⟩, 0⟩) hx
 exact (jd.1 (kq.1 (gX.1 h).2.1 k hk)).2.1
theorem G6 {o k : Nat} (h : o.testBit k = true) : andNot o (2 ^ k) = o - 2 ^ k := by
 have hlow : (andNot o (2 ^ k)).testBit k = false := by rw [eh]; simp
 have hs := Lq hlow
 have e : andNot o (2 ^ k) ||| 2 ^ k = o := Nat.eq_of_testBit_eq fun j => by
  rw [Nat.testBit_or, eh, Nat.testBit_two_pow]
  by_cases hj : k = j
  ·subst hj; simp [h]
  ·simp [hj]
 rw [e] at hs
 omega
theorem Lh (o k : Nat) : o - 2 ^ k ≤ o := Nat.sub_le _ _
theorem BH {A B : List Rw} {x d : Rw} {i : Nat} (hi : i = A.length) : (A ++ x :: B).getD i d = x := by
 subst hi
 rw [List.getD_eq_getElem?_getD, List.getElem?_append_right (Nat.le_refl _), Nat.sub_self]
 rfl
theorem Lu {A B : List Rw} {x y : Rw} {i : Nat} (hi : i = A.length) : (A ++ x :: B).set i y = A ++ y :: B := by
 subst hi
 rw [List.set_append, if_neg (by omega), Nat.sub_self]
 rfl
theorem Jr {A B : List Rw} {x : Rw} {i : Nat} (hi : i = A.length) : (A ++ x :: B).take i = A := by subst hi; exact List.take_left
theorem GQ {A B : List Rw} {x : Rw} {i : Nat} (hi : i = A.length) : (A ++ x :: B).drop (i + 1) = B := by
 subst hi
 rw [List.drop_append, List.drop_eq_nil_of_le (by omega), show A.length + 1 - A.length = 1 by omega]
 rfl
theorem H4 {A B : List Rw} {x : Rw} {i k : Nat} (hi : i = A.length) (hb : x.o.testBit k = true) : lP (A ++ x :: B) i k = A ++ tl (wy x k) ++ B := by
 unfold lP
 rw [BH hi, G6 hb, Jr hi, GQ hi, Lu hi]
 by_cases h : x.o - 2 ^ k = 0
 ·rw [if_pos h, HR h, List.append_nil]
 ·rw [if_neg h, ud (show 0 < (wy x k).o from Nat.pos_of_ne_zero h)]
  simp [wy]
theorem Kp {l : List Rw} {i : Nat} (hi : i < l.length) : l.drop i = l.getD i ⟨⟨0, 0⟩, 0⟩ :: l.drop (i + 1) := by
 rw [List.getD_eq_getElem?_getD, List.getElem?_eq_getElem hi]
 simp
theorem A7 {l : List Rw} {i : Nat} {x d : Rw} (hi : i < l.length) : (l.set i x).getD i d = x := by
 rw [List.getD_eq_getElem?_getD, List.getElem?_set_self hi]; rfl
theorem Ia {l : List Rw} {i k : Nat} (hi : i < l.length) (h : (((l.set i ⟨(l.getD i ⟨⟨0, 0⟩, 0⟩).c, andNot (l.getD i ⟨⟨0, 0⟩, 0⟩).o (1 * 2 ^ k)⟩).getD i ⟨⟨0, 0⟩, 0⟩).o : Int) = 0) :
  (l.set i ⟨(l.getD i ⟨⟨0, 0⟩, 0⟩).c, andNot (l.getD i ⟨⟨0, 0⟩, 0⟩).o (1 * 2 ^ k)⟩).take i ++ (l.set i ⟨(l.getD i ⟨⟨0, 0⟩, 0⟩).c, andNot (l.getD i ⟨⟨0, 0⟩, 0⟩).o (1 * 2 ^ k)⟩).drop (i + 1) = lP l i k := by
 rw [A7 hi, Nat.one_mul] at h
 unfold lP
 rw [if_pos (show andNot (l.getD i ⟨⟨0, 0⟩, 0⟩).o (2 ^ k) = 0 from Int.ofNat_inj.1 h), List.take_set_of_le (Nat.le_refl _), List.drop_set_of_lt (Nat.lt_succ_self _)]
theorem In {l : List Rw} {i k : Nat} (hi : i < l.length) (h : ¬ (((l.set i ⟨(l.getD i ⟨⟨0, 0⟩, 0⟩).c, andNot (l.getD i ⟨⟨0, 0⟩, 0⟩).o (1 * 2 ^ k)⟩).getD i ⟨⟨0, 0⟩, 0⟩).o : Int) = 0) :
  l.set i ⟨(l.getD i ⟨⟨0, 0⟩, 0⟩).c, andNot (l.getD i ⟨⟨0, 0⟩, 0⟩).o (1 * 2 ^ k)⟩ = lP l i k := by
 rw [A7 hi, Nat.one_mul] at h
 unfold lP
 rw [if_neg (show ¬ andNot (l.getD i ⟨⟨0, 0⟩, 0⟩).o (2 ^ k) = 0 from fun e => h (congrArg Int.ofNat e)), Nat.one_mul]
theorem Ft (l : List Rw) (i k : Nat) : (lP l i k).length ≤ l.length := by
 unfold lP
 split
 ·rw [List.length_append, List.length_take, List.length_drop]; omega
 ·rw [List.length_set]; exact Nat.le_refl _
def Gi (S : Sp) (A B : List Rw) (c : Cb) (o : Nat) : Nat → Nat
 | 0 => o
 | k + 1 => if (Gi S A B c o k).testBit k = true ∧ ju S (A ++ tl ⟨c, Gi S A B c o k - 2 ^ k⟩ ++ B) = true then Gi S A B c o k - 2 ^ k else Gi S A B c o k
def qO (S : Sp) (l : List Rw) : Nat → List Rw
 | 0 => []
 | j + 1 => qO S l j ++ tl ⟨(l.getD j ⟨⟨0, 0⟩, 0⟩).c, Gi S (qO S l j) (l.drop (j + 1)) (l.getD j ⟨⟨0, 0⟩, 0⟩).c (l.getD j ⟨⟨0, 0⟩, 0⟩).o S.on.length⟩
def wN (S : Sp) (l : List Rw) (j k : Nat) : Nat := Gi S (qO S l j) (l.drop (j + 1)) (l.getD j ⟨⟨0, 0⟩, 0⟩).c (l.getD j ⟨⟨0, 0⟩, 0⟩).o k
def wP (S : Sp) (l : List Rw) (j k : Nat) : Rw := ⟨(l.getD j ⟨⟨0, 0⟩, 0⟩).c, wN S l j k⟩
def vm (S : Sp) (l : List Rw) (j k : Nat) : List Rw := qO S l j ++ tl (wP S l j k) ++ l.drop (j + 1)
def xv (S : Sp) (l : List Rw) : List Rw := qO S l l.length
theorem rx (S : Sp) (l : List Rw) (j : Nat) : qO S l (j + 1) = qO S l j ++ tl (wP S l j S.on.length) := rfl
theorem vH (S : Sp) (l : List Rw) (j k : Nat) : wN S l j (k + 1) = if (wN S l j k).testBit k = true ∧ ju S (qO S l j ++ tl (wy (wP S l j k) k) ++ l.drop (j + 1)) = true then wN S l j k - 2 ^ k else wN S l j k := rfl
theorem Pk {S : Sp} {l : List Rw} {j k : Nat} (h1 : (wN S l j k).testBit k = true) (h2 : ju S (qO S l j ++ tl (wy (wP S l j k) k) ++ l.drop (j + 1)) = true) : wN S l j (k + 1) = wN S l j k - 2 ^ k := by rw [vH, if_pos ⟨h1, h2⟩]
theorem Qv {S : Sp} {l : List Rw} {j k : Nat} (h : ¬ ((wN S l j k).testBit k = true ∧ ju S (qO S l j ++ tl (wy (wP S l j k) k) ++ l.drop (j + 1)) = true)) : wN S l j (k + 1) = wN S l j k := by rw [vH, if_neg h]
theorem GI (S : Sp) (l : List Rw) (j : Nat) : ∀ k, wN S l j k ≤ (l.getD j ⟨⟨0, 0⟩, 0⟩).o
 | 0 => Nat.le_refl _
 | k + 1 => by
  rw [vH]
  have := GI S l j k
  split
  ·have := Lh (wN S l j k) k; omega
  ·exact this
theorem hU.nil : hU [] := fun x hx => by cases hx
theorem hU.any {l : List Rw} (h : hU l) (k : Nat) : (l.getD k ⟨⟨0, 0⟩, 0⟩).o < 256 := by
 by_cases hk : k < l.length
 ·exact (h.get hk).2.2
 ·rw [List.getD_eq_getElem?_getD, List.getElem?_eq_none (by omega)]; decide
theorem hU.app {a b : List Rw} (ha : hU a) (hb : hU b) : hU (a ++ b) := fun x hx => (List.mem_append.1 hx).elim (ha x) (hb x)
theorem hU.drop {l : List Rw} (h : hU l) (k : Nat) : hU (l.drop k) := fun x hx => h x (List.mem_of_mem_drop hx)
theorem hU.take {l : List Rw} (h : hU l) (k : Nat) : hU (l.take k) := fun x hx => h x (List.mem_of_mem_take hx)
theorem hU.kp {x : Rw} (h : x.c.m < 256 ∧ x.c.v < 256 ∧ x.o < 256) : hU (tl x) := fun y hy => by
 unfold tl at hy
 split at hy
 ·simp at hy; subst hy; exact h
 ·cases hy
theorem hU.some {l : List Rw} (h : hU l) : hU (PB l) := fun x hx => h x (List.mem_filter.1 hx).1
theorem hU.set {l : List Rw} (h : hU l) {i : Nat} {x : Rw} (hx : x.c.m < 256 ∧ x.c.v < 256 ∧ x.o < 256) : hU (l.set i x) := fun y hy => (List.mem_or_eq_of_mem_set hy).elim (h y) (fun e => e ▸ hx)
theorem MB {S : Sp} {l : List Rw} (h : hU l) {j : Nat} (hj : j < l.length) (k : Nat) : (wP S l j k).c.m < 256 ∧ (wP S l j k).c.v < 256 ∧ (wP S l j k).o < 256 := by
 obtain ⟨h1, h2, h3⟩ := h.get hj
 have := GI S l j k
 exact ⟨h1, h2, show wN S l j k < 256 by omega⟩
theorem Mo {S : Sp} {l : List Rw} (h : hU l) : ∀ j, j ≤ l.length → hU (qO S l j)
 | 0, _ => hU.nil
 | j + 1, hj => by rw [rx]; exact (Mo h j (by omega)).app (hU.kp (MB h (by omega) _))
theorem Pz {S : Sp} {l : List Rw} (h : hU l) {j : Nat} (hj : j < l.length) (k : Nat) : hU (vm S l j k) := ((Mo h j (by omega)).app (hU.kp (MB h hj k))).app (h.drop _)
theorem DG (S : Sp) (l : List Rw) : ∀ j, (qO S l j).length ≤ j
 | 0 => Nat.le_refl _
 | j + 1 => by
  have := DG S l j
  rw [rx, List.length_append, ED]
  split <;> omega
theorem H3 {S : Sp} {l : List Rw} {j : Nat} (hp : t3 l) (hj : j < l.length) : qO S l j ++ l.drop j = vm S l j 0 := by
 unfold vm
 rw [Kp hj, ud (x := wP S l j 0) (hp _ (dS hj)), List.append_assoc]
 rfl
theorem EQ (S : Sp) (l : List Rw) (j : Nat) : vm S l j S.on.length = qO S l (j + 1) ++ l.drop (j + 1) := by rw [rx]; rfl
theorem G1 {S : Sp} {l : List Rw} {j k : Nat} (h : 0 < wN S l j k) : vm S l j k = qO S l j ++ wP S l j k :: l.drop (j + 1) := by
 unfold vm
 rw [ud (x := wP S l j k) h, List.append_assoc]
 rfl
theorem LN {S : Sp} {l : List Rw} {j k : Nat} (h : 0 < wN S l j k) : (vm S l j k).getD (qO S l j).length ⟨⟨0, 0⟩, 0⟩ = wP S l j k := by
 rw [G1 h]; exact BH rfl
theorem AW {S : Sp} {l : List Rw} {j k : Nat} (hb : (wN S l j k).testBit k = true) : lP (vm S l j k) (qO S l j).length k = qO S l j ++ tl (wy (wP S l j k) k) ++ l.drop (j + 1) := by
 rw [G1 (uE hb)]
 exact H4 rfl hb
theorem E9 {S : Sp} {l : List Rw} {j k : Nat} (hb : (wN S l j k).testBit k = true) (hc : ju S (lP (vm S l j k) (qO S l j).length k) = true) : lP (vm S l j k) (qO S l j).length k = vm S l j (k + 1) := by
 rw [AW hb] at hc ⊢
 unfold vm wP
 rw [Pk hb hc]
 rfl
theorem oX {S : Sp} {l : List Rw} {j k : Nat} (h : (wN S l j k).testBit k = false ∨ ju S (lP (vm S l j k) (qO S l j).length k) = false) : vm S l j k = vm S l j (k + 1) := by
 have : wN S l j (k + 1) = wN S l j k := Qv fun ⟨h1, h2⟩ => by
  rcases h with h | h
  ·rw [h1] at h; cases h
  ·rw [AW h1, h2] at h; cases h
 unfold vm wP
 rw [this]
theorem QU (x : Rw) : (tl x).length ≤ 1 ∧ ((tl x).length = 1 → 0 < x.o) ∧ (¬ (tl x).length = 1 → x.o = 0) := by
 rw [ED]
 split
 ·exact ⟨Nat.le_refl _, fun _ => by assumption, fun h => absurd rfl h⟩
 ·exact ⟨Nat.zero_le _, fun h => (by cases h), fun _ => (by omega)⟩
theorem BQ {S : Sp} {l : List Rw} {j k : Nat} : (vm S l j k).length = (qO S l j).length + (tl (wP S l j k)).length + (l.length - (j + 1)) := by
 unfold vm
 rw [List.length_append, List.length_append, List.length_drop]
theorem KR {S : Sp} {l : List Rw} {j : Nat} : (qO S l j ++ l.drop j).length = (qO S l j).length + (l.length - j) := by rw [List.length_append, List.length_drop]
theorem Lk {l : List Rw} (h : hU l) {i : Nat} (hi : i < l.length) (k : Nat) : hU (lP l i k) := by
 unfold lP
 obtain ⟨h1, h2, h3⟩ := h.get hi
 split
 ·exact (h.take _).app (h.drop _)
 ·exact h.set ⟨h1, h2, by have := qx (l.getD i ⟨⟨0, 0⟩, 0⟩).o (2 ^ k); show andNot _ _ < 256; omega⟩
theorem uI {o k : Nat} (h : ((o / 2 ^ ((k : Nat) : Int).toNat &&& 1 : Nat) : Int) = 0) : o.testBit k = false := Bool.eq_false_iff.2 fun hb => by
 have := k7.2 hb
 rw [Int.toNat_natCast] at h
 rw [h] at this
 cases this
theorem Ht {o k : Nat} (h : ¬ ((o / 2 ^ ((k : Nat) : Int).toNat &&& 1 : Nat) : Int) = 0) : o.testBit k = true := Classical.byContradiction fun hb => h (by
 have hb : o.testBit k = false := by simpa using hb
 rw [gY, decide_eq_false_iff_not] at hb
 rw [Int.toNat_natCast, uF]
 omega)
theorem sj {o k : Nat} (h : o = 0) : o.testBit k = false := by subst h; exact Nat.zero_testBit k
def B4 (a b : List Rw) : Prop := ∀ x, x ∈ a → ∃ y, y ∈ b ∧ x.c = y.c ∧ ∀ j, x.o.testBit j = true → y.o.testBit j = true
theorem B4.refl (a : List Rw) : B4 a a := fun x hx => ⟨x, hx, rfl, fun _ h => h⟩
theorem B4.trans {a b c : List Rw} (h : B4 a b) (k : B4 b c) : B4 a c := fun x hx => by
 obtain ⟨y, hy, h1, h2⟩ := h x hx
 obtain ⟨z, hz, h3, h4⟩ := k y hy
 exact ⟨z, hz, h1.trans h3, fun j hj => h4 j (h2 j hj)⟩
theorem B4.app {a b c d : List Rw} (h : B4 a b) (k : B4 c d) : B4 (a ++ c) (b ++ d) := fun x hx => by
 rcases List.mem_append.1 hx with hx | hx
 ·obtain ⟨y, hy, h⟩ := h x hx; exact ⟨y, List.mem_append.2 (.inl hy), h⟩
 ·obtain ⟨y, hy, h⟩ := k x hx; exact ⟨y, List.mem_append.2 (.inr hy), h⟩
theorem B4.kp {x y : Rw} (hc : x.c = y.c) (ho : ∀ j, x.o.testBit j = true → y.o.testBit j = true) : B4 (tl x) (tl y) := fun z hz => by
 unfold tl at hz
 split at hz
 ·rename_i hp
  simp at hz
  subst hz
  obtain ⟨j, hj⟩ := oG hp
  exact ⟨y, by rw [ud (uE (ho j hj))]; exact List.mem_singleton.2 rfl, hc, ho⟩
 ·cases hz
theorem B4.cv {a b : List Rw} (h : B4 a b) {p o : Nat} (hc : yF a p o = true) : yF b p o = true := by
 unfold yF at *
 rw [List.any_eq_true] at *
 obtain ⟨x, hx, h1⟩ := hc
 obtain ⟨y, hy, e, h2⟩ := h x hx
 refine ⟨y, hy, ?_⟩
 rw [Bool.and_eq_true] at *
 exact ⟨h2 o h1.1, e ▸ h1.2⟩
theorem vS {S : Sp} {l : List Rw} : oh S l = true ↔ ∀ x, x ∈ l → EV S x = true := by unfold oh; exact List.all_eq_true
theorem B4.may {S : Sp} {a b : List Rw} (h : B4 a b) (hp : t3 a) (k : oh S b = true) : oh S a = true := vS.2 fun x hx => by
 obtain ⟨y, hy, e, h2⟩ := h x hx
 obtain ⟨h3, _, h5⟩ := jd.1 (vS.1 k y hy)
 refine jd.2 ⟨e ▸ h3, hp x hx, fZ.2 fun j hj => Bool.eq_false_iff.2 fun hb => ?_⟩
 have := h2 j hb
 rw [fZ.1 h5 j hj] at this
 cases this
end
section
open Go Go.RowKit
theorem Ol75_0 {p : Prop} (h : p := by first | omega | (simp only [cV, cW, cX, da, de]; omega)) : p := h
theorem Ii : dC Tryz.prog 48 = true := by kernel_rfl
theorem M8 : dC Tryz.prog 49 = true := by kernel_rfl
theorem MJ : dC Tryz.prog 12 = true := by kernel_rfl
theorem wj (xa : Value) (l : List Rw) (i k : Nat) (w : World) (hl : dM gv 3 w xa l) (hlb : l.length ≤ 1000000) (hlr : hU l) (hi : i < l.length) (hk : k < 8) :
    Fn Tryz.prog 49 #[xa, .int .i64 (i : Int), .int .i64 (k : Int)] w fun v w' => dh gv 3 42 w' w.heap.size v (lP l i k) := by
 refine dq (n := 36) Tryz.func49 rfl rfl (Nat.le_of_ble_eq_true rfl) ?_
 have hB : Below w.heap.size w w := Below.refl _ _
 have h7 := zE hk
 refine Zr <| Zw (.slice none 0 0) rfl <| cT <| Zr <| Zy (zg dT fun A W5 s B C => ?_)
 have D := ZO s hB
 clear s
 replace hB := Ze hB B
 have q := sy (enc := gv) (sz := 3) C D
 refine Zw xa rfl <| Zy (ez (v := .slice (some ⟨A, 0, none⟩) 0 0) (v2 := xa) rfl rfl dT iu Dd q (Below.slT hB hl) (kA) (by have := Below.size hB; omega) (by first | omega | (simp; omega) | (simp only [cV, cW, cX, da, de]; omega)) (by first | omega | (simp; omega) | (simp only [cV, cW, cX, da, de]; omega)) fun e W8 E d => ?_)
 replace d := dh.app (enc := gv) rfl rfl rfl rfl d
 replace hB := ZG hB E q
 clear q
 rw [List.nil_append] at d
 refine Zw e rfl <| cT <| cY fun I t => ?_
 obtain ⟨J, K, L⟩ := hlr.get hi
 refine Zd (fun a b => a.grownBy b e.ownBlock) fun F x => ?_
 replace hB := Ze hB x
 replace d := x.ow d
 have M := d
 have hS := World.grownBy.refl F e.ownBlock
 refine Tw 0 e rfl rfl hS <| Ti 1 rfl rfl hS <| Ti 5 rfl rfl hS <| Tk 6 rfl (fun _ _ => jB (m := 1) rfl rfl Om (by simp only [IntKind.bits]; omega) (by simp only [d5, Int.toNat_natCast, Nat.one_mul]; omega)) hS ?_
 refine q8 (dd := some 13) 2 (by kernel_rfl) rfl rfl rfl rfl (Yd.val (dJ (v := e) rfl d.sl rfl dT Om Ol75_0) ⟨.inl hS, ?_⟩)
 refine Tf 3 rfl rfl fK hS ?_
 refine q8 (dd := some 15) 4 (by kernel_rfl) rfl rfl rfl rfl (Yd.val (dk (v := .int .u8 _) rfl ef (dM.cell d.sl ej ⟨⟨0, 0⟩, 0⟩ Om Ol75_0 2 rfl)) ⟨.inl hS, ?_⟩)
 refine Tk 7 rfl (fun _ _ => pB (n := _) rfl rfl rfl (by first | assumption | (simp only [d5]; omega) | (simp only [d5]; decide)) (by simp only [d5, Int.toNat_natCast, Nat.one_mul]; omega)) hS ?_
 refine q8 (dd := some 19) 8 (by kernel_rfl) rfl rfl rfl rfl (Yd.val (dJ (v := e) rfl d.sl rfl dT Om Ol75_0) ⟨.inl hS, ?_⟩)
 refine Tf 9 rfl rfl fK hS <| To 10 rfl (Hk (v := e) (u := .int .u8 _) (a := ⟨(l.getD i ⟨⟨0, 0⟩, 0⟩).c, andNot (l.getD i ⟨⟨0, 0⟩, 0⟩).o (1 * 2 ^ k)⟩) (dd := ⟨⟨0, 0⟩, 0⟩) (j := _) (r := 2) rfl rfl ef ej rfl Dd (rfl) d Om Ol75_0 fun N g G => ⟨.inl (dD hS g), ?_⟩)
 replace hS := dD hS g
 replace hB := ZG hB g d
 clear g d
 replace d := G
 rw [Int.toNat_natCast] at d
 refine Td ?_
 have hsl : (l.set i ⟨(l.getD i ⟨⟨0, 0⟩, 0⟩).c, andNot (l.getD i ⟨⟨0, 0⟩, 0⟩).o (1 * 2 ^ k)⟩).length = l.length := List.length_set
 have hC : (l.set i ⟨(l.getD i ⟨⟨0, 0⟩, 0⟩).c, andNot (l.getD i ⟨⟨0, 0⟩, 0⟩).o (1 * 2 ^ k)⟩).length ≤ iU e := (Sl.eqv d.sl).2.1
 refine Zr <| Zw e rfl <| Zi rfl <| Zv (dJ (v := e) rfl d.sl rfl dT Om Ol75_0) <| Zf rfl fK <| Zv (dk (v := .int .u8 _) rfl ef (dM.cell d.sl ej ⟨⟨0, 0⟩, 0⟩ Om Ol75_0 2 rfl)) <| Zv (eB rfl rfl) <| cT <| ZQ rfl (fun f => ?_) fun f => ?_
 refine gx (fun a b => a.grownBy b e.ownBlock) im (fun H y => ?_)
 replace hB := Ze hB y
 replace d := y.ow d
 have O := d
 have hS := World.grownBy.refl H e.ownBlock
 refine Tw 0 e rfl rfl hS <| Ti 1 rfl rfl hS <| Tk 2 rfl (fun _ _ => CL (v := e) rfl d.sl dT rfl Om Om) hS <| Tw 3 e rfl rfl hS <| Ti 4 rfl rfl hS <| Tk 5 rfl (fun _ _ => dp rfl rfl Om Om) hS <| Tk 6 rfl (fun _ _ => CD (v := e) rfl d.sl dT rfl Om Om) hS <| To 7 rfl (Di (v := e) (i := i) (j := (i + 1)) ej kA rfl rfl dT d Om Om Om fun h P p z Q => ⟨.inl (dD hS p), ?_⟩)
 replace hS := dD hS p
 replace hB := ZG hB p d
 clear p d
 refine Tw 8 h rfl rfl hS <| Td <| t _ _ <| Zr <| Zw h rfl <| Zw h rfl <| cT <| Zt <| dE (v := h) rfl ⟨hB, ?_⟩
 first | exact (Ia hi f) ▸ z | exact (In hi f) ▸ d
 refine c9 <| t _ _ <| Zr <| Zw e rfl <| Zw e rfl <| cT <| Zt <| dE (v := e) rfl ⟨hB, ?_⟩
 first | exact (Ia hi f) ▸ z | exact (In hi f) ▸ d
theorem BB (S : Sp) (onV mayV : Value) (xa : Value) (l : List Rw) (w : World) (hon : dM gp 4 w onV S.on) (hmay : dM gp 4 w mayV S.may) (hl : dM gv 3 w xa l) (hlb : l.length ≤ 1000000) (hlr : hU l) (h4 : S.on.length ≤ 20) :
    Fn Tryz.prog 22 #[.agg #[.int .i64 S.n, onV, mayV], xa] w fun v w' => if ju S l = true then ∃ x, v = .tuple #[x, .int .i64 0] ∧ dh gv 3 42 w' w.heap.size x (xv S l) else v = .tuple #[.slice none 0 0, .int .i64 1] := by
 refine dq (n := 61) Tryz.func22 rfl rfl (Nat.le_of_ble_eq_true rfl) ?_
 have hB : Below w.heap.size w w := Below.refl _ _
 refine Zr <| Zy (dU (c := #[_, _, _]) rfl rfl fun t W3 u D a => ?_)
 have Y := ZO u hB
 clear u
 replace hB := Ze hB D
 refine Zw (.slice none 0 0) rfl <| Zw (.int .i64 0) rfl <| cT <| cY fun K6 E => Zr <| Zv (db rfl eV rfl a) <| Zw xa rfl <| ZC (vs := [.agg #[_, _, _], xa]) Ii (qQ S _ _ _ l _ (Below.slT hB hon) (Below.slT hB hmay) (Below.slT hB hl) Om hlr h4) rfl fun Z aa y F => ?_
 replace hB := Ze hB y
 replace a := y.at a
 obtain rfl := F
 refine Zv (fy rfl) <| cT <| ZQ rfl (fun s => ?_) fun s => ?_
 refine Zr <| Zw (.slice none 0 0) rfl <| Zw (.int .i64 1) rfl <| cT <| Zt <| dZ (v := .slice none 0 0) rfl (v1 := .int .i64 1) rfl ⟨hB, ?_⟩
 rw [if_neg (by rw [show ju S l = false from jc s]; decide)]
 refine c9 <| E _ _ ?_
 have hc : ju S l = true := ie s
 have hp := Jo hc
 obtain ⟨hr0, hr8, hr1, hr4, hr5, _⟩ := d7.1 (gX.1 hc).1
 refine Zr <| Zy (zg dT fun G ab z A H => ?_)
 have I := ZO z hB
 clear z
 replace hB := Ze hB A
 replace a := A.at a
 have m := sy (enc := gv) (sz := 3) H I
 refine Zw xa rfl <| Zy (ez (v := .slice (some ⟨G, 0, none⟩) 0 0) (v2 := xa) rfl rfl dT iu Dd m (Below.slT hB hl) (kA) (by have := Below.size hB; omega) (by first | omega | (simp; omega) | (simp only [cV, cW, cX, da, de]; omega)) (by first | omega | (simp; omega) | (simp only [cV, cW, cX, da, de]; omega)) fun o ac B b => ?_)
 replace b := dh.app (enc := gv) rfl rfl rfl rfl b
 replace hB := ZG hB B m
 replace a := At.grownOw a m B Dd
 clear m
 rw [List.nil_append] at b
 refine Zw o rfl <| cT <| cY fun ad J => Zr <| Zw (.int .i64 0) rfl <| cT <| c7 ?_
 refine dw (σ := (Nat) × (Value)) [6, 7, 8, 9, 10, 18, 19, 20, 21, 22, 23, 24, 25, 26, 27, 28, 29, 30, 31, 32, 33, 34, 35, 36, 37, 38, 39, 40, 41, 42, 43, 44, 45, 46, 47, 48, 49, 50, 51, 52, 53, 54, 55, 56, 57, 58, 59] (fun (j, v0) => [(7, .int .i64 ((qO S l j).length : Int)), (6, v0)]) (fun sg W => match sg with | (j, v0) => (Below w.heap.size w W) ∧ (At W t _ 24) ∧ (dh gv 3 42 W w.heap.size o _) ∧ (dh gv 3 42 W w.heap.size v0 (qO S l j ++ l.drop j)) ∧ (j ≤ l.length) ∧ (True)) (fun (j, v0) => l.length - j) ((0, o)) ⟨rfl, rfl, trivial⟩ ⟨hB, a, b, (by exact b), (Nat.zero_le _), trivial⟩ ?_
 clear hB a b
 rintro ⟨j, v0⟩ ae af ⟨hB, a, b, ho, hj, _⟩ ag C
 refine cY fun ah K => ?_
 have hdl := KR (S := S) (l := l) (j := j)
 have hal := DG S l j
 refine Zr <| Zi rfl <| Zw v0 rfl <| Zv (dA (v := v0) rfl ho.sl dT) <| Zv (dL rfl rfl) <| cT <| ZQ rfl (fun L => ?_) fun L => ?_
 refine c9 <| K _ _ <| c7 ?_
 have hjl : j < l.length := by omega
 refine Zr <| Zw v0 rfl <| Zv (dA (v := v0) rfl ho.sl dT) <| Zi rfl <| cT <| cY fun ai M => Zr <| Zf rfl fF <| ZL onV rfl eE a rfl <| Zv (dA (v := onV) rfl (Below.slT hB hon) ea) <| Zw (.int .i64 0) rfl <| cT <| c7 ?_
 refine dw (σ := (Nat) × (Value)) [6, 9, 10, 27, 28, 29, 30, 31, 32, 33, 34, 35, 36, 37, 38, 39, 40, 41, 42, 43, 44, 45, 46, 47, 48, 49, 50, 51, 52, 53] (fun (k, v1) => [(27, .int .i64 (k : Int)), (6, v1)]) (fun sg W => match sg with | (k, v1) => (Below w.heap.size w W) ∧ (At W t _ 24) ∧ (dh gv 3 42 W w.heap.size o _) ∧ (dh gv 3 42 W w.heap.size v1 (vm S l j k)) ∧ (k ≤ S.on.length) ∧ (True)) (fun (k, v1) => S.on.length - k) ((0, v0)) ⟨rfl, rfl, trivial⟩ ⟨hB, a, b, (by rw [← H3 hp hjl]; exact ho), (Nat.zero_le _), trivial⟩ ?_
 clear hB a b ho
 rintro ⟨k, v1⟩ aj ak ⟨hB, a, b, hoo, hk, _⟩ al p
 refine Zr <| Zv (dL rfl rfl) <| cT <| cY fun ao N => ZQ rfl (fun O => ?_) fun O => ?_
 refine c9 <| N _ _ <| cY fun ap q => c7 <| Zr <| Zi rfl <| Zi rfl <| cT <| cY fun aq P => ?_
 have htl := BQ (S := S) (l := l) (j := j) (k := k)
 obtain ⟨hk1, hk2, hk3⟩ := QU (wP S l j k)
 have htb := Pz (S := S) hlr hjl k
 have hget : (tl (wP S l j k)).length = 1 → (vm S l j k).getD (((qO S l j).length : Nat) : Int).toNat ⟨⟨0, 0⟩, 0⟩ = wP S l j k := fun h => by rw [Int.toNat_natCast]; exact LN (hk2 h)
 refine Zr <| Zw v1 rfl <| Zv (dA (v := v1) rfl hoo.sl dT) <| Zi rfl <| Zv (dL rfl rfl) <| ZX rfl (fun Q => ?_) fun Q => ?_
 refine Zs <| Zs <| Zs <| Zs <| Zs <| Zs <| Zs <| Zs <| Zs <| Zw (.bool true) rfl <| cT <| dz rfl <| dr <| q _ _ ?_
 refine cZ <| Zv (dp rfl rfl Om Om) <| Zi rfl <| cT ?_
 exact p _ _ ((k + 1, v1)) Za ⟨rfl, rfl, trivial⟩ ⟨hB, a, b, (by first | (rw [← E9 hbt f]; exact hoo) | (rw [← oX (.inr f)]; exact hoo) | (rw [← oX (.inl (sj (hk3 Om)))]; exact hoo) | (rw [← oX (.inl (uI (by rw [hget Om] at d; exact d)))]; exact hoo)), Om, trivial⟩ (by show S.on.length - (k + 1) < S.on.length - k; omega)
 refine Zw v1 rfl <| Zi rfl <| Zv (dJ (v := v1) rfl hoo.sl rfl dT Om Ol75_0) <| Zf rfl fK <| Zv (dk (v := .int .u8 _) rfl ef (dM.cell hoo.sl ej ⟨⟨0, 0⟩, 0⟩ Om Ol75_0 2 rfl)) <| Zi rfl <| Zv (sL rfl rfl Om (by simp only [IntKind.bits]; omega)) <| Zv (nE (n := 1) rfl rfl rfl (by exact Nat.lt_of_le_of_lt (Nat.div_le_self _ _) (htb.any _)) Dd) <| Zv (eB rfl rfl) <| Zb rfl <| cT <| ZQ rfl (fun d => ?_) fun d => ?_
 refine dr <| q _ _ <| cZ <| Zv (dp rfl rfl Om Om) <| Zi rfl <| cT ?_
 exact p _ _ ((k + 1, v1)) Za ⟨rfl, rfl, trivial⟩ ⟨hB, a, b, (by first | (rw [← E9 hbt f]; exact hoo) | (rw [← oX (.inr f)]; exact hoo) | (rw [← oX (.inl (sj (hk3 Om)))]; exact hoo) | (rw [← oX (.inl (uI (by rw [hget Om] at d; exact d)))]; exact hoo)), Om, trivial⟩ (by show S.on.length - (k + 1) < S.on.length - k; omega)
 refine c9 <| P _ _ ?_
 have hpos : (tl (wP S l j k)).length = 1 := by omega
 rw [hget hpos] at d
 have hbt : (wN S l j k).testBit k = true := Ht d
 have hwl := Ft (vm S l j k) (qO S l j).length k
 refine Zr <| Zw v1 rfl <| Zi rfl <| Zi rfl <| ZC M8 (wj _ (vm S l j k) (qO S l j).length k _ hoo.sl Om htb Om Om) rfl fun g ar r e => ?_
 have R := dh.lt2 b
 have T := dh.lt2 hoo
 have U := (Below.size hB)
 replace hB := Ze hB r
 replace a := r.at a
 replace b := r.ow b
 replace hoo := r.ow hoo
 have au := eO.new R e
 have av := eO.new T e
 replace e := dh.mono e U
 refine Zw g rfl <| cT <| Zr <| Zv (db rfl eV rfl a) <| Zw g rfl <| ZC (vs := [.agg #[_, _, _], g]) Ii (qQ S _ _ _ (lP (vm S l j k) (qO S l j).length k) _ (Below.slT hB hon) (Below.slT hB hmay) e.sl Om (Lk htb Om k) h4) rfl fun aw ax i V => ?_
 replace hB := Ze hB i
 replace a := i.at a
 replace b := i.ow b
 replace hoo := i.ow hoo
 replace e := i.ow e
 obtain rfl := V
 refine cT <| ZQ rfl (fun f => ?_) fun f => ?_
 refine cZ <| Zw g rfl <| Zw g rfl <| cT <| q _ _ <| cZ <| Zv (dp rfl rfl Om Om) <| Zi rfl <| cT ?_
 exact p _ _ ((k + 1, g)) Za ⟨rfl, rfl, trivial⟩ ⟨hB, a, b, (by first | (rw [← E9 hbt f]; exact e) | (rw [← oX (.inr f)]; exact e) | (rw [← oX (.inl (sj (hk3 Om)))]; exact e) | (rw [← oX (.inl (uI (by rw [hget Om] at d; exact d)))]; exact e)), Om, trivial⟩ (by show S.on.length - (k + 1) < S.on.length - k; omega)
 refine c9 <| q _ _ <| cZ <| Zv (dp rfl rfl Om Om) <| Zi rfl <| cT ?_
 exact p _ _ ((k + 1, v1)) Za ⟨rfl, rfl, trivial⟩ ⟨hB, a, b, (by first | (rw [← E9 hbt f]; exact hoo) | (rw [← oX (.inr f)]; exact hoo) | (rw [← oX (.inl (sj (hk3 Om)))]; exact hoo) | (rw [← oX (.inl (uI (by rw [hget Om] at d; exact d)))]; exact hoo)), Om, trivial⟩ (by show S.on.length - (k + 1) < S.on.length - k; omega)
 refine dr <| M _ _ ?_
 obtain rfl : k = S.on.length := by omega
 have htl := BQ (S := S) (l := l) (j := j) (k := S.on.length)
 obtain ⟨hk1, hk2, hk3⟩ := QU (wP S l j S.on.length)
 have hA1 : (qO S l (j + 1)).length = (qO S l j).length + (tl (wP S l j S.on.length)).length := by rw [rx, List.length_append]
 refine Zr <| Zw v1 rfl <| Zv (dA (v := v1) rfl hoo.sl dT) <| Zi rfl <| Zv (eB rfl rfl) <| cT <| ZQ rfl (fun X => ?_) fun X => ?_
 refine cZ <| Zi rfl <| Zv (dp rfl rfl Om Om) <| Zi rfl <| cT ?_
 exact C _ _ ((j + 1, v1)) Za ⟨(by first | exact congrArg (Value.int .i64) Om | exact congrArg (Value.int .i64) (by rw [hA1]; omega)), rfl, trivial⟩ ⟨hB, a, b, (by (rw [← EQ]; exact hoo)), Om, trivial⟩ (by show l.length - (j + 1) < l.length - j; omega)
 refine c9 ?_
 exact C _ _ ((j + 1, v1)) Za ⟨(by first | exact congrArg (Value.int .i64) Om | exact congrArg (Value.int .i64) (by rw [hA1]; omega)), rfl, trivial⟩ ⟨hB, a, b, (by (rw [← EQ]; exact hoo)), Om, trivial⟩ (by show l.length - (j + 1) < l.length - j; omega)
 refine dr <| J _ _ <| Zr <| Zw v0 rfl <| Zw v0 rfl <| Zw (.int .i64 0) rfl <| cT <| Zt <| dZ (v := v0) rfl (v1 := .int .i64 0) rfl ⟨hB, ?_⟩
 obtain rfl : j = l.length := by omega
 rw [if_pos hc]
 rw [List.drop_length, List.append_nil] at ho
 exact ⟨_, rfl, ho⟩
end
end Go.Proofs.YteimkklmmanncaaGreat
