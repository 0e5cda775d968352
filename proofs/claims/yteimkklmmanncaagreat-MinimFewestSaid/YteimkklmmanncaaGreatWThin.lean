/- The family of a spec's primes: some outputs' primes, but for those that more outputs have. No program in it. The walk of the family of a spec's primes. Plain words for the document's rows: all of them in order, those that no other one holds. No program in it. Plain words for thinning: rows without w -/
import Derived.Test.YteimkklmmanncaaGreatT6
namespace Go.Proofs.YteimkklmmanncaaGreat
set_option linter.unusedVariables false
set_option linter.unusedSimpArgs false
section
open Go Go.RowKit
abbrev nN (S : Sp) : Nat := S.n.toNat
def FS (S : Sp) (o j y : Nat) : Prop := tj (nN S) (f4 S o) y ∧ ∀ p, o < p → p < j → p &&& o = o → ¬ tj (nN S) (f4 S p) y
def G0 (S : Sp) (j x : Nat) : Prop := ∃ o, 1 ≤ o ∧ o < j ∧ ∃ y, FS S o (2 ^ S.may.length) y ∧ x = y + o * 65536
section
variable {S : Sp} {o p j x y : Nat}
theorem RP : FS S o (o + 1) = tj (nN S) (f4 S o) := fP fun y => ⟨fun h => h.1, fun h => ⟨h, fun p h1 h2 => by omega⟩⟩
theorem RQ (h : j &&& o = o) (hj : o < j) : FS S o (j + 1) = fun y => FS S o j y ∧ ¬ tj (nN S) (f4 S j) y := fP fun y => by
 unfold FS
 constructor
 ·rintro ⟨h1, h2⟩
  exact ⟨⟨h1, fun p a b => h2 p a (by omega)⟩, h2 j hj (by omega) h⟩
 ·rintro ⟨⟨h1, h2⟩, h3⟩
  refine ⟨h1, fun p a b c => ?_⟩
  by_cases e : p = j
  ·subst e; exact h3
  ·exact h2 p a (by omega) c
theorem RL (h : ¬ j &&& o = o) : FS S o (j + 1) = FS S o j := fP fun y => by
 unfold FS
 constructor
 ·rintro ⟨h1, h2⟩
  exact ⟨h1, fun p a b => h2 p a (by omega)⟩
 ·rintro ⟨h1, h2⟩
  refine ⟨h1, fun p a b c => ?_⟩
  by_cases e : p = j
  ·subst e; exact absurd c h
  ·exact h2 p a (by omega) c
theorem QR : G0 S 1 = fun _ => False := fP fun x => ⟨fun ⟨o, h1, h2, _⟩ => by omega, fun h => h.elim⟩
theorem Oe (h : 1 ≤ o) : G0 S (o + 1) x ↔ G0 S o x ∨ ∃ y, FS S o (2 ^ S.may.length) y ∧ x = y + o * 65536 := by
 constructor
 ·rintro ⟨q, h1, h2, h3⟩
  by_cases e : q = o
  ·subst e; exact .inr h3
  ·exact .inl ⟨q, h1, by omega, h3⟩
 ·rintro (⟨q, h1, h2, h3⟩ | h3)
  ·exact ⟨q, h1, by omega, h3⟩
  ·exact ⟨o, h, by omega, h3⟩
theorem mL (hr : dL S = true) : nN S ≤ 8 ∧ S.n = (nN S : Int) ∧ S.may.length ≤ 4 := by
 obtain ⟨h0, h8, _, h4, h5, _⟩ := dX.1 hr
 unfold nN
 omega
theorem Kr (hr : dL S = true) (o : Nat) : un (nN S) (f4 S o) 0 := by
 obtain ⟨h8, hn, _⟩ := mL hr
 have := Jm hr o
 rw [hn] at this
 exact (Ql this).2
theorem EK (hr : dL S = true) (h : FS S o j y) : y < 65536 := by
 obtain ⟨h8, _, _⟩ := mL hr
 have h1 := zi h8 h.1
 have h2 : 2 ^ (2 * nN S) ≤ 2 ^ 16 := Nat.pow_le_pow_right (by decide) (by omega)
 exact Nat.lt_of_lt_of_le h1 h2
theorem KJ (hr : dL S = true) {c : Cb} (h1 : 1 ≤ o) (ho : o < 2 ^ S.may.length) : mS S ⟨c, o⟩ = true ↔ gS c.m c.v (f4 S o) (nN S : Int) = true ∧ ∀ p, o < p → p < 2 ^ S.may.length → p &&& o = o → ¬ gS c.m c.v (f4 S p) (nN S : Int) = true := by
 obtain ⟨h8, hn, _⟩ := mL hr
 have wi : ∀ q, q < 2 ^ S.may.length → (nh c.m c.v (f4 S q) S.n = true ↔ dZ c.m c.v S.n = true ∧ ∀ j, q.testBit j = true → j < S.may.length ∧ nh c.m c.v (iM S j) S.n = true) := fun q hq => by
  rw [tI]
  refine and_congr_right fun _ => ⟨fun h j hj => ?_, fun h j _ hj => (h j hj).2⟩
  have hlt : j < S.may.length := by
   rcases Nat.lt_or_ge j S.may.length with k | k
   ·exact k
   ·rw [fZ.1 hq j k] at hj; cases hj
  exact ⟨hlt, h j hlt hj⟩
 have le : ∀ q : Nat, (∀ j, q.testBit j = true → (jT S c).testBit j = true) ↔ ∀ j, q.testBit j = true → j < S.may.length ∧ nh c.m c.v (iM S j) S.n = true := fun q => by
  refine forall_congr' fun j => imp_congr_right fun _ => ?_
  exact fw _
 have out_lt : jT S c < 2 ^ S.may.length := qC S c _
 have prim : ∀ q : Nat, gS c.m c.v (f4 S q) (nN S : Int) = true → nh c.m c.v (f4 S q) S.n = true := fun q hq => by rw [hn]; exact (fR.1 hq).1
 have sub : ∀ (q q' : Nat) (d : Cb), (∀ j, q.testBit j = true → q'.testBit j = true) → EF (nN S) (f4 S q') d → EF (nN S) (f4 S q) d := fun q q' d hq hw p hp hh => by
  have := hw p hp hh
  rw [iw] at this ⊢
  exact ⟨this.1, fun j hj hb => this.2 j hj (hq j hb)⟩
 rw [fe, fz]
 constructor
 ·rintro ⟨⟨_, _, hin⟩, hout, hp⟩
  rw [hn] at hp
  refine ⟨hp, fun q h3 h4 h5 hq => ?_⟩
  have h6 := ((wi q h4).1 (prim q hq)).2
  have h7 := (le q).2 h6
  rw [hout] at h7
  have : q = o := Nat.eq_of_testBit_eq fun j => by
   have h8 := congrArg (fun z => z.testBit j) h5
   simp only [Nat.testBit_and] at h8
   cases e1 : q.testBit j with
   | true => exact (h7 j e1).symm
   | false => rw [e1, Bool.false_and] at h8; exact h8
  omega
 ·rintro ⟨hp, hno⟩
  have hw := (wi o ho).1 (prim o hp)
  have hle := (le o).2 hw.2
  have hout : jT S c = o := by
   refine Decidable.byContradiction fun hne => ?_
   have hand : jT S c &&& o = o := Nat.eq_of_testBit_eq fun j => by
    rw [Nat.testBit_and]
    cases e : o.testBit j with
    | true => rw [hle j e]; rfl
    | false => rw [Bool.and_false]
   have hge : o ≤ jT S c := by rw [← hand]; exact Nat.and_le_left
   refine hno (jT S c) (by omega) out_lt hand ?_
   obtain ⟨g1, g2, g3⟩ := (fT h8).1 hp
   refine (fT h8).2 ⟨g1, ?_, fun i hi hb hq => g3 i hi hb (sub o _ _ hle hq)⟩
   have hwo : nh c.m c.v (f4 S (jT S c)) S.n = true := (wi _ out_lt).2 ⟨hw.1, fun j hj => (fw _).1 hj⟩
   have := gn.1 hwo
   have h9 := this.2
   unfold nN
   exact h9
  refine ⟨⟨hr, h1, hw.2⟩, hout, ?_⟩
  rw [hn]
  exact hp
theorem Cg (hr : dL S = true) : G0 S (2 ^ S.may.length) x ↔ ∃ r, r ∈ eV S ∧ x = A6 r := by
 obtain ⟨h8, hn, h4⟩ := mL hr
 have h16 := DR h4
 have h256 := f6 h8
 constructor
 ·rintro ⟨o, h1, h2, y, ⟨⟨c, hc, rfl⟩, hno⟩, rfl⟩
  refine ⟨⟨c, o⟩, (m6 hr).2 ((KJ hr h1 h2).2 ⟨hc, fun p a b d hp => hno p a b d ⟨c, hp, rfl⟩⟩), ?_⟩
  unfold A6
  rw [Nat.mod_eq_of_lt (show o < 16 by omega)]
 ·rintro ⟨⟨c, o⟩, hm, rfl⟩
  have hp := (m6 hr).1 hm
  have ho : 0 < o ∧ o < 2 ^ S.may.length := by
   have h3 := (fe.1 hp).1
   exact ⟨(fz.1 h3).2.1, (lS h3).1⟩
  obtain ⟨g1, g2⟩ := (KJ hr ho.1 ho.2).1 hp
  refine ⟨o, ho.1, ho.2, qW c, ⟨⟨c, g1, rfl⟩, fun p a b d ⟨c', hc', e⟩ => ?_⟩, ?_⟩
  ·have r1 := ((fT h8).1 g1).1
   have r2 := ((fT h8).1 hc').1
   have := CF (by have := r1.m; omega) (by have := r2.m; omega) r1.v r2.v e
   rw [← this] at hc'
   exact g2 p a b d hc'
  ·unfold A6
   rw [Nat.mod_eq_of_lt (show o < 16 by omega)]
end
theorem Wf.prefix {ns ns' : List Nd} (h : Wf ns') (hp : ns <+: ns') : Wf ns := by
 have hl := gk hp
 refine ⟨List.Nodup.sublist hp.sublist h.nd, fun i hi => ?_⟩
 have k := h.ok i (by omega)
 rw [si hp hi] at k
 obtain ⟨k1, k2, k3, k4, k5, k6⟩ := k
 exact ⟨k1, k2, k3, by rwa [gP hp (by omega)] at k4, by rwa [gP hp (by omega)] at k5, k6⟩
theorem Ml (o : Nat) : vt 0 [((o * 65536 : Nat) : Int)] ≤ 24 := Kn [((o * 65536 : Nat) : Int)]
def bF (S : Sp) : Nat := tC (nN S) + 2 * nN S * 3 ^ nN S
def bO (S : Sp) : Nat := 2 ^ S.may.length * bF S + 24 + rn (16 + S.may.length) * 3 ^ nN S + (16 + S.may.length) * 3 ^ nN S
structure Pb (ns nsc : List Nd) (R : Nat) (S : Sp) (j : Nat) (ec : Int) (out : Nat) : Prop where
 v : out < nsc.length + 2
 pre : ns <+: nsc
 st : ∃ c, c ≤ (j - 1) * bO S ∧ uB ns nsc R c ec
 m : ec = 0 → M nsc out = G0 S j
structure OC (nsc nsi : List Nd) (R : Nat) (S : Sp) (o j : Nat) (ec ei : Int) (f : Nat) : Prop where
 v : f < nsi.length + 2
 pre : nsc <+: nsi
 st : ec = 0 → ∃ c, c ≤ (j - o) * bF S ∧ uB nsc nsi R c ei
 err : ¬ ec = 0 → ei = ec
 m : ei = 0 → M nsi f = FS S o j
 crd : ei = 0 → (dS nsi f).length ≤ 3 ^ nN S
section
variable {ns nsc nsi ns1 ns2 ns3 ns4 : List Nd} {R o j out f id idl idg idj ido lL lG lJ lO cG : Nat} {S : Sp} {ec ei e1 erL erG erJ erO : Int}
theorem KT : Pb ns ns R S 1 0 0 := ⟨by omega, List.prefix_refl _, ⟨0, Nat.zero_le _, uB.refl⟩, fun _ => by rw [QR]; exact fP fun x => ⟨fun h => Hq ns x h, fun h => h.elim⟩⟩
theorem Hu (p : Kh nsc ns1 R ec e1 (nN S) 0 (f4 S o) id) : OC nsc ns1 R S o (o + 1) ec e1 id :=
 ⟨p.v, p.pre, fun z => ⟨_, by rw [Nat.sub_zero, show o + 1 - o = 1 by omega, Nat.one_mul]; exact Nat.le_add_right _ _, p.sta z⟩, p.err, fun z => by rw [RP]; exact p.m z, fun z => p.crd z⟩
theorem LB (hr : dL S = true) (hw : Wf ns2) (h : OC nsc nsi R S o j ec ei f) (hj : o < j) (hb : j &&& o = o) (p : Kh nsi ns1 R ei e1 (nN S) 0 (f4 S j) id) (gL : jL ns1 ns2 R (te.cst ns1 f id) lL (te.res (M ns1 f) (M ns1 id)) idl erL) : OC nsc ns2 R S o (j + 1) ec (ix e1 erL) (jV e1 erL idl) := by
 obtain ⟨h8, _, _⟩ := mL hr
 have hw1 := hw.prefix gL.pre
 have hpl := gk p.pre
 have hv := h.v
 have cL : e1 = 0 → te.cst ns1 f id ≤ 2 * nN S * 3 ^ nN S := fun z1 => by
  have z0 := kc p.err z1
  have t1 : tp ns1 f ≤ 2 * nN S := lM.2 fun x hx => by
   have hx' : M ns1 f x := hx
   rw [iG p.pre h.v, h.m z0] at hx'
   exact zi h8 hx'.1
  have t2 : tp ns1 id ≤ 2 * nN S := lM.2 fun x hx => by
   have hx' : M ns1 id x := hx
   rw [p.m z1] at hx'
   exact zi h8 hx'
  refine Nat.le_trans (Mv hw1 DW.endF (by omega) p.v t1 t2) (Nat.mul_le_mul (Nat.sub_le _ _) ?_)
  have := p.crd z1
  rw [Nat.sub_zero] at this
  exact Nat.le_trans (Nat.min_le_right _ _) this
 refine ⟨oS gL.valid, (h.pre.trans p.pre).trans gL.pre, fun z => ?_, fun z => ?_, fun z => ?_, fun z => ?_⟩
 ·obtain ⟨c, hc, s⟩ := h.st z
  have s1 := s.step (c2 := tC (nN S - 0)) (fun z => p.sta z) (fun z => ⟨p.pre, p.err z⟩)
  refine ⟨_, ?_, s1.did gL (c2 := 2 * nN S * 3 ^ nN S) cL⟩
  rw [Nat.sub_zero, show j + 1 - o = (j - o) + 1 by omega, Nat.add_mul, Nat.one_mul]
  unfold bF at hc ⊢
  omega
 ·have h1 := h.err z
  have h2 := p.err (by rw [h1]; exact z)
  unfold ix
  rw [if_neg (by rw [h2, h1]; exact z), h2, h1]
 ·obtain ⟨z1, z2⟩ := g6.1 z
  rw [lp z, RQ hb hj, show M ns2 idl = te.res (M ns1 f) (M ns1 id) from fP (gL.ok z2).2.2, iG p.pre h.v, h.m (kc p.err z1), p.m z1]
  rfl
 ·obtain ⟨z1, z2⟩ := g6.1 z
  rw [lp z]
  have hg := gL.ok z2
  have hsub : ∀ x, x ∈ dS ns2 idl → x ∈ dS nsi f := fun x hx => by
   have hx' : M ns1 f x := ((hg.2.2 x).1 hx).1
   rw [iG p.pre h.v] at hx'
   exact hx'
  exact Nat.le_trans (HF hw hg.1 hsub) (h.crd (kc p.err z1))
theorem M2 (h : OC nsc nsi R S o j ec ei f) (hb : ¬ j &&& o = o) : OC nsc nsi R S o (j + 1) ec ei f :=
 ⟨h.v, h.pre, fun z => by obtain ⟨c, hc, s⟩ := h.st z; exact ⟨c, Nat.le_trans hc (Nat.mul_le_mul_right _ (by omega)), s⟩, h.err, fun z => by rw [RL hb]; exact h.m z, h.crd⟩
theorem LF (hr : dL S = true) (hw : Wf ns3) (hcG : cG ≤ 24) (ho : Pb ns nsc R S o ec out) (h1 : 1 ≤ o) (h16 : o < 16) (hom : o < 2 ^ S.may.length) (h : OC nsc nsi R S o (2 ^ S.may.length) ec ei f)
  (gG : jL nsi ns1 R cG lG (bS [((o * 65536 : Nat) : Int)] 0) idg erG) (gJ : jL ns1 ns2 R (qc.cst ns1 f (jV ei erG idg)) lJ (qc.res (M ns1 f) (M ns1 (jV ei erG idg))) idj erJ)
  (gO : jL ns2 ns3 R (n4.cst ns2 out (jV (ix ei erG) erJ idj)) lO (n4.res (M ns2 out) (M ns2 (jV (ix ei erG) erJ idj))) ido erO) :
  Pb ns ns3 R S (o + 1) (ix (ix (ix ei erG) erJ) erO) (jV (ix (ix ei erG) erJ) erO ido) := by
 have p1 := gk h.pre
 have p2 := gk gG.pre
 have p3 := gk gJ.pre
 have hv := h.v
 have hov := ho.v
 have hw2 := hw.prefix gO.pre
 have hw1 := hw2.prefix gJ.pre
 have hg0 : erG = 0 → M ns1 idg = fun x => x = o * 65536 := fun zG => fP fun x => by
  refine ((gG.ok zG).2.2 x).trans ?_
  constructor
  ·rintro ⟨m, hm, e⟩
   rw [List.mem_singleton.1 hm, Int.toNat_natCast, yJ] at e
   exact e
  ·rintro rfl
   exact ⟨_, List.mem_singleton.2 rfl, by rw [Int.toNat_natCast, yJ]⟩
 have key : ∀ y, FS S o (2 ^ S.may.length) y → y ||| o * 65536 = y + o * 65536 := fun y hy => by
  have hlt := EK hr hy
  have e := Nat.two_pow_add_eq_or_of_lt (i := 16) hlt o
  have e16 : (2 : Nat) ^ 16 = 65536 := rfl
  rw [e16] at e
  rw [Nat.or_comm, Nat.mul_comm, ← e, Nat.add_comm]
 have e16 : (2 : Nat) ^ (16 + S.may.length) = 65536 * 2 ^ S.may.length := by rw [Nat.pow_add]
 have big : ∀ y q, y < 65536 → q < 2 ^ S.may.length → y + q * 65536 < 2 ^ (16 + S.may.length) := fun y q hy hq => by
  rw [e16]
  have : (q + 1) * 65536 ≤ 65536 * 2 ^ S.may.length := by rw [Nat.mul_comm]; exact Nat.mul_le_mul_left _ hq
  omega
 have cJ : ix ei erG = 0 → qc.cst ns1 f (jV ei erG idg) ≤ rn (16 + S.may.length) * 3 ^ nN S := fun z2 => by
  obtain ⟨z1, zG⟩ := g6.1 z2
  rw [lp z2]
  have t1 : tp ns1 f ≤ 16 + S.may.length := lM.2 fun x hx => by
   have hx' : M ns1 f x := hx
   rw [iG gG.pre h.v, h.m z1] at hx'
   have := big x 0 (EK hr hx') (by omega)
   omega
  have t2 : tp ns1 idg ≤ 16 + S.may.length := lM.2 fun x hx => by
   have hx' : M ns1 idg x := hx
   rw [hg0 zG] at hx'
   have := big 0 o (by omega) hom
   omega
  have l1 : (dS ns1 f).length ≤ 3 ^ nN S := by rw [gI gG.pre h.v]; exact h.crd z1
  have l2 : (dS ns1 idg).length ≤ 1 := jd (l2 := [o * 65536]) (jx hw1 idg (gG.ok zG).1) fun x hx => by
   have hx' : M ns1 idg x := hx
   rw [hg0 zG] at hx'
   exact List.mem_singleton.2 hx'
  refine Nat.le_trans (Rk hw1 (by omega) (gG.ok zG).1 t1 t2) (Nat.mul_le_mul (pI (Nat.sub_le _ _)) ?_)
  exact Nat.le_trans (Nat.mul_le_mul l1 l2) (Nat.le_of_eq (Nat.mul_one _))
 have hj0 : ix (ix ei erG) erJ = 0 → M ns2 idj = fun x => ∃ y, FS S o (2 ^ S.may.length) y ∧ x = y + o * 65536 := fun z3 => fP fun x => by
  obtain ⟨z2, zJ⟩ := g6.1 z3
  obtain ⟨z1, zG⟩ := g6.1 z2
  refine ((gJ.ok zJ).2.2 x).trans ?_
  rw [lp z2, hg0 zG, iG gG.pre h.v, h.m z1]
  show mN _ _ x ↔ _
  constructor
  ·rintro ⟨y, b, hy, rfl, rfl⟩
   exact ⟨y, hy, key y hy⟩
  ·rintro ⟨y, hy, rfl⟩
   exact ⟨y, _, hy, rfl, (key y hy).symm⟩
 have cO : ix (ix ei erG) erJ = 0 → n4.cst ns2 out (jV (ix ei erG) erJ idj) ≤ (16 + S.may.length) * 3 ^ nN S := fun z3 => by
  obtain ⟨z2, zJ⟩ := g6.1 z3
  obtain ⟨z1, zG⟩ := g6.1 z2
  have zc := kc h.err z1
  rw [lp z3]
  have t1 : tp ns2 out ≤ 16 + S.may.length := lM.2 fun x hx => by
   have hx' : M ns2 out x := hx
   rw [iG ((h.pre.trans gG.pre).trans gJ.pre) ho.v, ho.m zc] at hx'
   obtain ⟨q, q1, q2, y, hy, rfl⟩ := hx'
   exact big y q (EK hr hy) (by omega)
  have t2 : tp ns2 idj ≤ 16 + S.may.length := lM.2 fun x hx => by
   have hx' : M ns2 idj x := hx
   rw [hj0 z3] at hx'
   obtain ⟨y, hy, rfl⟩ := hx'
   exact big y o (EK hr hy) hom
  refine Nat.le_trans (Mv hw2 Es.endF (by omega) (gJ.ok zJ).1 t1 t2) (Nat.mul_le_mul (Nat.sub_le _ _) (Nat.le_trans (Nat.min_le_right _ _) ?_))
  have := jd (l2 := (dS nsi f).map fun y => y + o * 65536) (jx hw2 idj (gJ.ok zJ).1) fun x hx => by
   have hx' : M ns2 idj x := hx
   rw [hj0 z3] at hx'
   obtain ⟨y, hy, rfl⟩ := hx'
   refine List.mem_map.2 ⟨y, ?_, rfl⟩
   show M nsi f y
   rw [h.m z1]; exact hy
  rw [List.length_map] at this
  exact Nat.le_trans this (h.crd z1)
 refine ⟨oS gO.valid, ho.pre.trans (((h.pre.trans gG.pre).trans gJ.pre).trans gO.pre), ?_, fun z => fP fun x => ?_⟩
 ·obtain ⟨c, hc, s⟩ := ho.st
  have s0 : ∃ c', c' ≤ (o - 1) * bO S + 2 ^ S.may.length * bF S ∧ uB ns nsi R c' ei := by
   by_cases z : ec = 0
   ·obtain ⟨c2, hc2, s2⟩ := h.st z
    exact ⟨_, Nat.add_le_add hc (Nat.le_trans hc2 (Nat.mul_le_mul_right _ (Nat.sub_le _ _))), s.step (fun _ => s2) (fun q => absurd z q)⟩
   ·exact ⟨_, by omega, s.step (c2 := 0) (fun q => absurd q z) (fun _ => ⟨h.pre, h.err z⟩)⟩
  obtain ⟨c0, hc0, s0⟩ := s0
  have s1 := s0.did gG (c2 := 24) fun _ => hcG
  have s2 := s1.did gJ (c2 := _) cJ
  refine ⟨_, ?_, s2.did gO (c2 := _) cO⟩
  have e : (o + 1 - 1) * bO S = (o - 1) * bO S + bO S := by rw [show o + 1 - 1 = (o - 1) + 1 by omega, Nat.add_mul, Nat.one_mul]
  rw [e]
  unfold bO at hc0 ⊢
  omega
 ·obtain ⟨z3, zO⟩ := g6.1 z
  obtain ⟨z2, zJ⟩ := g6.1 z3
  obtain ⟨z1, zG⟩ := g6.1 z2
  have zc := kc h.err z1
  have hj := hj0 z3
  rw [lp z, Oe h1]
  refine ((gO.ok zO).2.2 x).trans ?_
  show (M ns2 out x ∨ M ns2 (jV (ix ei erG) erJ idj) x) ↔ _
  rw [lp z3, hj, iG ((h.pre.trans gG.pre).trans gJ.pre) ho.v, ho.m zc]
end
theorem Qs {o : Nat} (h : o < 16) : zX [((o * 65536 : Nat) : Int)] = true := qG.2 fun m hm => by
 rw [List.mem_singleton.1 hm]
 omega
def Qv (R : Nat) (ns : List Nd) (S : Sp) (ns' : List Nd) (id : Nat) (er : Int) : Prop := Pb ns ns' R S (2 ^ S.may.length) er id ∧ (¬ er = 0 → id = 0)
theorem Q0 {ns ns' : List Nd} {R id : Nat} {S : Sp} {e : Int} (h : Pb ns ns' R S (2 ^ S.may.length) e id) (hz : e = 0) : Qv R ns S ns' id 0 := by
 subst hz
 exact ⟨h, fun z => absurd rfl z⟩
theorem MP {ns ns' : List Nd} {R id : Nat} {S : Sp} {e : Int} (h : Pb ns ns' R S (2 ^ S.may.length) e id) (hz : ¬ e = 0) : Qv R ns S ns' 0 e :=
 ⟨⟨by omega, h.pre, h.st, fun z => absurd z hz⟩, fun _ => rfl⟩
theorem P0 {ns ns' : List Nd} {R id : Nat} {S : Sp} {e : Int} (h : Qv R ns S ns' id e) : e = 0 ∨ e = 5 := by
 obtain ⟨c, _, s⟩ := h.1.st
 exact s.ers
end
section
open Go Go.RowKit
theorem Ol72_0 {p : Prop} (h : p := by first | omega | (simp only [cV, cW, cX, da]; omega)) : p := h
theorem ja : fC Tryz.prog 142 = true := by kernel_rfl
theorem MF : eQ Tryz.prog 144 = some (.agg #[.pointer none, .int .i64 0]) := by kernel_rfl
theorem qD : (Tryz.prog.info? 30).map (·.size) = some 1 := by kernel_rfl
theorem xY {f : Nat → Value} {w : World} {d : Option Nat} {ty : TypeId} {ps : String} {af : Array Edge} {g : Option (Nat × Bool)} {x0 : Operand} {c0_0 : Value} (h0 : dQ f x0 = c0_0) (k0 : c0_0.cells = #[c0_0]) :
    (execOp (dQ f) ⟨d, .build 144 #[(0, x0)], ty, ps, af, g⟩).run Tryz.prog w = .ok (.value (.agg #[c0_0, .int .i64 0])) w := by
  obtain ⟨i0, hi0, hz0⟩ := Option.bind_eq_some_iff.1 (show (Tryz.prog.info? 144).bind (·.zero) = _ from MF)
  obtain ⟨j30, hj30, hs30⟩ := Option.map_eq_some_iff.1 qD
  obtain ⟨j102, hj102, hs102⟩ := Option.map_eq_some_iff.1 wh
  simp [execOp, h0, k0, Instr.build, zeroValue, typeInfo, sizeOf, hi0, hz0, run_underlying Tryz.underlying144, Instr.fill, ff, hj30, hs30, hj102, hs102]
theorem Mf : eQ Tryz.prog 142 = some (.pointer none) := by kernel_rfl
theorem EG : dD Tryz.prog 100 = true := by kernel_rfl
set_option maxRecDepth 10000 in
theorem pE (w0 : World) (ba bm bz bc R : Nat) (ns : List Nd) (e : Int) (S : Sp) (onV mayV : Value) (o ball bs bp : Nat) (w : World) (hB : Below w0.heap.size w0 w) (hz : At w bz #[.pointer (some ⟨ba, 0, none⟩)] 141) (hD : fL 163 188 w0.heap.size ba bm R w ns) (hc : At w bc #[.pointer (some ⟨bz, 0, none⟩), .int .i64 e] 144) (loc : w0.heap.size ≤ bc) (hr : dL S = true) (hon : dO fQ 4 w0 onV S.on) (hmay : dO fQ 4 w0 mayV S.may) (hal : At w ball #[wv (ft (nN S)) 0, wv (ft (nN S)) 1, wv (ft (nN S)) 2, wv (ft (nN S)) 3] 49) (hsp : At w bs #[.int .i64 ((nN S : Nat) : Int), onV, mayV] 24) (hbp : At w bp #[.pointer (some ⟨bc, 0, none⟩)] 142) (ho : o < 16) :
    rg Tryz.prog 100 #[.int .i64 (o : Int), .pointer (some ⟨ball, 0, none⟩), .pointer (some ⟨bs, 0, none⟩), .pointer (some ⟨bp, 0, none⟩)] w fun v w' => ∃ (ns' : List Nd) (e' : Int) (id : Nat), v = .int .i64 (id : Int) ∧ Dc 188 144 w0.heap.size bc bz ba bm w w' ∧ At w' bz #[.pointer (some ⟨ba, 0, none⟩)] 141 ∧ fL 163 188 w0.heap.size ba bm R w' ns' ∧ At w' bc #[.pointer (some ⟨bz, 0, none⟩), .int .i64 e'] 144 ∧ Kh ns ns' R e e' (nN S) 0 (f4 S o) id := by
 refine fc (n := 33) Tryz.func100 rfl rfl (Nat.le_of_ble_eq_true rfl) ?_
 have hX : Dc 188 144 w0.heap.size bc bz ba bm w w := Dc.refl
 have hwf := hD.wf
 have hroom := hD.room
 have htop := hD.top
 obtain ⟨h8, hSn, B⟩ := mL hr
 have Q := DR B
 refine Zr <| Zw (.int .i64 0) rfl <| cT <| Zr <| Zv (db rfl df rfl hal) <| Zy (dw eR rfl fun r W5 p h a => ?_)
 have q := ZO p hB
 have s := Zn p hal.lt
 have t : w.heap.size ≤ r := p ▸ hX.dx.size
 clear p
 replace hz := h.at hz
 replace hc := h.at hc
 replace hD := fL.ext h hD
 replace hX := Dc.trans hX (Dc.ext h)
 replace hal := h.at hal
 replace hsp := h.at hsp
 replace hbp := h.at hbp
 replace hB := Ze hB h
 replace a : At W5 r #[wv 0 0, wv 0 1, wv 0 2, wv 0 3] 49 := a
 refine Zy (dg rfl rfl df rfl a rfl rfl fun W8 i C => ?_)
 replace hz := At.grownAt hz a i Dd
 replace hc := At.grownAt hc a i Dd
 replace hD := fL.grownAt hD a i Dd Dd
 replace hX := Dc.new hX t q i a Dd
 replace hal := At.grownNe hal s i
 replace hsp := At.grownAt hsp a i Dd
 replace hbp := At.grownAt hbp a i Dd
 replace hB := Zg hB i q
 replace a := C
 refine cT <| cZ fun T D => Zr <| Zf rfl fO <| ZL mayV rfl eB hsp rfl <| Zv (dB (v := mayV) rfl (Below.slT hB hmay) d5) <| Zw (.int .i64 0) rfl <| cT <| c7 ?_
 refine dz (σ := (Nat)) [7, 8, 13, 14, 15, 16, 17, 18, 19, 20, 21, 22, 23, 24, 25, 26] (fun k => [(13, .int .i64 (k : Int))]) (fun k W => (At W bz _ 141) ∧ (At W bc _ 144) ∧ (fL 163 188 w0.heap.size ba bm R W ns) ∧ (Dc 188 144 w0.heap.size bc bz ba bm w W) ∧ (At W ball _ 49) ∧ (At W bs _ 24) ∧ (At W bp _ 142) ∧ (Below w0.heap.size w0 W) ∧ (At W r #[wv (kX S o k) 0, wv (kX S o k) 1, wv (kX S o k) 2, wv (kX S o k) 3] 49) ∧ (k ≤ S.may.length) ∧ (True)) (fun k => S.may.length - k) (0) ⟨rfl, trivial⟩ ⟨hz, hc, hD, hX, hal, hsp, hbp, hB, a, (Nat.zero_le _), trivial⟩ ?_
 clear hz hc hD hX hal hsp hbp hB a
 rintro k U V ⟨hz, hc, hD, hX, hal, hsp, hbp, hB, a, hk, _⟩ X u
 refine Zr <| Zv (dN rfl rfl) <| cT <| cZ fun Y E => ZQ rfl (fun F => ?_) fun F => ?_
 refine c9 <| E _ _ <| cZ fun Z x => c7 <| Zr <| Zi rfl <| Zv (dI (v := mayV) rfl (Below.slT hB hmay) rfl d5 Om Ol72_0) <| Zv (fo rfl df (dO.cell (Below.slT hB hmay) dF 0 Om Ol72_0 0 rfl) (dO.cell (Below.slT hB hmay) dF 0 Om Ol72_0 1 rfl) (dO.cell (Below.slT hB hmay) dF 0 Om Ol72_0 2 rfl) (dO.cell (Below.slT hB hmay) dF 0 Om Ol72_0 3 rfl)) <| Zy (dw eR rfl fun y G l d b => ?_)
 have z := ZO l hB
 have H := Zn l hal.lt
 have A := Zn l a.lt
 have I : w.heap.size ≤ y := l ▸ hX.dx.size
 clear l
 replace hz := d.at hz
 replace hc := d.at hc
 replace hD := fL.ext d hD
 replace hX := Dc.trans hX (Dc.ext d)
 replace hal := d.at hal
 replace hsp := d.at hsp
 replace hbp := d.at hbp
 replace hB := Ze hB d
 replace a := d.at a
 replace b : At G y #[wv 0 0, wv 0 1, wv 0 2, wv 0 3] 49 := b
 refine Zi rfl <| Zy (dg rfl rfl df rfl b rfl rfl fun aa f J => ?_)
 replace hz := At.grownAt hz b f Dd
 replace hc := At.grownAt hc b f Dd
 replace hD := fL.grownAt hD b f Dd Dd
 replace hX := Dc.new hX I z f b Dd
 replace hal := At.grownNe hal H f
 replace hsp := At.grownAt hsp b f Dd
 replace hbp := At.grownAt hbp b f Dd
 replace hB := Zg hB f z
 replace a := At.grownNe a A f
 replace b := J
 refine cT <| Zr <| Zi rfl <| Zi rfl <| Zv (sR rfl rfl Om (by simp only [IntKind.bits]; omega)) <| Zv (nZ (n := 1) rfl rfl rfl (by simp only [d7]; have := Nat.div_le_self o (2 ^ ((k : Nat) : Int).toNat); omega) Dd) <| Zv (eD rfl rfl) <| cT <| ZQ rfl (fun m => ?_) fun m => ?_
 refine cY <| Zv (db rfl df rfl a) <| Zv (db rfl df rfl b) <| ZC (vs := [.agg #[_, _, _, _], .agg #[_, _, _, _]]) tD (qF _ _ _) rfl fun ab ac c K => ?_
 replace hz := c.at hz
 replace hc := c.at hc
 replace hD := fL.ext c hD
 replace hX := Dc.trans hX (Dc.ext c)
 replace hal := c.at hal
 replace hsp := c.at hsp
 replace hbp := c.at hbp
 replace hB := Ze hB c
 replace a := c.at a
 replace b := c.at b
 obtain rfl := K
 refine Zy (dg rfl rfl df rfl a rfl rfl fun ad g L => ?_)
 replace hz := At.grownAt hz a g Dd
 replace hc := At.grownAt hc a g Dd
 replace hD := fL.grownAt hD a g Dd Dd
 replace hX := Dc.new hX t q g a Dd
 replace hal := At.grownNe hal s g
 replace hsp := At.grownAt hsp a g Dd
 replace hbp := At.grownAt hbp a g Dd
 replace hB := Zg hB g q
 replace b := At.grownNe b (Ne.symm A) g
 replace a := L
 refine cT <| x _ _ <| cY <| Zv (dp rfl rfl Om Om) <| Zi rfl <| cT ?_
 exact u _ _ (k + 1) Za ⟨rfl, trivial⟩ ⟨hz, hc, hD, hX, hal, hsp, hbp, hB, (by first | (rw [← Fz (uW m)]; exact a) | (rw [← F4 (vz m)]; exact a)), Om, trivial⟩ Zo
 refine c9 <| x _ _ <| cY <| Zv (dp rfl rfl Om Om) <| Zi rfl <| cT ?_
 exact u _ _ (k + 1) Za ⟨rfl, trivial⟩ ⟨hz, hc, hD, hX, hal, hsp, hbp, hB, (by first | (rw [← Fz (uW m)]; exact a) | (rw [← F4 (vz m)]; exact a)), Om, trivial⟩ Zo
 refine dt <| D _ _ ?_
 obtain rfl : k = S.may.length := by omega
 refine Zr <| ZL (.pointer (some ⟨bc, 0, none⟩)) rfl ja hbp rfl <| Zv (db rfl df rfl a) <| Zv (db rfl df rfl hal) <| Zf rfl fD <| Zl rfl dC hsp rfl <| ZH (vs := [.pointer (some ⟨bc, 0, none⟩), .agg #[_, _, _, _], .agg #[_, _, _, _], .int .i64 _, .int .i64 0]) zE (NI (nN S + 1) w0.heap.size ba bm bz bc R ns e (f4 S o) (nN S) 0 _ (Below.size hB) hz hD hc loc h8 (Kr hr o) Om) rfl fun ae af M => ?_
 obtain ⟨ag, e8_5, ah, rfl, j, N, hD8_5, O, P⟩ := M
 replace hX := Dc.trans hX j
 replace hal := At.dc hD hc j hal Dd Dd Dd
 replace hsp := At.dc hD hc j hsp Dd Dd Dd
 replace hbp := At.dc hD hc j hbp Dd Dd Dd
 replace hB := Below.dx hB (Nat.le_refl _) (Nat.le_refl _) j.dx
 replace a := At.dc hD hc j a Dd Dd Dd
 replace hz := N
 replace hD := hD8_5
 replace hc := O
 clear j
 refine Zi rfl <| cT <| Zt <| dE (v := .int .i64 _) rfl ?_
 exact ⟨_, _, _, rfl, hX, hz, hD, hc, P⟩
set_option maxRecDepth 20000 in
theorem Ab (w0 : World) (ba bm bz R : Nat) (ns : List Nd) (S : Sp) (onV mayV : Value) (w : World) (hB : Below w0.heap.size w0 w) (hz : At w bz #[.pointer (some ⟨ba, 0, none⟩)] 141) (hD : fL 163 188 w0.heap.size ba bm R w ns) (hr : dL S = true) (hon : dO fQ 4 w0 onV S.on) (hmay : dO fQ 4 w0 mayV S.may) :
    rg Tryz.prog 66 #[.pointer (some ⟨bz, 0, none⟩), .agg #[.int .i64 S.n, onV, mayV]] w fun v w' => PW 163 188 w0.heap.size ba bm R w ns (Qv R ns S) v w' := by
 refine fc (n := 114) Tryz.func66 rfl rfl (Nat.le_of_ble_eq_true rfl) ?_
 have hX : Dx 188 w0.heap.size [ba, bm] w w := Dx.refl
 have hwf := hD.wf
 have hroom := hD.room
 have htop := hD.top
 obtain ⟨h8, hSn, aI⟩ := mL hr
 have bA := DR aI
 have bB := Nat.two_pow_pos S.may.length
 refine Zr <| Zy (dW (c := #[_, _, _]) rfl rfl fun s W3 ae ac g => ?_)
 have bC := ZO ae hB
 have bD : w.heap.size ≤ s := ae ▸ hX.size
 clear ae
 replace hz := ac.at hz
 replace hD := fL.ext ac hD
 replace hX := Dx.trans hX (Dx.ext ac)
 replace hB := Ze hB ac
 refine Zw (.int .i64 0) rfl <| Zw (.int .i64 0) rfl <| cT <| cZ fun K6 aJ => Zr <| Zp rfl <| Zv (pU rfl rfl Tryz.underlying102) <| Zw (.bool false) rfl <| Zv (db rfl eJ rfl g) <| ZC (vs := [.agg #[_, _, _]]) pQ (im S _ _  _ (Below.slT hB hon) (Below.slT hB hmay) ) rfl fun bE bF U aK => ?_
 replace hz := U.at hz
 replace hD := fL.ext U hD
 replace hX := Dx.trans hX (Dx.ext U)
 replace hB := Ze hB U
 replace g := U.at g
 obtain rfl := aK
 refine Zv (fG rfl) <| Zb rfl <| cT <| ZQ rfl (fun aB => ?_) fun aB => ?_
 exact absurd (Ke aB) (by rw [hr]; decide)
 refine c9 <| aJ _ _ <| Zr <| Zp rfl <| Zv (xY (h0 := rfl) (k0 := rfl) (c0_0 := .pointer (some ⟨bz, 0, none⟩))) <| Zy (dW (c := #[_, _]) rfl rfl fun k bG af V d => ?_)
 have l := ZO af hB
 have N : w.heap.size ≤ k := af ▸ hX.size
 clear af
 replace hz := V.at hz
 replace hD := fL.ext V hD
 replace hX := Dx.trans hX (Dx.ext V)
 replace hB := Ze hB V
 replace g := V.at g
 refine Zy (dw Mf rfl fun t bH ag O e => ?_)
 have aC := ZO ag hB
 have aL : w.heap.size ≤ t := ag ▸ hX.size
 clear ag
 replace hz := O.at hz
 replace hD := fL.ext O hD
 replace hX := Dx.trans hX (Dx.ext O)
 replace hB := Ze hB O
 replace g := O.at g
 replace d := O.at d
 refine Zy (eH (v := .pointer (some ⟨k, 0, none⟩)) rfl rfl ja rfl e (by exact Nat.zero_lt_one) fun bI P aM => ?_)
 replace hz := At.grownAt hz e P Dd
 replace hD := fL.grownAt hD e P Dd Dd
 replace hX := Dx.new1 hX aL (Dx.grown P (List.mem_cons_self ..) aC)
 replace hB := Zg hB P aC
 replace g := At.grownAt g e P Dd
 replace d := At.grownAt d e P Dd
 replace e := aM
 replace e : At _ _ #[_] _ := e
 refine cT ?_
 rw [hSn] at g
 refine Zr <| Zf rfl fD <| Zl rfl dC g rfl <| ZC wB (oe ((nN S : Nat) : Int) _) rfl fun bJ bK I aN => ?_
 replace hz := I.at hz
 replace hD := fL.ext I hD
 replace hX := Dx.trans hX (Dx.ext I)
 replace hB := Ze hB I
 replace g := I.at g
 replace d := I.at d
 replace e := I.at e
 obtain rfl := M7 h8 aN
 refine Zw (.tuple #[.agg #[_, _, _, _], .int .i64 0]) rfl <| Zv (dK rfl) <| Zv (dM rfl) <| Zy (dw eR rfl fun r aO ah J i => ?_)
 have aD := ZO ah hB
 have aP : w.heap.size ≤ r := ah ▸ hX.size
 clear ah
 replace hz := J.at hz
 replace hD := fL.ext J hD
 replace hX := Dx.trans hX (Dx.ext J)
 replace hB := Ze hB J
 replace g := J.at g
 replace d := J.at d
 replace e := J.at e
 replace i : At aO r #[wv 0 0, wv 0 1, wv 0 2, wv 0 3] 49 := i
 refine Zy (dg rfl rfl df rfl i rfl rfl fun bL K aQ => ?_)
 replace hz := At.grownAt hz i K Dd
 replace hD := fL.grownAt hD i K Dd Dd
 replace hX := Dx.new1 hX aP (Dx.grown K (List.mem_cons_self ..) aD)
 replace hB := Zg hB K aD
 replace g := At.grownAt g i K Dd
 replace d := At.grownAt d i K Dd
 replace e := At.grownAt e i K Dd
 replace i := aQ
 refine Zw (.int .i64 0) rfl <| cT <| Zr <| Zw (.int .i64 0) rfl <| cT <| Zr <| Zv (gZ (vs := #[.pointer (some ⟨r, 0, none⟩), .pointer (some ⟨s, 0, none⟩), .pointer (some ⟨t, 0, none⟩)]) (by simp only [List.map_toArray, List.map_cons, List.map_nil]; rfl)) <| Zw (.func (.func 100) #[] #[.pointer (some ⟨r, 0, none⟩), .pointer (some ⟨s, 0, none⟩), .pointer (some ⟨t, 0, none⟩)]) rfl <| cT <| cZ fun bM aR => Zr <| Zw (.int .i64 1) rfl <| cT <| c7 ?_
 refine dz (σ := (Nat) × (Nat) × (List Nd) × (Int)) [9, 11, 12, 13, 14, 32, 33, 34, 35, 36, 37, 38, 39, 40, 41, 42, 43, 44, 45, 46, 47, 48, 49, 50, 51, 52, 53, 54, 55, 56, 57, 58, 59, 60, 61, 62, 63, 64, 65, 66, 67, 68, 69, 70, 71, 72, 73, 74, 75, 76, 77, 78, 79, 80, 81, 82, 83, 84, 85, 86, 87, 88, 89, 90, 91, 92, 93, 94, 95, 96, 97, 98, 99, 100, 101, 102, 103] (fun (o, out, nsc, ec) => [(11, .int .i64 (o : Int)), (9, .int .i64 (out : Int))]) (fun sg W => match sg with | (o, out, nsc, ec) => (At W bz _ 141) ∧ (Dx 188 w0.heap.size [ba, bm] w W) ∧ (Below w0.heap.size w0 W) ∧ (At W s _ 24) ∧ (At W t _ 142) ∧ (At W r _ 49) ∧ (fL 163 188 w0.heap.size ba bm R W nsc) ∧ (At W k #[.pointer (some ⟨bz, 0, none⟩), .int .i64 ec] 144) ∧ (1 ≤ o ∧ o ≤ 2 ^ S.may.length) ∧ (Pb ns nsc R S o ec out) ∧ (True)) (fun (o, out, nsc, ec) => 2 ^ S.may.length - o) ((1, 0, ns, 0)) ⟨rfl, rfl, trivial⟩ ⟨hz, hX, hB, g, e, i, hD, d, Om, KT, trivial⟩ ?_
 clear hz hD hX hB g d e i
 rintro ⟨o, out, nsc, ec⟩ bN bO ⟨hz, hX, hB, g, e, i, hD, d, hoo, halw, _⟩ bP aS
 refine cZ fun bQ aT => Zr <| Zi rfl <| Zf rfl fO <| ZL mayV rfl eB g rfl <| Zv (dB (v := mayV) rfl (Below.slT hB hmay) d5) <| Zv (jP (m := 1) rfl rfl Om (by simp only [IntKind.bits]; omega) (by exact rP _ _ (by simp only [l7]; omega))) <| Zv (dN rfl rfl) <| cT <| ZQ rfl (fun X => ?_) fun X => ?_
 refine c9 <| aT _ _ <| cZ fun bR aU => c7 ?_
 have hol : o < 16 := by simp only [Nat.one_mul, Int.toNat_natCast] at X; omega
 have hom : o < 2 ^ S.may.length := by simp only [Nat.one_mul, Int.toNat_natCast] at X; omega
 have hwo := halw.v
 refine Zr <| Zw (.func (.func 100) #[] #[.pointer (some ⟨r, 0, none⟩), .pointer (some ⟨s, 0, none⟩), .pointer (some ⟨t, 0, none⟩)]) rfl <| Zi rfl ?_
 refine mY (dd := some 42) rfl rfl rfl (ka (q := 100) (first := #[]) (cap := #[.pointer (some ⟨r, 0, none⟩), .pointer (some ⟨s, 0, none⟩), .pointer (some ⟨t, 0, none⟩)]) (vs := #[.int .i64 _, .pointer (some ⟨r, 0, none⟩), .pointer (some ⟨s, 0, none⟩), .pointer (some ⟨t, 0, none⟩)]) rfl EG (by simp only [List.map_toArray, List.map_cons, List.map_nil, List.append_toArray, List.nil_append, List.cons_append]; rfl)) (pE w0 ba bm bz k R nsc ec S onV mayV o _ _ _ _ hB hz hD d l hr hon hmay i g e Om) (fun bS bT aV => ?_)
 obtain ⟨aW, e10_2, aX, rfl, Q, aY, hD10_2, aZ, a0⟩ := aV
 replace hX := Dx.new1 hX N Q.dx
 replace hB := Below.dx hB (Nat.le_refl _) (Nat.le_refl _) Q.dx
 replace g := At.dc hD d Q g Dd Dd Dd
 replace e := At.dc hD d Q e Dd Dd Dd
 replace i := At.dc hD d Q i Dd Dd Dd
 replace hz := aY
 replace hD := hD10_2
 replace d := aZ
 clear Q
 refine Zi rfl <| cT <| cZ fun bU a1 => Zr <| Zi rfl <| Zv (dp rfl rfl Om Om) <| Zi rfl <| cT <| c7 ?_
 refine dz (σ := (Nat) × (Nat) × (List Nd) × (Int)) [12, 13, 45, 46, 47, 48, 49, 50, 51, 52, 53, 54, 55, 56, 57, 58, 59, 60, 61, 62, 63, 64, 65, 66, 67, 68, 69, 70] (fun (j, f, nsi, ei) => [(13, .int .i64 (j : Int)), (12, .int .i64 (f : Int))]) (fun sg W => match sg with | (j, f, nsi, ei) => (At W bz _ 141) ∧ (Dx 188 w0.heap.size [ba, bm] w W) ∧ (Below w0.heap.size w0 W) ∧ (At W s _ 24) ∧ (At W t _ 142) ∧ (At W r _ 49) ∧ (fL 163 188 w0.heap.size ba bm R W nsi) ∧ (At W k #[.pointer (some ⟨bz, 0, none⟩), .int .i64 ei] 144) ∧ (o < j ∧ j ≤ 2 ^ S.may.length) ∧ (OC nsc nsi R S o j ec ei f) ∧ (True)) (fun (j, f, nsi, ei) => 2 ^ S.may.length - j) ((o + 1, aX, aW, e10_2)) ⟨rfl, rfl, trivial⟩ ⟨hz, hX, hB, g, e, i, hD, d, (by simp only [Nat.one_mul, Int.toNat_natCast] at X; omega), (Hu a0), trivial⟩ ?_
 clear hz hX hB g e i hD d
 rintro ⟨j, f, nsi, ei⟩ bV bW ⟨hz, hX, hB, g, e, i, hD, d, hjj, hfw, _⟩ bX aE
 refine cZ fun bY a2 => Zr <| Zi rfl <| Zf rfl fO <| ZL mayV rfl eB g rfl <| Zv (dB (v := mayV) rfl (Below.slT hB hmay) d5) <| Zv (jP (m := 1) rfl rfl Om (by simp only [IntKind.bits]; omega) (by exact rP _ _ (by simp only [l7]; omega))) <| Zv (dN rfl rfl) <| cT <| ZQ rfl (fun ai => ?_) fun ai => ?_
 refine c9 <| a2 _ _ <| cZ fun bZ aF => c7 ?_
 have hjp : j < 2 ^ S.may.length := by simp only [Nat.one_mul, Int.toNat_natCast] at ai; omega
 refine Zr <| Zi rfl <| Zi rfl <| Zv (nZ (n := _) rfl rfl rfl (by first | assumption | (simp only [d7]; omega) | (simp only [d7]; decide)) (by first | assumption | (simp only [d7]; omega) | (simp only [d7]; decide))) <| Zi rfl <| Zv (eD rfl rfl) <| cT <| ZQ rfl (fun aj => ?_) fun aj => ?_
 refine gF (fun a b => Dc 188 144 w0.heap.size k bz ba bm a b) iv (fun ak z => ?_)
 replace hz := z.at hz
 replace hX := Dx.trans hX (Dx.ext z)
 replace hB := Ze hB z
 replace g := z.at g
 replace e := z.at e
 replace i := z.at i
 replace hD := fL.ext z hD
 replace d := z.at d
 have hwk0 : Wc 144 k bz ak := ⟨_, d⟩
 have hS : Dc 188 144 w0.heap.size k bz ba bm ak ak := Dc.refl
 refine Tk 0 rfl (fun _ hq => dk (v := .pointer (some ⟨k, 0, none⟩)) rfl ja (At.cell (At.dc hD d hq e Dd Dd Dd) rfl)) hS <| Tk 1 rfl (fun _ hq => dk (v := .pointer (some ⟨k, 0, none⟩)) rfl ja (At.cell (At.dc hD d hq e Dd Dd Dd) rfl)) hS <| Tc 2 rfl rfl hS <| Tf 3 rfl rfl jv hS <| Tk 4 rfl (fun _ hq => dk (v := .pointer (some ⟨bz, 0, none⟩)) rfl ip (Wc.c0 (Dc.wk hq hwk0))) hS <| Ti 5 rfl rfl hS <| Tw 6 (.func (.func 100) #[] #[.pointer (some ⟨r, 0, none⟩), .pointer (some ⟨s, 0, none⟩), .pointer (some ⟨t, 0, none⟩)]) rfl rfl hS <| Ti 7 rfl rfl hS <| To 8 rfl (Yd.callG (ka (q := 100) (first := #[]) (cap := #[.pointer (some ⟨r, 0, none⟩), .pointer (some ⟨s, 0, none⟩), .pointer (some ⟨t, 0, none⟩)]) (vs := #[.int .i64 _, .pointer (some ⟨r, 0, none⟩), .pointer (some ⟨s, 0, none⟩), .pointer (some ⟨t, 0, none⟩)]) rfl EG (by simp only [List.map_toArray, List.map_cons, List.map_nil, List.append_toArray, List.nil_append, List.cons_append]; rfl)) (pE w0 ba bm bz k R nsi ei S onV mayV j _ _ _ _ hB hz hD d l hr hon hmay i g e Om) fun b0 b1 al => ⟨.inl (Dc.trans hS ((by obtain ⟨_, _, _, _, h, _⟩ := al; exact h))), ?_⟩)
 replace hS := Dc.trans hS ((by obtain ⟨_, _, _, _, h, _⟩ := al; exact h))
 obtain ⟨a3, e15_8, a4, rfl, T, a5, hD15_8, a6, ao⟩ := al
 replace hX := Dx.new1 hX N T.dx
 replace hB := Below.dx hB (Nat.le_refl _) (Nat.le_refl _) T.dx
 replace g := At.dc hD d T g Dd Dd Dd
 replace e := At.dc hD d T e Dd Dd Dd
 replace i := At.dc hD d T i Dd Dd Dd
 replace hz := a5
 replace hD := hD15_8
 replace d := a6
 clear T
 have hwa := hD.wf
 have hla := gk ao.pre
 have hwi := hfw.v
 refine To 9 rfl (TG EH (nE w0.heap.size ba bm bz R a3 f a4 _ (Below.size hB) hz hD Om ao.v) rfl fun b2 b3 ap => ⟨.inl (Dc.trans hS (Dc.zdd hD (PO.dx ap) (by decide) (by decide))), ?_⟩)
 replace hS := Dc.trans hS (Dc.zdd hD (PO.dx ap) Dd Dd)
 obtain ⟨a7, a8, aG, rfl, L, a9, bb⟩ := ap
 replace hz := At.dx hD L hz Dd Dd
 replace hX := Dx.trans hX (L)
 replace hB := Below.dx hB (Nat.le_refl _) (Nat.le_refl _) L
 replace g := At.dx hD L g Dd Dd
 replace e := At.dx hD L e Dd Dd
 replace i := At.dx hD L i Dd Dd
 replace d := At.dx hD L d Dd Dd
 replace hD := a9
 refine Tk 10 rfl (fun _ _ => dK rfl) hS <| Tk 11 rfl (fun _ _ => dM rfl) hS <| To 12 rfl (TG nm (eZ w0.heap.size k bz _ _ _ _ (Below.size hB) d l) rfl fun b4 b5 Y => ⟨.inl (Dc.trans hS (Dc.did Y.1 l Y.2.1)), ?_⟩)
 replace hS := Dc.trans hS (Dc.did Y.1 l Y.2.1)
 obtain ⟨M, bc, rfl⟩ := Y
 replace hz := At.grownAt hz d M Dd
 replace hX := Dx.new1 hX N (Dx.grown M (List.mem_cons_self ..) l)
 replace hB := Zg hB M l
 replace g := At.grownAt g d M Dd
 replace e := At.grownAt e d M Dd
 replace i := At.grownAt i d M Dd
 replace hD := fL.grownAt hD d M Dd Dd
 replace d := bc
 refine Ti 13 rfl rfl hS <| Td <| aF _ _ <| cY <| Zi rfl <| Zv (dp rfl rfl Om Om) <| Zi rfl <| cT ?_
 exact aE _ _ ((j + 1, jV e15_8 aG a8, a7, ix e15_8 aG)) Za ⟨rfl, rfl, trivial⟩ ⟨hz, hX, hB, g, e, i, hD, (by exact d), Om, (LB hr hD.wf hfw hjj.1 (Eo aj) ao bb), trivial⟩ (by show 2 ^ S.may.length - (j + 1) < 2 ^ S.may.length - j; omega)
 refine c9 <| aF _ _ <| cY <| Zi rfl <| Zv (dp rfl rfl Om Om) <| Zi rfl <| cT ?_
 exact aE _ _ ((j + 1, f, nsi, ei)) Za ⟨rfl, rfl, trivial⟩ ⟨hz, hX, hB, g, e, i, hD, (by exact d), Om, (M2 hfw (fun h => aj (congrArg Int.ofNat h))), trivial⟩ (by show 2 ^ S.may.length - (j + 1) < 2 ^ S.may.length - j; omega)
 refine dt <| a1 _ _ ?_
 obtain rfl : j = 2 ^ S.may.length := by simp only [Nat.one_mul, Int.toNat_natCast] at ai; omega
 have hwi := hfw.v
 have hwl := gk hfw.pre
 refine Zd (fun a b => Dc 188 144 w0.heap.size k bz ba bm a b) fun aq A => ?_
 replace hz := A.at hz
 replace hX := Dx.trans hX (Dx.ext A)
 replace hB := Ze hB A
 replace g := A.at g
 replace e := A.at e
 replace i := A.at i
 replace hD := fL.ext A hD
 replace d := A.at d
 have hwk0 : Wc 144 k bz aq := ⟨_, d⟩
 have hS : Dc 188 144 w0.heap.size k bz ba bm aq aq := Dc.refl
 refine Tk 0 rfl (fun _ hq => dk (v := .pointer (some ⟨k, 0, none⟩)) rfl ja (At.cell (At.dc hD d hq e Dd Dd Dd) rfl)) hS <| Tk 1 rfl (fun _ hq => dk (v := .pointer (some ⟨k, 0, none⟩)) rfl ja (At.cell (At.dc hD d hq e Dd Dd Dd) rfl)) hS <| Tc 2 rfl rfl hS <| Tf 3 rfl rfl jv hS <| Tk 4 rfl (fun _ hq => dk (v := .pointer (some ⟨bz, 0, none⟩)) rfl ip (Wc.c0 (Dc.wk hq hwk0))) hS <| Ti 5 rfl rfl hS <| Tk 6 rfl (fun _ hq => dk (v := .pointer (some ⟨k, 0, none⟩)) rfl ja (At.cell (At.dc hD d hq e Dd Dd Dd) rfl)) hS <| Tk 7 rfl (fun _ hq => dk (v := .pointer (some ⟨k, 0, none⟩)) rfl ja (At.cell (At.dc hD d hq e Dd Dd Dd) rfl)) hS <| Tc 8 rfl rfl hS <| Tf 9 rfl rfl jv hS <| Tk 10 rfl (fun _ hq => dk (v := .pointer (some ⟨bz, 0, none⟩)) rfl ip (Wc.c0 (Dc.wk hq hwk0))) hS <| Ti 11 rfl rfl hS <| Tk 12 rfl (fun _ _ => jP (m := _) rfl rfl Om (by simp only [IntKind.bits]; omega) (by show o * 65536 < _; simp only [d7]; omega)) hS <| To 13 rfl (eU (u := .int .i64 _) rfl dy fH rfl Dd Dd fun bd b6 ar x bf => ⟨.inl (Dc.trans hS (Dc.ext x)), ?_⟩)
 have bg := ZO ar hB
 have b7 : w.heap.size ≤ bd := ar ▸ hX.size
 clear ar
 replace hz := x.at hz
 replace hX := Dx.trans hX (Dx.ext x)
 replace hB := Ze hB x
 replace g := x.at g
 replace e := x.at e
 replace i := x.at i
 replace hD := fL.ext x hD
 replace d := x.at d
 replace hS := Dc.trans hS (Dc.ext x)
 have p := iE (enc := ee) (a := ((o * 65536 : Nat) : Int)) bf rfl rfl bg
 refine To 14 rfl (TG Fd (pl w0.heap.size ba bm bz R nsi _ [((o * 65536 : Nat) : Int)] _ (Below.size hB) hz hD p.sl (show 1 ≤ 1000000 by decide)) rfl fun b8 b9 au => ⟨.inl (Dc.trans hS (Dc.zdd hD (PE.dx au) (by decide) (by decide))), ?_⟩)
 replace hS := Dc.trans hS (Dc.zdd hD (PE.dx au) Dd Dd)
 obtain ⟨bh, bi, ad, rfl, B, bj, bk⟩ := au
 replace hz := At.dx hD B hz Dd Dd
 replace hX := Dx.trans hX (B)
 replace hB := Below.dx hB (Nat.le_refl _) (Nat.le_refl _) B
 replace g := At.dx hD B g Dd Dd
 replace e := At.dx hD B e Dd Dd
 replace i := At.dx hD B i Dd Dd
 replace d := At.dx hD B d Dd Dd
 replace p := dh.dx hD B p Dd Dd
 replace hD := bj
 have hgA := NO bk (Qs hol)
 have hvA := hgA.valid
 have hlA := gk hgA.pre
 refine Tk 15 rfl (fun _ _ => dK rfl) hS <| Tk 16 rfl (fun _ _ => dM rfl) hS <| To 17 rfl (TG nm (eZ w0.heap.size k bz _ _ _ _ (Below.size hB) d l) rfl fun ca cb Z => ⟨.inl (Dc.trans hS (Dc.did Z.1 l Z.2.1)), ?_⟩)
 replace hS := Dc.trans hS (Dc.did Z.1 l Z.2.1)
 obtain ⟨C, bl, rfl⟩ := Z
 replace hz := At.grownAt hz d C Dd
 replace hX := Dx.new1 hX N (Dx.grown C (List.mem_cons_self ..) l)
 replace hB := Zg hB C l
 replace g := At.grownAt g d C Dd
 replace e := At.grownAt e d C Dd
 replace i := At.grownAt i d C Dd
 replace hD := fL.grownAt hD d C Dd Dd
 replace p := dh.grownAt p d C Dd
 replace d := bl
 refine To 18 rfl (TG FX (ny w0.heap.size ba bm bz R bh f (jV ei ad bi) _ (Below.size hB) hz hD Om (oS hvA)) rfl fun cc cd av => ⟨.inl (Dc.trans hS (Dc.zdd hD (PO.dx av) (by decide) (by decide))), ?_⟩)
 replace hS := Dc.trans hS (Dc.zdd hD (PO.dx av) Dd Dd)
 obtain ⟨bn, bo, aw, rfl, D, bp, ax⟩ := av
 replace hz := At.dx hD D hz Dd Dd
 replace hX := Dx.trans hX (D)
 replace hB := Below.dx hB (Nat.le_refl _) (Nat.le_refl _) D
 replace g := At.dx hD D g Dd Dd
 replace e := At.dx hD D e Dd Dd
 replace i := At.dx hD D i Dd Dd
 replace d := At.dx hD D d Dd Dd
 replace p := dh.dx hD D p Dd Dd
 replace hD := bp
 have hvJ := ax.valid
 have hlJ := gk ax.pre
 refine Tk 19 rfl (fun _ _ => dK rfl) hS <| Tk 20 rfl (fun _ _ => dM rfl) hS <| To 21 rfl (TG nm (eZ w0.heap.size k bz _ _ _ _ (Below.size hB) d l) rfl fun ce cf aa => ⟨.inl (Dc.trans hS (Dc.did aa.1 l aa.2.1)), ?_⟩)
 replace hS := Dc.trans hS (Dc.did aa.1 l aa.2.1)
 obtain ⟨E, bq, rfl⟩ := aa
 replace hz := At.grownAt hz d E Dd
 replace hX := Dx.new1 hX N (Dx.grown E (List.mem_cons_self ..) l)
 replace hB := Zg hB E l
 replace g := At.grownAt g d E Dd
 replace e := At.grownAt e d E Dd
 replace i := At.grownAt i d E Dd
 replace hD := fL.grownAt hD d E Dd Dd
 replace p := dh.grownAt p d E Dd
 replace d := bq
 refine Ti 22 rfl rfl hS <| Td ?_
 refine gF (fun a b => Dc 188 144 w0.heap.size k bz ba bm a b) iv (fun ay y => ?_)
 replace hz := y.at hz
 replace hX := Dx.trans hX (Dx.ext y)
 replace hB := Ze hB y
 replace g := y.at g
 replace e := y.at e
 replace i := y.at i
 replace hD := fL.ext y hD
 replace d := y.at d
 replace p := y.ow p
 have hwk0 : Wc 144 k bz ay := ⟨_, d⟩
 have hS : Dc 188 144 w0.heap.size k bz ba bm ay ay := Dc.refl
 refine Tk 0 rfl (fun _ hq => dk (v := .pointer (some ⟨k, 0, none⟩)) rfl ja (At.cell (At.dc hD d hq e Dd Dd Dd) rfl)) hS <| Tk 1 rfl (fun _ hq => dk (v := .pointer (some ⟨k, 0, none⟩)) rfl ja (At.cell (At.dc hD d hq e Dd Dd Dd) rfl)) hS <| Tc 2 rfl rfl hS <| Tf 3 rfl rfl jv hS <| Tk 4 rfl (fun _ hq => dk (v := .pointer (some ⟨bz, 0, none⟩)) rfl ip (Wc.c0 (Dc.wk hq hwk0))) hS <| Ti 5 rfl rfl hS <| Ti 6 rfl rfl hS <| To 7 rfl (TG zd (kf w0.heap.size ba bm bz R bn out (jV (ix ei ad) aw bo) _ (Below.size hB) hz hD Om (oS hvJ)) rfl fun cg ch az => ⟨.inl (Dc.trans hS (Dc.zdd hD (PO.dx az) (by decide) (by decide))), ?_⟩)
 replace hS := Dc.trans hS (Dc.zdd hD (PO.dx az) Dd Dd)
 obtain ⟨br, bs, aH, rfl, F, bt, bu⟩ := az
 replace hz := At.dx hD F hz Dd Dd
 replace hX := Dx.trans hX (F)
 replace hB := Below.dx hB (Nat.le_refl _) (Nat.le_refl _) F
 replace g := At.dx hD F g Dd Dd
 replace e := At.dx hD F e Dd Dd
 replace i := At.dx hD F i Dd Dd
 replace d := At.dx hD F d Dd Dd
 replace p := dh.dx hD F p Dd Dd
 replace hD := bt
 refine Tk 8 rfl (fun _ _ => dK rfl) hS <| Tk 9 rfl (fun _ _ => dM rfl) hS <| To 10 rfl (TG nm (eZ w0.heap.size k bz _ _ _ _ (Below.size hB) d l) rfl fun ci cj ab => ⟨.inl (Dc.trans hS (Dc.did ab.1 l ab.2.1)), ?_⟩)
 replace hS := Dc.trans hS (Dc.did ab.1 l ab.2.1)
 obtain ⟨G, bv, rfl⟩ := ab
 replace hz := At.grownAt hz d G Dd
 replace hX := Dx.new1 hX N (Dx.grown G (List.mem_cons_self ..) l)
 replace hB := Zg hB G l
 replace g := At.grownAt g d G Dd
 replace e := At.grownAt e d G Dd
 replace i := At.grownAt i d G Dd
 replace hD := fL.grownAt hD d G Dd Dd
 replace p := dh.grownAt p d G Dd
 replace d := bv
 refine Ti 11 rfl rfl hS <| Td <| aU _ _ <| cY <| Zi rfl <| Zv (dp rfl rfl Om Om) <| Zi rfl <| cT ?_
 exact aS _ _ ((o + 1, jV (ix (ix ei ad) aw) aH bs, br, ix (ix (ix ei ad) aw) aH)) Za ⟨rfl, rfl, trivial⟩ ⟨hz, hX, hB, g, e, i, hD, (by exact d), Om, (LF hr hD.wf (Ml o) halw hoo.1 hol hom hfw hgA ax bu), trivial⟩ (by show 2 ^ S.may.length - (o + 1) < 2 ^ S.may.length - o; omega)
 refine dt <| aR _ _ <| cZ fun ck bw => ?_
 obtain rfl : o = 2 ^ S.may.length := by simp only [Nat.one_mul, Int.toNat_natCast] at X; omega
 refine Zr <| ZL (.pointer (some ⟨k, 0, none⟩)) rfl ja e rfl <| Zc rfl <| Zf rfl kh <| Zl rfl j1 d rfl <| Zv (gq rfl rfl) <| cT <| ZQ rfl (fun aA => ?_) fun aA => ?_
 refine Zd d9 fun bx H => ?_
 replace hz := H.at hz
 replace hX := Dx.trans hX (Dx.ext H)
 replace hB := Ze hB H
 replace g := H.at g
 replace e := H.at e
 replace i := H.at i
 replace hD := fL.ext H hD
 replace d := H.at d
 have hS := d9.refl bx
 refine Tk 0 rfl (fun _ hq => dk (v := .pointer (some ⟨k, 0, none⟩)) rfl ja (At.cell (hq.at e) rfl)) hS <| Tc 1 rfl rfl hS <| Tf 2 rfl rfl kh hS <| Tk 3 rfl (fun _ hq => dk (v := .int .i64 _) rfl j1 (At.cell (hq.at d) rfl)) hS <| Tw 4 (.int .i64 0) rfl rfl hS <| Ti 5 rfl rfl hS <| Td <| Zt <| d8 (v := .int .i64 0) rfl (v1 := .int .i64 _) rfl ?_
 exact ⟨_, _, _, rfl, hX, hD, MP halw aA⟩
 refine c9 <| bw _ _ <| Zr <| Zi rfl <| Zi rfl <| Zw (.int .i64 0) rfl <| cT <| Zt <| d8 (v := .int .i64 _) rfl (v1 := .int .i64 0) rfl ?_
 exact ⟨_, _, _, rfl, hX, hD, Q0 halw (Decidable.of_not_not aA)⟩
end
section
open Go Go.RowKit
def AM (S : Sp) (o m : Nat) : Nat → List Rw
 | 0 => []
 | k + 1 => if lY S ⟨⟨m, k⟩, o⟩ = true then AM S o m k ++ [⟨⟨m, k⟩, o⟩] else AM S o m k
def AQ (S : Sp) (o : Nat) : Nat → List Rw
 | 0 => []
 | k + 1 => AQ S o k ++ AM S o k (2 ^ S.n.toNat)
def x5 (S : Sp) : Nat → List Rw
 | 0 => []
 | o + 1 => if o = 0 then [] else x5 S o ++ AQ S o (2 ^ S.n.toNat)
abbrev AJ (S : Sp) : List Rw := x5 S (2 ^ S.on.length)
theorem NQ {S : Sp} {o m k : Nat} (h : lY S ⟨⟨m, k⟩, o⟩ = true) : AM S o m k ++ [⟨⟨m, k⟩, o⟩] = AM S o m (k + 1) := (if_pos h).symm
theorem Ny {S : Sp} {o m k : Nat} (h : lY S ⟨⟨m, k⟩, o⟩ = false) : AM S o m k = AM S o m (k + 1) := (if_neg (by rw [h]; decide)).symm
theorem HL {S : Sp} {o : Nat} (h : 0 < o) : x5 S o ++ AQ S o (2 ^ S.n.toNat) = x5 S (o + 1) := (if_neg (by omega)).symm
theorem uN (S : Sp) (o m : Nat) : ∀ k, (AM S o m k).length ≤ k
 | 0 => by simp [AM]
 | k + 1 => by
  have := uN S o m k
  rw [AM]; split <;> simp <;> omega
theorem zM (S : Sp) (o : Nat) : ∀ k, (AQ S o k).length ≤ k * 2 ^ S.n.toNat
 | 0 => by simp [AQ]
 | k + 1 => by
  have := zM S o k
  have h2 := uN S o k (2 ^ S.n.toNat)
  rw [AQ, List.length_append, Nat.add_mul, Nat.one_mul]; omega
theorem E1 {S : Sp} (h8 : S.n ≤ 8) : ∀ o, (x5 S o).length ≤ o * 65536
 | 0 => by simp [x5]
 | o + 1 => by
  have ih := E1 h8 o
  have h1 := zM S o (2 ^ S.n.toNat)
  have h2 := eT h8
  have h3 : 2 ^ S.n.toNat * 2 ^ S.n.toNat ≤ 256 * 256 := Nat.mul_le_mul h2 h2
  rw [x5]
  split
  ·simp
  ·rw [List.length_append]; omega
theorem uT {S : Sp} {o m : Nat} {x : Rw} : ∀ k, x ∈ AM S o m k ↔ lY S x = true ∧ x.o = o ∧ x.c.m = m ∧ x.c.v < k
 | 0 => by simp [AM]
 | k + 1 => by
  have ih := uT (S := S) (o := o) (m := m) (x := x) k
  obtain ⟨⟨xm, xv⟩, xo⟩ := x
  rw [AM]
  split
  ·rename_i h
   rw [List.mem_append, List.mem_singleton, ih]
   simp only [Rw.mk.injEq, Cb.mk.injEq]
   constructor
   ·rintro (⟨h1, h2, h3, h4⟩ | ⟨⟨rfl, rfl⟩, rfl⟩)
    ·exact ⟨h1, h2, h3, by omega⟩
    ·exact ⟨h, rfl, rfl, by omega⟩
   ·rintro ⟨h1, h2, h3, h4⟩
    rcases Nat.lt_succ_iff_lt_or_eq.1 h4 with h4 | h4
    ·exact .inl ⟨h1, h2, h3, h4⟩
    ·exact .inr ⟨⟨h3, h4⟩, h2⟩
  ·rename_i h
   rw [ih]
   simp only
   constructor
   ·rintro ⟨h1, h2, h3, h4⟩; exact ⟨h1, h2, h3, by omega⟩
   ·rintro ⟨h1, h2, h3, h4⟩
    refine ⟨h1, h2, h3, ?_⟩
    rcases Nat.lt_succ_iff_lt_or_eq.1 h4 with h4 | h4
    ·exact h4
    ·subst h2; subst h3; subst h4; exact absurd h1 h
theorem uH {S : Sp} {o : Nat} {x : Rw} : ∀ k, x ∈ AQ S o k ↔ lY S x = true ∧ x.o = o ∧ x.c.m < k
 | 0 => by simp [AQ]
 | k + 1 => by
  rw [AQ, List.mem_append, uH k, uT]
  constructor
  ·rintro (⟨h1, h2, h3⟩ | ⟨h1, h2, h3, h4⟩)
   ·exact ⟨h1, h2, by omega⟩
   ·exact ⟨h1, h2, by omega⟩
  ·rintro ⟨h1, h2, h3⟩
   rcases Nat.lt_succ_iff_lt_or_eq.1 h3 with h3 | h3
   ·exact .inl ⟨h1, h2, h3⟩
   ·exact .inr ⟨h1, h2, h3, (js (fk h1)).2⟩
theorem zo {S : Sp} {x : Rw} : ∀ o, x ∈ x5 S o ↔ lY S x = true ∧ x.o < o
 | 0 => by simp [x5]
 | o + 1 => by
  rw [x5]
  split
  ·rename_i h
   subst h
   constructor
   ·intro h; cases h
   ·rintro ⟨h1, h2⟩; have := (fz.1 h1).2.1; omega
  ·rename_i h
   rw [List.mem_append, zo o, uH]
   constructor
   ·rintro (⟨h1, h2⟩ | ⟨h1, h2, _⟩)
    ·exact ⟨h1, by omega⟩
    ·exact ⟨h1, by omega⟩
   ·rintro ⟨h1, h2⟩
    rcases Nat.lt_succ_iff_lt_or_eq.1 h2 with h2 | h2
    ·exact .inl ⟨h1, h2⟩
    ·exact .inr ⟨h1, h2, (js (fk h1)).1⟩
theorem sE {S : Sp} {x : Rw} : x ∈ AJ S ↔ lY S x = true := by
 unfold AJ
 rw [zo]
 refine ⟨fun h => h.1, fun h => ⟨h, ?_⟩⟩
 obtain ⟨_, _, _, _, h5, _⟩ := dX.1 (fz.1 h).1
 rw [h5]; exact (lS h).1
theorem xu (S : Sp) (o m : Nat) : ∀ k, gD (AM S o m k)
 | 0 => by simp [AM, gD]
 | k + 1 => by
  have ih := xu S o m k
  rw [AM]
  split
  ·refine List.pairwise_append.2 ⟨ih, by simp, fun a ha b hb => ?_⟩
   rw [List.mem_singleton] at hb
   subst hb
   obtain ⟨_, h2, h3, h4⟩ := (uT k).1 ha
   rw [mh]
   exact .inr ⟨h2, .inr ⟨h3, h4⟩⟩
  ·exact ih
theorem wF (S : Sp) (o : Nat) : ∀ k, gD (AQ S o k)
 | 0 => by simp [AQ, gD]
 | k + 1 => by
  refine List.pairwise_append.2 ⟨wF S o k, xu S o k _, fun a ha b hb => ?_⟩
  obtain ⟨_, h2, h3⟩ := (uH k).1 ha
  obtain ⟨_, g2, g3, _⟩ := (uT _).1 hb
  rw [mh]
  exact .inr ⟨by omega, .inl (by omega)⟩
theorem wN (S : Sp) : ∀ o, gD (x5 S o)
 | 0 => by simp [x5, gD]
 | o + 1 => by
  rw [x5]
  split
  ·simp [gD]
  ·refine List.pairwise_append.2 ⟨wN S o, wF S o _, fun a ha b hb => ?_⟩
   have h1 := ((zo o).1 ha).2
   have h2 := ((uH _).1 hb).2.1
   rw [mh]
   exact .inl (by omega)
theorem Rn {S : Sp} (h8 : S.n ≤ 8) : gH (AJ S) := fun x hx => by
 have h := sE.1 hx
 have h1 := js (fk h)
 have h2 := eT h8
 have h3 := (lS h).2
 omega
def tA (l : List Rw) (i : Nat) : Nat → Bool
 | 0 => true
 | k + 1 => tA l i k && (decide (k = i) || !m3 (l.getD k ⟨⟨0, 0⟩, 0⟩) (l.getD i ⟨⟨0, 0⟩, 0⟩))
theorem rx {l : List Rw} {i : Nat} : ∀ k, tA l i k = true ↔ ∀ q, q < k → q ≠ i → m3 (l.getD q ⟨⟨0, 0⟩, 0⟩) (l.getD i ⟨⟨0, 0⟩, 0⟩) = false
 | 0 => by simp [tA]
 | k + 1 => by
  rw [tA, Bool.and_eq_true, rx k, Bool.or_eq_true, decide_eq_true_eq, Bool.not_eq_true']
  constructor
  ·rintro ⟨h1, h2⟩ q hq hne
   rcases Nat.lt_succ_iff_lt_or_eq.1 hq with hq | rfl
   ·exact h1 q hq hne
   ·exact h2.resolve_left hne
  ·intro h
   refine ⟨fun q hq => h q (by omega), ?_⟩
   by_cases e : k = i
   ·exact .inl e
   ·exact .inr (h k (by omega) e)
def ph (l : List Rw) : Nat → List Rw
 | 0 => []
 | k + 1 => if tA l k l.length = true then ph l k ++ [l.getD k ⟨⟨0, 0⟩, 0⟩] else ph l k
theorem qz {l : List Rw} {x : Rw} : ∀ k, x ∈ ph l k ↔ ∃ q, q < k ∧ x = l.getD q ⟨⟨0, 0⟩, 0⟩ ∧ tA l q l.length = true
 | 0 => by simp [ph]
 | k + 1 => by
  rw [ph]
  split
  ·rename_i h
   rw [List.mem_append, List.mem_singleton, qz k]
   constructor
   ·rintro (⟨q, hq, r⟩ | rfl)
    ·exact ⟨q, by omega, r⟩
    ·exact ⟨k, by omega, rfl, h⟩
   ·rintro ⟨q, hq, r, r2⟩
    rcases Nat.lt_succ_iff_lt_or_eq.1 hq with hq | rfl
    ·exact .inl ⟨q, hq, r, r2⟩
    ·exact .inr r
  ·rename_i h
   rw [qz k]
   constructor
   ·rintro ⟨q, hq, r⟩; exact ⟨q, by omega, r⟩
   ·rintro ⟨q, hq, r, r2⟩
    rcases Nat.lt_succ_iff_lt_or_eq.1 hq with hq | rfl
    ·exact ⟨q, hq, r, r2⟩
    ·exact absurd r2 h
theorem qj {l : List Rw} (h : gD l) {i j : Nat} (hij : i < j) (hj : j < l.length) : ze (l.getD i ⟨⟨0, 0⟩, 0⟩) (l.getD j ⟨⟨0, 0⟩, 0⟩) = true := by
 have := List.pairwise_iff_getElem.1 h i j (by omega) hj hij
 simpa [List.getD_eq_getElem?_getD, List.getElem?_eq_getElem hj, List.getElem?_eq_getElem (show i < l.length by omega)] using this
theorem Ef {l : List Rw} (h : gD l) {i j : Nat} (hi : i < l.length) (hj : j < l.length) (he : l.getD i ⟨⟨0, 0⟩, 0⟩ = l.getD j ⟨⟨0, 0⟩, 0⟩) : i = j := by
 rcases Nat.lt_trichotomy i j with hlt | rfl | hlt
 ·have := qj h hlt hj
  rw [he, j9] at this; cases this
 ·rfl
 ·have := qj h hlt hi
  rw [he, j9] at this; cases this
theorem sj {l : List Rw} (h : gD l) : ∀ k, k ≤ l.length → gD (ph l k)
 | 0, _ => by simp [ph, gD]
 | k + 1, hk => by
  have ih := sj h k (by omega)
  rw [ph]
  split
  ·refine List.pairwise_append.2 ⟨ih, by simp, fun a ha b hb => ?_⟩
   rw [List.mem_singleton] at hb
   subst hb
   obtain ⟨q, hq, rfl, _⟩ := (qz k).1 ha
   exact qj h hq (by omega)
  ·exact ih
theorem L7 {S : Sp} (hr : dL S = true) : ph (AJ S) (AJ S).length = eV S := by
 have hri : gD (AJ S) := wN S _
 refine t5 (sj hri _ (Nat.le_refl _)) (mp S _) fun x => ?_
 rw [qz, m6 hr]
 constructor
 ·rintro ⟨q, hq, rfl, hf⟩
  rw [rx] at hf
  refine Gj (sE.1 (dU hq)) fun y hy hh => ?_
  obtain ⟨j, hj, rfl⟩ := fh (d := ⟨⟨0, 0⟩, 0⟩) (sE.2 hy)
  by_cases e : j = q
  ·subst e; rfl
  ·rw [hf j hj e] at hh; cases hh
 ·intro hp
  obtain ⟨q, hq, rfl⟩ := fh (d := ⟨⟨0, 0⟩, 0⟩) (sE.2 (fe.1 hp).1)
  refine ⟨q, hq, rfl, (rx _).2 fun j hj hne => Bool.eq_false_iff.2 fun hh => ?_⟩
  have := GY hp (sE.1 (dU hj)) hh
  exact hne (Ef hri hj hq this)
theorem N7 {S : Sp} (hr : dL S = true) : gH (eV S) := fun x hx => by
 have h := (fe.1 ((m6 hr).1 hx)).1
 have h1 := js (fk h)
 have h2 := eT (dX.1 hr).2.1
 have h3 := (lS h).2
 omega
theorem oF {S : Sp} (hr : dL S = true) {i : Nat} (hi : i < (eV S).length) : mS S ((eV S).getD i ⟨⟨0, 0⟩, 0⟩) = true := (m6 hr).1 (dU hi)
def wT (S : Sp) : Bool := decide (20 < S.on.length) || decide (20 < S.may.length)
theorem EQ {S : Sp} (h : (20 : Int) < (S.on.length : Int)) : true = wT S := by
 unfold wT; rw [decide_eq_true (show 20 < S.on.length by omega), Bool.true_or]
theorem Fq {S : Sp} (h : ¬ (20 : Int) < (S.on.length : Int)) : decide ((20 : Int) < (S.may.length : Int)) = wT S := by
 unfold wT; rw [decide_eq_false (show ¬ 20 < S.on.length by omega), Bool.false_or, Bool.eq_iff_iff, decide_eq_true_eq, decide_eq_true_eq]; omega
def Ck (l : List Rw) (x : Rw) : Nat → Bool
 | 0 => false
 | k + 1 => Ck l x k || m3 (l.getD k ⟨⟨0, 0⟩, 0⟩) x
theorem qM {l : List Rw} {x : Rw} : ∀ k, Ck l x k = true ↔ ∃ j, j < k ∧ m3 (l.getD j ⟨⟨0, 0⟩, 0⟩) x = true
 | 0 => by simp [Ck]
 | k + 1 => by
  rw [Ck, Bool.or_eq_true, qM k]
  constructor
  ·rintro (⟨j, hj, h⟩ | h)
   ·exact ⟨j, by omega, h⟩
   ·exact ⟨k, by omega, h⟩
  ·rintro ⟨j, hj, h⟩
   rcases Nat.lt_succ_iff_lt_or_eq.1 hj with hj | rfl
   ·exact .inl ⟨j, hj, h⟩
   ·exact .inr h
theorem FR {S : Sp} {x : Rw} (h : lY S x = true) : Ck (eV S) x (eV S).length = true := by
 obtain ⟨h1, h2⟩ := nq h
 obtain ⟨j, hj, he⟩ := fh (d := ⟨⟨0, 0⟩, 0⟩) ((m6 (fz.1 h).1).2 h1)
 exact (qM _).2 ⟨j, hj, by rw [he]; exact h2⟩
theorem Fw {S : Sp} (hr : dL S = true) : jy S (eV S) = true := by
 obtain ⟨h0, h8, h1, h4, h5, hin⟩ := dX.1 hr
 have hp := eT h8
 refine gY.2 ⟨hr, kP.2 fun k hk => ?_, fun o ho => ?_⟩
 ·have hi := (fe.1 (oF hr hk)).1
  exact jn.2 ⟨fk hi, (fz.1 hi).2.1, h5 ▸ (lS hi).1⟩
 ·obtain ⟨w1, w2⟩ := hin o ho
  refine HY (ea.2 fun p hp2 h => ?_) (ea.2 fun p hp2 h => ?_)
  ·have hm := ea.1 w1 p hp2 h
   have hpn : p < 2 ^ S.n.toNat := by
    have := ea.1 w2 p hp2 hm
    rw [fY] at this
    simpa using this
   have hpow := Nat.two_pow_pos S.n.toNat
   have hx : lY S ⟨⟨2 ^ S.n.toNat - 1, p⟩, 2 ^ o⟩ = true := by
    have hand : p &&& (2 ^ S.n.toNat - 1) = p := by rw [Nat.and_two_pow_sub_one_eq_mod, Nat.mod_eq_of_lt hpn]
    refine fz.2 ⟨hr, Nat.two_pow_pos o, fun j hj => ?_⟩
    have hj' : (2 ^ o).testBit j = true := hj
    rw [Nat.testBit_two_pow, decide_eq_true_eq] at hj'
    subst hj'
    refine ⟨by omega, ?_⟩
    have := (gn (s := iM S o) (n := S.n) (c := ⟨2 ^ S.n.toNat - 1, p⟩)).2 ⟨dV.2 ⟨h0, h8, by show 2 ^ S.n.toNat - 1 < 2 ^ S.n.toNat; omega, hand⟩, fun q hq hqp => by
     have hqp' : q &&& (2 ^ S.n.toNat - 1) = p := hqp
     rw [Nat.and_two_pow_sub_one_eq_mod, Nat.mod_eq_of_lt hq] at hqp'
     subst hqp'; exact hm⟩
    exact this
   obtain ⟨j, hj, hh⟩ := (qM _).1 (FR hx)
   obtain ⟨g1, g2⟩ := kg.1 hh
   have hi := (fe.1 (oF hr hj)).1
   refine (kG (by omega) p _ (Nat.le_refl _)).2 ⟨hpn, j, hj, g2 o (by show (2 ^ o).testBit o = true; rw [Nat.testBit_two_pow]; simp), ?_⟩
   refine lD (p := p) (dV.1 (fk hi)).2.2.2 g1 ?_
   show p &&& (2 ^ S.n.toNat - 1) = p
   rw [Nat.and_two_pow_sub_one_eq_mod, Nat.mod_eq_of_lt hpn]
  ·obtain ⟨hpn, j, hj, hb, hh⟩ := (kG (by omega) p _ (Nat.le_refl _)).1 h
   have hi := (fe.1 (oF hr hj)).1
   have hw := ((fz.1 hi).2.2 o hb).2
   exact (gn.1 hw).2 p hpn hh
end
section
open Go Go.RowKit
def wz (x : Rw) (k : Nat) : Rw := ⟨x.c, x.o - 2 ^ k⟩
def tT (x : Rw) : List Rw := if 0 < x.o then [x] else []
def QF (l : List Rw) : List Rw := l.filter fun x => decide (0 < x.o)
def l8 (l : List Rw) (i k : Nat) : List Rw :=
 if andNot (l.getD i ⟨⟨0, 0⟩, 0⟩).o (2 ^ k) = 0 then l.take i ++ l.drop (i + 1) else l.set i ⟨(l.getD i ⟨⟨0, 0⟩, 0⟩).c, andNot (l.getD i ⟨⟨0, 0⟩, 0⟩).o (2 ^ k)⟩
def uA (l : List Rw) : Prop := ∀ x, x ∈ l → 0 < x.o
theorem uA.app {a b : List Rw} (ha : uA a) (hb : uA b) : uA (a ++ b) := fun x hx => (List.mem_append.1 hx).elim (ha x) (hb x)
theorem uA.kp (x : Rw) : uA (tT x) := fun y hy => by
 unfold tT at hy
 split at hy
 ·simp at hy; subst hy; assumption
 ·cases hy
theorem uA.drop {l : List Rw} (h : uA l) (k : Nat) : uA (l.drop k) := fun x hx => h x (List.mem_of_mem_drop hx)
theorem Fs (x : Rw) : (tT x).length = if 0 < x.o then 1 else 0 := by unfold tT; split <;> rfl
theorem vf {x : Rw} (h : 0 < x.o) : tT x = [x] := if_pos h
theorem H3 {x : Rw} (h : x.o = 0) : tT x = [] := if_neg (by omega)
theorem Kp {S : Sp} {l : List Rw} (h : jy S l = true) : uA l := fun x hx => by
 obtain ⟨k, hk, rfl⟩ := fh (d := ⟨⟨0, 0⟩, 0⟩) hx
 exact (jn.1 (kP.1 (gY.1 h).2.1 k hk)).2.1
theorem JH {o k : Nat} (h : o.testBit k = true) : andNot o (2 ^ k) = o - 2 ^ k := by
 have hlow : (andNot o (2 ^ k)).testBit k = false := by rw [ey]; simp
 have hs := MR hlow
 have e : andNot o (2 ^ k) ||| 2 ^ k = o := Nat.eq_of_testBit_eq fun j => by
  rw [Nat.testBit_or, ey, Nat.testBit_two_pow]
  by_cases hj : k = j
  ·subst hj; simp [h]
  ·simp [hj]
 rw [e] at hs
 omega
theorem LE (o k : Nat) : o - 2 ^ k ≤ o := Nat.sub_le _ _
theorem A4 {A B : List Rw} {x d : Rw} {i : Nat} (hi : i = A.length) : (A ++ x :: B).getD i d = x := by
 subst hi
 rw [List.getD_eq_getElem?_getD, List.getElem?_append_right (Nat.le_refl _), Nat.sub_self]
 rfl
theorem LZ {A B : List Rw} {x y : Rw} {i : Nat} (hi : i = A.length) : (A ++ x :: B).set i y = A ++ y :: B := by
 subst hi
 rw [List.set_append, if_neg (by omega), Nat.sub_self]
 rfl
theorem JJ {A B : List Rw} {x : Rw} {i : Nat} (hi : i = A.length) : (A ++ x :: B).take i = A := by subst hi; exact List.take_left
theorem KW {A B : List Rw} {x : Rw} {i : Nat} (hi : i = A.length) : (A ++ x :: B).drop (i + 1) = B := by
 subst hi
 rw [List.drop_append, List.drop_eq_nil_of_le (by omega), show A.length + 1 - A.length = 1 by omega]
 rfl
theorem JV {A B : List Rw} {x : Rw} {i k : Nat} (hi : i = A.length) (hb : x.o.testBit k = true) : l8 (A ++ x :: B) i k = A ++ tT (wz x k) ++ B := by
 unfold l8
 rw [A4 hi, JH hb, JJ hi, KW hi, LZ hi]
 by_cases h : x.o - 2 ^ k = 0
 ·rw [if_pos h, H3 h, List.append_nil]
 ·rw [if_neg h, vf (show 0 < (wz x k).o from Nat.pos_of_ne_zero h)]
  simp [wz]
theorem Me {l : List Rw} {i : Nat} (hi : i < l.length) : l.drop i = l.getD i ⟨⟨0, 0⟩, 0⟩ :: l.drop (i + 1) := by
 rw [List.getD_eq_getElem?_getD, List.getElem?_eq_getElem hi]
 simp
theorem Be {l : List Rw} {i : Nat} {x d : Rw} (hi : i < l.length) : (l.set i x).getD i d = x := by
 rw [List.getD_eq_getElem?_getD, List.getElem?_set_self hi]; rfl
theorem JE {l : List Rw} {i k : Nat} (hi : i < l.length) (h : (((l.set i ⟨(l.getD i ⟨⟨0, 0⟩, 0⟩).c, andNot (l.getD i ⟨⟨0, 0⟩, 0⟩).o (1 * 2 ^ k)⟩).getD i ⟨⟨0, 0⟩, 0⟩).o : Int) = 0) :
  (l.set i ⟨(l.getD i ⟨⟨0, 0⟩, 0⟩).c, andNot (l.getD i ⟨⟨0, 0⟩, 0⟩).o (1 * 2 ^ k)⟩).take i ++ (l.set i ⟨(l.getD i ⟨⟨0, 0⟩, 0⟩).c, andNot (l.getD i ⟨⟨0, 0⟩, 0⟩).o (1 * 2 ^ k)⟩).drop (i + 1) = l8 l i k := by
 rw [Be hi, Nat.one_mul] at h
 unfold l8
 rw [if_pos (show andNot (l.getD i ⟨⟨0, 0⟩, 0⟩).o (2 ^ k) = 0 from Int.ofNat_inj.1 h), List.take_set_of_le (Nat.le_refl _), List.drop_set_of_lt (Nat.lt_succ_self _)]
theorem Ki {l : List Rw} {i k : Nat} (hi : i < l.length) (h : ¬ (((l.set i ⟨(l.getD i ⟨⟨0, 0⟩, 0⟩).c, andNot (l.getD i ⟨⟨0, 0⟩, 0⟩).o (1 * 2 ^ k)⟩).getD i ⟨⟨0, 0⟩, 0⟩).o : Int) = 0) :
  l.set i ⟨(l.getD i ⟨⟨0, 0⟩, 0⟩).c, andNot (l.getD i ⟨⟨0, 0⟩, 0⟩).o (1 * 2 ^ k)⟩ = l8 l i k := by
 rw [Be hi, Nat.one_mul] at h
 unfold l8
 rw [if_neg (show ¬ andNot (l.getD i ⟨⟨0, 0⟩, 0⟩).o (2 ^ k) = 0 from fun e => h (congrArg Int.ofNat e)), Nat.one_mul]
theorem Hn (l : List Rw) (i k : Nat) : (l8 l i k).length ≤ l.length := by
 unfold l8
 split
 ·rw [List.length_append, List.length_take, List.length_drop]; omega
 ·rw [List.length_set]; exact Nat.le_refl _
def GJ (S : Sp) (A B : List Rw) (c : Cb) (o : Nat) : Nat → Nat
 | 0 => o
 | k + 1 => if (GJ S A B c o k).testBit k = true ∧ jy S (A ++ tT ⟨c, GJ S A B c o k - 2 ^ k⟩ ++ B) = true then GJ S A B c o k - 2 ^ k else GJ S A B c o k
def rc (S : Sp) (l : List Rw) : Nat → List Rw
 | 0 => []
 | j + 1 => rc S l j ++ tT ⟨(l.getD j ⟨⟨0, 0⟩, 0⟩).c, GJ S (rc S l j) (l.drop (j + 1)) (l.getD j ⟨⟨0, 0⟩, 0⟩).c (l.getD j ⟨⟨0, 0⟩, 0⟩).o S.on.length⟩
def xH (S : Sp) (l : List Rw) (j k : Nat) : Nat := GJ S (rc S l j) (l.drop (j + 1)) (l.getD j ⟨⟨0, 0⟩, 0⟩).c (l.getD j ⟨⟨0, 0⟩, 0⟩).o k
def xI (S : Sp) (l : List Rw) (j k : Nat) : Rw := ⟨(l.getD j ⟨⟨0, 0⟩, 0⟩).c, xH S l j k⟩
def xf (S : Sp) (l : List Rw) (j k : Nat) : List Rw := rc S l j ++ tT (xI S l j k) ++ l.drop (j + 1)
def yx (S : Sp) (l : List Rw) : List Rw := rc S l l.length
theorem sr (S : Sp) (l : List Rw) (j : Nat) : rc S l (j + 1) = rc S l j ++ tT (xI S l j S.on.length) := rfl
theorem vK (S : Sp) (l : List Rw) (j k : Nat) : xH S l j (k + 1) = if (xH S l j k).testBit k = true ∧ jy S (rc S l j ++ tT (wz (xI S l j k) k) ++ l.drop (j + 1)) = true then xH S l j k - 2 ^ k else xH S l j k := rfl
theorem Rl {S : Sp} {l : List Rw} {j k : Nat} (h1 : (xH S l j k).testBit k = true) (h2 : jy S (rc S l j ++ tT (wz (xI S l j k) k) ++ l.drop (j + 1)) = true) : xH S l j (k + 1) = xH S l j k - 2 ^ k := by rw [vK, if_pos ⟨h1, h2⟩]
theorem RW {S : Sp} {l : List Rw} {j k : Nat} (h : ¬ ((xH S l j k).testBit k = true ∧ jy S (rc S l j ++ tT (wz (xI S l j k) k) ++ l.drop (j + 1)) = true)) : xH S l j (k + 1) = xH S l j k := by rw [vK, if_neg h]
theorem JW (S : Sp) (l : List Rw) (j : Nat) : ∀ k, xH S l j k ≤ (l.getD j ⟨⟨0, 0⟩, 0⟩).o
 | 0 => Nat.le_refl _
 | k + 1 => by
  rw [vK]
  have := JW S l j k
  split
  ·have := LE (xH S l j k) k; omega
  ·exact this
theorem gH.nil : gH [] := fun x hx => by cases hx
theorem gH.any {l : List Rw} (h : gH l) (k : Nat) : (l.getD k ⟨⟨0, 0⟩, 0⟩).o < 256 := by
 by_cases hk : k < l.length
 ·exact (h.get hk).2.2
 ·rw [List.getD_eq_getElem?_getD, List.getElem?_eq_none (by omega)]; decide
theorem gH.app {a b : List Rw} (ha : gH a) (hb : gH b) : gH (a ++ b) := fun x hx => (List.mem_append.1 hx).elim (ha x) (hb x)
theorem gH.drop {l : List Rw} (h : gH l) (k : Nat) : gH (l.drop k) := fun x hx => h x (List.mem_of_mem_drop hx)
theorem gH.take {l : List Rw} (h : gH l) (k : Nat) : gH (l.take k) := fun x hx => h x (List.mem_of_mem_take hx)
theorem gH.kp {x : Rw} (h : x.c.m < 256 ∧ x.c.v < 256 ∧ x.o < 256) : gH (tT x) := fun y hy => by
 unfold tT at hy
 split at hy
 ·simp at hy; subst hy; exact h
 ·cases hy
theorem gH.some {l : List Rw} (h : gH l) : gH (QF l) := fun x hx => h x (List.mem_filter.1 hx).1
theorem gH.set {l : List Rw} (h : gH l) {i : Nat} {x : Rw} (hx : x.c.m < 256 ∧ x.c.v < 256 ∧ x.o < 256) : gH (l.set i x) := fun y hy => (List.mem_or_eq_of_mem_set hy).elim (h y) (fun e => e ▸ hx)
theorem NM {S : Sp} {l : List Rw} (h : gH l) {j : Nat} (hj : j < l.length) (k : Nat) : (xI S l j k).c.m < 256 ∧ (xI S l j k).c.v < 256 ∧ (xI S l j k).o < 256 := by
 obtain ⟨h1, h2, h3⟩ := h.get hj
 have := JW S l j k
 exact ⟨h1, h2, show xH S l j k < 256 by omega⟩
theorem Nt {S : Sp} {l : List Rw} (h : gH l) : ∀ j, j ≤ l.length → gH (rc S l j)
 | 0, _ => gH.nil
 | j + 1, hj => by rw [sr]; exact (Nt h j (by omega)).app (gH.kp (NM h (by omega) _))
theorem Rf {S : Sp} {l : List Rw} (h : gH l) {j : Nat} (hj : j < l.length) (k : Nat) : gH (xf S l j k) := ((Nt h j (by omega)).app (gH.kp (NM h hj k))).app (h.drop _)
theorem Fo (S : Sp) (l : List Rw) : ∀ j, (rc S l j).length ≤ j
 | 0 => Nat.le_refl _
 | j + 1 => by
  have := Fo S l j
  rw [sr, List.length_append, Fs]
  split <;> omega
theorem Je {S : Sp} {l : List Rw} {j : Nat} (hp : uA l) (hj : j < l.length) : rc S l j ++ l.drop j = xf S l j 0 := by
 unfold xf
 rw [Me hj, vf (x := xI S l j 0) (hp _ (dU hj)), List.append_assoc]
 rfl
theorem Fe (S : Sp) (l : List Rw) (j : Nat) : xf S l j S.on.length = rc S l (j + 1) ++ l.drop (j + 1) := by rw [sr]; rfl
theorem IW {S : Sp} {l : List Rw} {j k : Nat} (h : 0 < xH S l j k) : xf S l j k = rc S l j ++ xI S l j k :: l.drop (j + 1) := by
 unfold xf
 rw [vf (x := xI S l j k) h, List.append_assoc]
 rfl
theorem L8 {S : Sp} {l : List Rw} {j k : Nat} (h : 0 < xH S l j k) : (xf S l j k).getD (rc S l j).length ⟨⟨0, 0⟩, 0⟩ = xI S l j k := by
 rw [IW h]; exact A4 rfl
theorem Bp {S : Sp} {l : List Rw} {j k : Nat} (hb : (xH S l j k).testBit k = true) : l8 (xf S l j k) (rc S l j).length k = rc S l j ++ tT (wz (xI S l j k) k) ++ l.drop (j + 1) := by
 rw [IW (rT hb)]
 exact JV rfl hb
theorem Ff {S : Sp} {l : List Rw} {j k : Nat} (hb : (xH S l j k).testBit k = true) (hc : jy S (l8 (xf S l j k) (rc S l j).length k) = true) : l8 (xf S l j k) (rc S l j).length k = xf S l j (k + 1) := by
 rw [Bp hb] at hc ⊢
 unfold xf xI
 rw [Rl hb hc]
 rfl
theorem po {S : Sp} {l : List Rw} {j k : Nat} (h : (xH S l j k).testBit k = false ∨ jy S (l8 (xf S l j k) (rc S l j).length k) = false) : xf S l j k = xf S l j (k + 1) := by
 have : xH S l j (k + 1) = xH S l j k := RW fun ⟨h1, h2⟩ => by
  rcases h with h | h
  ·rw [h1] at h; cases h
  ·rw [Bp h1, h2] at h; cases h
 unfold xf xI
 rw [this]
theorem Sa (x : Rw) : (tT x).length ≤ 1 ∧ ((tT x).length = 1 → 0 < x.o) ∧ (¬ (tT x).length = 1 → x.o = 0) := by
 rw [Fs]
 split
 ·exact ⟨Nat.le_refl _, fun _ => by assumption, fun h => absurd rfl h⟩
 ·exact ⟨Nat.zero_le _, fun h => (by cases h), fun _ => (by omega)⟩
theorem AX {S : Sp} {l : List Rw} {j k : Nat} : (xf S l j k).length = (rc S l j).length + (tT (xI S l j k)).length + (l.length - (j + 1)) := by
 unfold xf
 rw [List.length_append, List.length_append, List.length_drop]
theorem Nc {S : Sp} {l : List Rw} {j : Nat} : (rc S l j ++ l.drop j).length = (rc S l j).length + (l.length - j) := by rw [List.length_append, List.length_drop]
theorem L5 {l : List Rw} (h : gH l) {i : Nat} (hi : i < l.length) (k : Nat) : gH (l8 l i k) := by
 unfold l8
 obtain ⟨h1, h2, h3⟩ := h.get hi
 split
 ·exact (h.take _).app (h.drop _)
 ·exact h.set ⟨h1, h2, by have := qL (l.getD i ⟨⟨0, 0⟩, 0⟩).o (2 ^ k); show andNot _ _ < 256; omega⟩
theorem uC {o k : Nat} (h : ((o / 2 ^ ((k : Nat) : Int).toNat &&& 1 : Nat) : Int) = 0) : o.testBit k = false := Bool.eq_false_iff.2 fun hb => by
 have := lr.2 hb
 rw [Int.toNat_natCast] at h
 rw [h] at this
 cases this
theorem KK {o k : Nat} (h : ¬ ((o / 2 ^ ((k : Nat) : Int).toNat &&& 1 : Nat) : Int) = 0) : o.testBit k = true := Classical.byContradiction fun hb => h (by
 have hb : o.testBit k = false := by simpa using hb
 rw [hU, decide_eq_false_iff_not] at hb
 rw [Int.toNat_natCast, uM]
 omega)
theorem sS {o k : Nat} (h : o = 0) : o.testBit k = false := by subst h; exact Nat.zero_testBit k
def CV (a b : List Rw) : Prop := ∀ x, x ∈ a → ∃ y, y ∈ b ∧ x.c = y.c ∧ ∀ j, x.o.testBit j = true → y.o.testBit j = true
theorem CV.refl (a : List Rw) : CV a a := fun x hx => ⟨x, hx, rfl, fun _ h => h⟩
theorem CV.trans {a b c : List Rw} (h : CV a b) (k : CV b c) : CV a c := fun x hx => by
 obtain ⟨y, hy, h1, h2⟩ := h x hx
 obtain ⟨z, hz, h3, h4⟩ := k y hy
 exact ⟨z, hz, h1.trans h3, fun j hj => h4 j (h2 j hj)⟩
theorem CV.app {a b c d : List Rw} (h : CV a b) (k : CV c d) : CV (a ++ c) (b ++ d) := fun x hx => by
 rcases List.mem_append.1 hx with hx | hx
 ·obtain ⟨y, hy, h⟩ := h x hx; exact ⟨y, List.mem_append.2 (.inl hy), h⟩
 ·obtain ⟨y, hy, h⟩ := k x hx; exact ⟨y, List.mem_append.2 (.inr hy), h⟩
theorem CV.kp {x y : Rw} (hc : x.c = y.c) (ho : ∀ j, x.o.testBit j = true → y.o.testBit j = true) : CV (tT x) (tT y) := fun z hz => by
 unfold tT at hz
 split at hz
 ·rename_i hp
  simp at hz
  subst hz
  obtain ⟨j, hj⟩ := mO hp
  exact ⟨y, by rw [vf (rT (ho j hj))]; exact List.mem_singleton.2 rfl, hc, ho⟩
 ·cases hz
theorem CV.cv {a b : List Rw} (h : CV a b) {p o : Nat} (hc : AE a p o = true) : AE b p o = true := by
 unfold AE at *
 rw [List.any_eq_true] at *
 obtain ⟨x, hx, h1⟩ := hc
 obtain ⟨y, hy, e, h2⟩ := h x hx
 refine ⟨y, hy, ?_⟩
 rw [Bool.and_eq_true] at *
 exact ⟨h2 o h1.1, e ▸ h1.2⟩
theorem vX {S : Sp} {l : List Rw} : oX S l = true ↔ ∀ x, x ∈ l → EW S x = true := by unfold oX; exact List.all_eq_true
theorem CV.may {S : Sp} {a b : List Rw} (h : CV a b) (hp : uA a) (k : oX S b = true) : oX S a = true := vX.2 fun x hx => by
 obtain ⟨y, hy, e, h2⟩ := h x hx
 obtain ⟨h3, _, h5⟩ := jn.1 (vX.1 k y hy)
 refine jn.2 ⟨e ▸ h3, hp x hx, fZ.2 fun j hj => Bool.eq_false_iff.2 fun hb => ?_⟩
 have := h2 j hb
 rw [fZ.1 h5 j hj] at this
 cases this
end
section
open Go Go.RowKit
theorem Ol75_0 {p : Prop} (h : p := by first | omega | (simp only [cV, cW, cX, da, de]; omega)) : p := h
theorem Kx : dD Tryz.prog 48 = true := by kernel_rfl
theorem OY : dD Tryz.prog 49 = true := by kernel_rfl
theorem O0 : dD Tryz.prog 12 = true := by kernel_rfl
theorem v8 (xa : Value) (l : List Rw) (i k : Nat) (w : World) (hl : dO fI 3 w xa l) (hlb : l.length ≤ 1000000) (hlr : gH l) (hi : i < l.length) (hk : k < 8) :
    Fn Tryz.prog 49 #[xa, .int .i64 (i : Int), .int .i64 (k : Int)] w fun v w' => dh fI 3 42 w' w.heap.size v (l8 l i k) := by
 refine dr (n := 36) Tryz.func49 rfl rfl (Nat.le_of_ble_eq_true rfl) ?_
 have hB : Below w.heap.size w w := Below.refl _ _
 have h7 := Ap hk
 refine Zr <| Zw (.slice none 0 0) rfl <| cT <| Zr <| Zy (tw dR fun A W5 s B C => ?_)
 have D := ZO s hB
 clear s
 replace hB := Ze hB B
 have q := nV (enc := fI) (sz := 3) C D
 refine Zw xa rfl <| Zy (eC (v := .slice (some ⟨A, 0, none⟩) 0 0) (v2 := xa) rfl rfl dR fN Dd q (Below.slT hB hl) (io) (by have := Below.size hB; omega) (by first | omega | (simp; omega) | (simp only [cV, cW, cX, da, de]; omega)) (by first | omega | (simp; omega) | (simp only [cV, cW, cX, da, de]; omega)) fun e W8 E d => ?_)
 replace d := dh.app (enc := fI) rfl rfl rfl rfl d
 replace hB := ZG hB E q
 clear q
 rw [List.nil_append] at d
 refine Zw e rfl <| cT <| cZ fun I t => ?_
 obtain ⟨J, K, L⟩ := hlr.get hi
 refine Zd (fun a b => a.grownBy b e.ownBlock) fun F x => ?_
 replace hB := Ze hB x
 replace d := x.ow d
 have M := d
 have hS := World.grownBy.refl F e.ownBlock
 refine Tw 0 e rfl rfl hS <| Ti 1 rfl rfl hS <| Ti 5 rfl rfl hS <| Tk 6 rfl (fun _ _ => jP (m := 1) rfl rfl Om (by simp only [IntKind.bits]; omega) (by simp only [d7, Int.toNat_natCast, Nat.one_mul]; omega)) hS ?_
 refine rE (dd := some 13) 2 (by kernel_rfl) rfl rfl rfl rfl (Yd.val (dI (v := e) rfl d.sl rfl dR Om Ol75_0) ⟨.inl hS, ?_⟩)
 refine Tf 3 rfl rfl fM hS ?_
 refine rE (dd := some 15) 4 (by kernel_rfl) rfl rfl rfl rfl (Yd.val (dk (v := .int .u8 _) rfl ek (dO.cell d.sl eg ⟨⟨0, 0⟩, 0⟩ Om Ol75_0 2 rfl)) ⟨.inl hS, ?_⟩)
 refine Tk 7 rfl (fun _ _ => qd (n := _) rfl rfl rfl (by first | assumption | (simp only [d7]; omega) | (simp only [d7]; decide)) (by simp only [d7, Int.toNat_natCast, Nat.one_mul]; omega)) hS ?_
 refine rE (dd := some 19) 8 (by kernel_rfl) rfl rfl rfl rfl (Yd.val (dI (v := e) rfl d.sl rfl dR Om Ol75_0) ⟨.inl hS, ?_⟩)
 refine Tf 9 rfl rfl fM hS <| To 10 rfl (IC (v := e) (u := .int .u8 _) (a := ⟨(l.getD i ⟨⟨0, 0⟩, 0⟩).c, andNot (l.getD i ⟨⟨0, 0⟩, 0⟩).o (1 * 2 ^ k)⟩) (dd := ⟨⟨0, 0⟩, 0⟩) (j := _) (r := 2) rfl rfl ek eg rfl Dd (rfl) d Om Ol75_0 fun N g G => ⟨.inl (dG hS g), ?_⟩)
 replace hS := dG hS g
 replace hB := ZG hB g d
 clear g d
 replace d := G
 rw [Int.toNat_natCast] at d
 refine Td ?_
 have hsl : (l.set i ⟨(l.getD i ⟨⟨0, 0⟩, 0⟩).c, andNot (l.getD i ⟨⟨0, 0⟩, 0⟩).o (1 * 2 ^ k)⟩).length = l.length := List.length_set
 have hC : (l.set i ⟨(l.getD i ⟨⟨0, 0⟩, 0⟩).c, andNot (l.getD i ⟨⟨0, 0⟩, 0⟩).o (1 * 2 ^ k)⟩).length ≤ jf e := (Sl.eqv d.sl).2.1
 refine Zr <| Zw e rfl <| Zi rfl <| Zv (dI (v := e) rfl d.sl rfl dR Om Ol75_0) <| Zf rfl fM <| Zv (dk (v := .int .u8 _) rfl ek (dO.cell d.sl eg ⟨⟨0, 0⟩, 0⟩ Om Ol75_0 2 rfl)) <| Zv (eD rfl rfl) <| cT <| ZQ rfl (fun f => ?_) fun f => ?_
 refine gF (fun a b => a.grownBy b e.ownBlock) iv (fun H y => ?_)
 replace hB := Ze hB y
 replace d := y.ow d
 have O := d
 have hS := World.grownBy.refl H e.ownBlock
 refine Tw 0 e rfl rfl hS <| Ti 1 rfl rfl hS <| Tk 2 rfl (fun _ _ => Dz (v := e) rfl d.sl dR rfl Om Om) hS <| Tw 3 e rfl rfl hS <| Ti 4 rfl rfl hS <| Tk 5 rfl (fun _ _ => dp rfl rfl Om Om) hS <| Tk 6 rfl (fun _ _ => Ev (v := e) rfl d.sl dR rfl Om Om) hS <| To 7 rfl (D9 (v := e) (i := i) (j := (i + 1)) eg io rfl rfl dR d Om Om Om fun h P p z Q => ⟨.inl (dG hS p), ?_⟩)
 replace hS := dG hS p
 replace hB := ZG hB p d
 clear p d
 refine Tw 8 h rfl rfl hS <| Td <| t _ _ <| Zr <| Zw h rfl <| Zw h rfl <| cT <| Zt <| dE (v := h) rfl ⟨hB, ?_⟩
 first | exact (JE hi f) ▸ z | exact (Ki hi f) ▸ d
 refine c9 <| t _ _ <| Zr <| Zw e rfl <| Zw e rfl <| cT <| Zt <| dE (v := e) rfl ⟨hB, ?_⟩
 first | exact (JE hi f) ▸ z | exact (Ki hi f) ▸ d
theorem BU (S : Sp) (onV mayV : Value) (xa : Value) (l : List Rw) (w : World) (hon : dO fQ 4 w onV S.on) (hmay : dO fQ 4 w mayV S.may) (hl : dO fI 3 w xa l) (hlb : l.length ≤ 1000000) (hlr : gH l) (h4 : S.on.length ≤ 20) :
    Fn Tryz.prog 22 #[.agg #[.int .i64 S.n, onV, mayV], xa] w fun v w' => if jy S l = true then ∃ x, v = .tuple #[x, .int .i64 0] ∧ dh fI 3 42 w' w.heap.size x (yx S l) else v = .tuple #[.slice none 0 0, .int .i64 1] := by
 refine dr (n := 61) Tryz.func22 rfl rfl (Nat.le_of_ble_eq_true rfl) ?_
 have hB : Below w.heap.size w w := Below.refl _ _
 refine Zr <| Zy (dW (c := #[_, _, _]) rfl rfl fun t W3 u D a => ?_)
 have Y := ZO u hB
 clear u
 replace hB := Ze hB D
 refine Zw (.slice none 0 0) rfl <| Zw (.int .i64 0) rfl <| cT <| cZ fun K6 E => Zr <| Zv (db rfl eJ rfl a) <| Zw xa rfl <| ZC (vs := [.agg #[_, _, _], xa]) Kx (q7 S _ _ _ l _ (Below.slT hB hon) (Below.slT hB hmay) (Below.slT hB hl) Om hlr h4) rfl fun Z aa y F => ?_
 replace hB := Ze hB y
 replace a := y.at a
 obtain rfl := F
 refine Zv (fG rfl) <| cT <| ZQ rfl (fun s => ?_) fun s => ?_
 refine Zr <| Zw (.slice none 0 0) rfl <| Zw (.int .i64 1) rfl <| cT <| Zt <| d8 (v := .slice none 0 0) rfl (v1 := .int .i64 1) rfl ⟨hB, ?_⟩
 rw [if_neg (by rw [show jy S l = false from iI s]; decide)]
 refine c9 <| E _ _ ?_
 have hc : jy S l = true := ig s
 have hp := Kp hc
 obtain ⟨hr0, hr8, hr1, hr4, hr5, _⟩ := dX.1 (gY.1 hc).1
 refine Zr <| Zy (tw dR fun G ab z A H => ?_)
 have I := ZO z hB
 clear z
 replace hB := Ze hB A
 replace a := A.at a
 have m := nV (enc := fI) (sz := 3) H I
 refine Zw xa rfl <| Zy (eC (v := .slice (some ⟨G, 0, none⟩) 0 0) (v2 := xa) rfl rfl dR fN Dd m (Below.slT hB hl) (io) (by have := Below.size hB; omega) (by first | omega | (simp; omega) | (simp only [cV, cW, cX, da, de]; omega)) (by first | omega | (simp; omega) | (simp only [cV, cW, cX, da, de]; omega)) fun o ac B b => ?_)
 replace b := dh.app (enc := fI) rfl rfl rfl rfl b
 replace hB := ZG hB B m
 replace a := At.grownOw a m B Dd
 clear m
 rw [List.nil_append] at b
 refine Zw o rfl <| cT <| cZ fun ad J => Zr <| Zw (.int .i64 0) rfl <| cT <| c7 ?_
 refine dz (σ := (Nat) × (Value)) [6, 7, 8, 9, 10, 18, 19, 20, 21, 22, 23, 24, 25, 26, 27, 28, 29, 30, 31, 32, 33, 34, 35, 36, 37, 38, 39, 40, 41, 42, 43, 44, 45, 46, 47, 48, 49, 50, 51, 52, 53, 54, 55, 56, 57, 58, 59] (fun (j, v0) => [(7, .int .i64 ((rc S l j).length : Int)), (6, v0)]) (fun sg W => match sg with | (j, v0) => (Below w.heap.size w W) ∧ (At W t _ 24) ∧ (dh fI 3 42 W w.heap.size o _) ∧ (dh fI 3 42 W w.heap.size v0 (rc S l j ++ l.drop j)) ∧ (j ≤ l.length) ∧ (True)) (fun (j, v0) => l.length - j) ((0, o)) ⟨rfl, rfl, trivial⟩ ⟨hB, a, b, (by exact b), (Nat.zero_le _), trivial⟩ ?_
 clear hB a b
 rintro ⟨j, v0⟩ ae af ⟨hB, a, b, ho, hj, _⟩ ag C
 refine cZ fun ah K => ?_
 have hdl := Nc (S := S) (l := l) (j := j)
 have hal := Fo S l j
 refine Zr <| Zi rfl <| Zw v0 rfl <| Zv (dB (v := v0) rfl ho.sl dR) <| Zv (dN rfl rfl) <| cT <| ZQ rfl (fun L => ?_) fun L => ?_
 refine c9 <| K _ _ <| c7 ?_
 have hjl : j < l.length := by omega
 refine Zr <| Zw v0 rfl <| Zv (dB (v := v0) rfl ho.sl dR) <| Zi rfl <| cT <| cZ fun ai M => Zr <| Zf rfl fE <| ZL onV rfl eB a rfl <| Zv (dB (v := onV) rfl (Below.slT hB hon) d5) <| Zw (.int .i64 0) rfl <| cT <| c7 ?_
 refine dz (σ := (Nat) × (Value)) [6, 9, 10, 27, 28, 29, 30, 31, 32, 33, 34, 35, 36, 37, 38, 39, 40, 41, 42, 43, 44, 45, 46, 47, 48, 49, 50, 51, 52, 53] (fun (k, v1) => [(27, .int .i64 (k : Int)), (6, v1)]) (fun sg W => match sg with | (k, v1) => (Below w.heap.size w W) ∧ (At W t _ 24) ∧ (dh fI 3 42 W w.heap.size o _) ∧ (dh fI 3 42 W w.heap.size v1 (xf S l j k)) ∧ (k ≤ S.on.length) ∧ (True)) (fun (k, v1) => S.on.length - k) ((0, v0)) ⟨rfl, rfl, trivial⟩ ⟨hB, a, b, (by rw [← Je hp hjl]; exact ho), (Nat.zero_le _), trivial⟩ ?_
 clear hB a b ho
 rintro ⟨k, v1⟩ aj ak ⟨hB, a, b, hoo, hk, _⟩ al p
 refine Zr <| Zv (dN rfl rfl) <| cT <| cZ fun ao N => ZQ rfl (fun O => ?_) fun O => ?_
 refine c9 <| N _ _ <| cZ fun ap q => c7 <| Zr <| Zi rfl <| Zi rfl <| cT <| cZ fun aq P => ?_
 have htl := AX (S := S) (l := l) (j := j) (k := k)
 obtain ⟨hk1, hk2, hk3⟩ := Sa (xI S l j k)
 have htb := Rf (S := S) hlr hjl k
 have hget : (tT (xI S l j k)).length = 1 → (xf S l j k).getD (((rc S l j).length : Nat) : Int).toNat ⟨⟨0, 0⟩, 0⟩ = xI S l j k := fun h => by rw [Int.toNat_natCast]; exact L8 (hk2 h)
 refine Zr <| Zw v1 rfl <| Zv (dB (v := v1) rfl hoo.sl dR) <| Zi rfl <| Zv (dN rfl rfl) <| ZX rfl (fun Q => ?_) fun Q => ?_
 refine Zs <| Zs <| Zs <| Zs <| Zs <| Zs <| Zs <| Zs <| Zs <| Zw (.bool true) rfl <| cT <| dA rfl <| dt <| q _ _ ?_
 refine cY <| Zv (dp rfl rfl Om Om) <| Zi rfl <| cT ?_
 exact p _ _ ((k + 1, v1)) Za ⟨rfl, rfl, trivial⟩ ⟨hB, a, b, (by first | (rw [← Ff hbt f]; exact hoo) | (rw [← po (.inr f)]; exact hoo) | (rw [← po (.inl (sS (hk3 Om)))]; exact hoo) | (rw [← po (.inl (uC (by rw [hget Om] at d; exact d)))]; exact hoo)), Om, trivial⟩ (by show S.on.length - (k + 1) < S.on.length - k; omega)
 refine Zw v1 rfl <| Zi rfl <| Zv (dI (v := v1) rfl hoo.sl rfl dR Om Ol75_0) <| Zf rfl fM <| Zv (dk (v := .int .u8 _) rfl ek (dO.cell hoo.sl eg ⟨⟨0, 0⟩, 0⟩ Om Ol75_0 2 rfl)) <| Zi rfl <| Zv (sR rfl rfl Om (by simp only [IntKind.bits]; omega)) <| Zv (nZ (n := 1) rfl rfl rfl (by exact Nat.lt_of_le_of_lt (Nat.div_le_self _ _) (htb.any _)) Dd) <| Zv (eD rfl rfl) <| Zb rfl <| cT <| ZQ rfl (fun d => ?_) fun d => ?_
 refine dt <| q _ _ <| cY <| Zv (dp rfl rfl Om Om) <| Zi rfl <| cT ?_
 exact p _ _ ((k + 1, v1)) Za ⟨rfl, rfl, trivial⟩ ⟨hB, a, b, (by first | (rw [← Ff hbt f]; exact hoo) | (rw [← po (.inr f)]; exact hoo) | (rw [← po (.inl (sS (hk3 Om)))]; exact hoo) | (rw [← po (.inl (uC (by rw [hget Om] at d; exact d)))]; exact hoo)), Om, trivial⟩ (by show S.on.length - (k + 1) < S.on.length - k; omega)
 refine c9 <| P _ _ ?_
 have hpos : (tT (xI S l j k)).length = 1 := by omega
 rw [hget hpos] at d
 have hbt : (xH S l j k).testBit k = true := KK d
 have hwl := Hn (xf S l j k) (rc S l j).length k
 refine Zr <| Zw v1 rfl <| Zi rfl <| Zi rfl <| ZC OY (v8 _ (xf S l j k) (rc S l j).length k _ hoo.sl Om htb Om Om) rfl fun g ar r e => ?_
 have R := dh.lt2 b
 have T := dh.lt2 hoo
 have U := (Below.size hB)
 replace hB := Ze hB r
 replace a := r.at a
 replace b := r.ow b
 replace hoo := r.ow hoo
 have au := eW.new R e
 have av := eW.new T e
 replace e := dh.mono e U
 refine Zw g rfl <| cT <| Zr <| Zv (db rfl eJ rfl a) <| Zw g rfl <| ZC (vs := [.agg #[_, _, _], g]) Kx (q7 S _ _ _ (l8 (xf S l j k) (rc S l j).length k) _ (Below.slT hB hon) (Below.slT hB hmay) e.sl Om (L5 htb Om k) h4) rfl fun aw ax i V => ?_
 replace hB := Ze hB i
 replace a := i.at a
 replace b := i.ow b
 replace hoo := i.ow hoo
 replace e := i.ow e
 obtain rfl := V
 refine cT <| ZQ rfl (fun f => ?_) fun f => ?_
 refine cY <| Zw g rfl <| Zw g rfl <| cT <| q _ _ <| cY <| Zv (dp rfl rfl Om Om) <| Zi rfl <| cT ?_
 exact p _ _ ((k + 1, g)) Za ⟨rfl, rfl, trivial⟩ ⟨hB, a, b, (by first | (rw [← Ff hbt f]; exact e) | (rw [← po (.inr f)]; exact e) | (rw [← po (.inl (sS (hk3 Om)))]; exact e) | (rw [← po (.inl (uC (by rw [hget Om] at d; exact d)))]; exact e)), Om, trivial⟩ (by show S.on.length - (k + 1) < S.on.length - k; omega)
 refine c9 <| q _ _ <| cY <| Zv (dp rfl rfl Om Om) <| Zi rfl <| cT ?_
 exact p _ _ ((k + 1, v1)) Za ⟨rfl, rfl, trivial⟩ ⟨hB, a, b, (by first | (rw [← Ff hbt f]; exact hoo) | (rw [← po (.inr f)]; exact hoo) | (rw [← po (.inl (sS (hk3 Om)))]; exact hoo) | (rw [← po (.inl (uC (by rw [hget Om] at d; exact d)))]; exact hoo)), Om, trivial⟩ (by show S.on.length - (k + 1) < S.on.length - k; omega)
 refine dt <| M _ _ ?_
 obtain rfl : k = S.on.length := by omega
 have htl := AX (S := S) (l := l) (j := j) (k := S.on.length)
 obtain ⟨hk1, hk2, hk3⟩ := Sa (xI S l j S.on.length)
 have hA1 : (rc S l (j + 1)).length = (rc S l j).length + (tT (xI S l j S.on.length)).length := by rw [sr, List.length_append]
 refine Zr <| Zw v1 rfl <| Zv (dB (v := v1) rfl hoo.sl dR) <| Zi rfl <| Zv (eD rfl rfl) <| cT <| ZQ rfl (fun X => ?_) fun X => ?_
 refine cY <| Zi rfl <| Zv (dp rfl rfl Om Om) <| Zi rfl <| cT ?_
 exact C _ _ ((j + 1, v1)) Za ⟨(by first | exact congrArg (Value.int .i64) Om | exact congrArg (Value.int .i64) (by rw [hA1]; omega)), rfl, trivial⟩ ⟨hB, a, b, (by (rw [← Fe]; exact hoo)), Om, trivial⟩ (by show l.length - (j + 1) < l.length - j; omega)
 refine c9 ?_
 exact C _ _ ((j + 1, v1)) Za ⟨(by first | exact congrArg (Value.int .i64) Om | exact congrArg (Value.int .i64) (by rw [hA1]; omega)), rfl, trivial⟩ ⟨hB, a, b, (by (rw [← Fe]; exact hoo)), Om, trivial⟩ (by show l.length - (j + 1) < l.length - j; omega)
 refine dt <| J _ _ <| Zr <| Zw v0 rfl <| Zw v0 rfl <| Zw (.int .i64 0) rfl <| cT <| Zt <| d8 (v := v0) rfl (v1 := .int .i64 0) rfl ⟨hB, ?_⟩
 obtain rfl : j = l.length := by omega
 rw [if_pos hc]
 rw [List.drop_length, List.append_nil] at ho
 exact ⟨_, rfl, ho⟩
end
end Go.Proofs.YteimkklmmanncaaGreat
