/- The family of a spec's primes: some outputs' primes, but for those that more outputs have. No program in it. The walk of the family of a spec's primes. Plain words for the document's rows: all of them in order, those that no other one holds. No program in it. Plain words for thinning: rows without w -/
import Derived.Test.YteimkklmmanncaaGreatT6
namespace Go.Proofs.YteimkklmmanncaaGreat
set_option linter.unusedVariables false
set_option linter.unusedSimpArgs false
section
open Go Go.RowKit
abbrev nN (S : Sp) : Nat := S.n.toNat
def FS (S : Sp) (o j y : Nat) : Prop := tB (nN S) (gf S o) y ∧ ∀ p, o < p → p < j → p &&& o = o → ¬ tB (nN S) (gf S p) y
def Gx (S : Sp) (j x : Nat) : Prop := ∃ o, 1 ≤ o ∧ o < j ∧ ∃ y, FS S o (2 ^ S.may.length) y ∧ x = y + o * 65536
section
variable {S : Sp} {o p j x y : Nat}
theorem RH : FS S o (o + 1) = tB (nN S) (gf S o) := fK fun y => ⟨fun h => h.1, fun h => ⟨h, fun p h1 h2 => by omega⟩⟩
theorem RK (h : j &&& o = o) (hj : o < j) : FS S o (j + 1) = fun y => FS S o j y ∧ ¬ tB (nN S) (gf S j) y := fK fun y => by
 unfold FS
 constructor
 ·rintro ⟨h1, h2⟩
  exact ⟨⟨h1, fun p a b => h2 p a (by omega)⟩, h2 j hj (by omega) h⟩
 ·rintro ⟨⟨h1, h2⟩, h3⟩
  refine ⟨h1, fun p a b c => ?_⟩
  by_cases e : p = j
  ·subst e; exact h3
  ·exact h2 p a (by omega) c
theorem Rq (h : ¬ j &&& o = o) : FS S o (j + 1) = FS S o j := fK fun y => by
 unfold FS
 constructor
 ·rintro ⟨h1, h2⟩
  exact ⟨h1, fun p a b => h2 p a (by omega)⟩
 ·rintro ⟨h1, h2⟩
  refine ⟨h1, fun p a b c => ?_⟩
  by_cases e : p = j
  ·subst e; exact absurd c h
  ·exact h2 p a (by omega) c
theorem Ra : Gx S 1 = fun _ => False := fK fun x => ⟨fun ⟨o, h1, h2, _⟩ => by omega, fun h => h.elim⟩
theorem Qa (h : 1 ≤ o) : Gx S (o + 1) x ↔ Gx S o x ∨ ∃ y, FS S o (2 ^ S.may.length) y ∧ x = y + o * 65536 := by
 constructor
 ·rintro ⟨q, h1, h2, h3⟩
  by_cases e : q = o
  ·subst e; exact .inr h3
  ·exact .inl ⟨q, h1, by omega, h3⟩
 ·rintro (⟨q, h1, h2, h3⟩ | h3)
  ·exact ⟨q, h1, by omega, h3⟩
  ·exact ⟨o, h, by omega, h3⟩
theorem mB (hr : dO S = true) : nN S ≤ 8 ∧ S.n = (nN S : Int) ∧ S.may.length ≤ 4 := by
 obtain ⟨h0, h8, _, h4, h5, _⟩ := d9.1 hr
 unfold nN
 omega
theorem JV (hr : dO S = true) (o : Nat) : un (nN S) (gf S o) 0 := by
 obtain ⟨h8, hn, _⟩ := mB hr
 have := HZ hr o
 rw [hn] at this
 exact (PM this).2
theorem Ew (hr : dO S = true) (h : FS S o j y) : y < 65536 := by
 obtain ⟨h8, _, _⟩ := mB hr
 have h1 := zA h8 h.1
 have h2 : 2 ^ (2 * nN S) ≤ 2 ^ 16 := Nat.pow_le_pow_right (by decide) (by omega)
 exact Nat.lt_of_lt_of_le h1 h2
theorem HS (hr : dO S = true) {c : Cb} (h1 : 1 ≤ o) (ho : o < 2 ^ S.may.length) : oR S ⟨c, o⟩ = true ↔ gT c.m c.v (gf S o) (nN S : Int) = true ∧ ∀ p, o < p → p < 2 ^ S.may.length → p &&& o = o → ¬ gT c.m c.v (gf S p) (nN S : Int) = true := by
 obtain ⟨h8, hn, _⟩ := mB hr
 have wi : ∀ q, q < 2 ^ S.may.length → (pv c.m c.v (gf S q) S.n = true ↔ d7 c.m c.v S.n = true ∧ ∀ j, q.testBit j = true → j < S.may.length ∧ pv c.m c.v (jq S j) S.n = true) := fun q hq => by
  rw [tQ]
  refine and_congr_right fun _ => ⟨fun h j hj => ?_, fun h j _ hj => (h j hj).2⟩
  have hlt : j < S.may.length := by
   rcases Nat.lt_or_ge j S.may.length with k | k
   ·exact k
   ·rw [f7.1 hq j k] at hj; cases hj
  exact ⟨hlt, h j hlt hj⟩
 have le : ∀ q : Nat, (∀ j, q.testBit j = true → (kO S c).testBit j = true) ↔ ∀ j, q.testBit j = true → j < S.may.length ∧ pv c.m c.v (jq S j) S.n = true := fun q => by
  refine forall_congr' fun j => imp_congr_right fun _ => ?_
  exact gH _
 have out_lt : kO S c < 2 ^ S.may.length := qF S c _
 have prim : ∀ q : Nat, gT c.m c.v (gf S q) (nN S : Int) = true → pv c.m c.v (gf S q) S.n = true := fun q hq => by rw [hn]; exact (gg.1 hq).1
 have sub : ∀ (q q' : Nat) (d : Cb), (∀ j, q.testBit j = true → q'.testBit j = true) → Ex (nN S) (gf S q') d → Ex (nN S) (gf S q) d := fun q q' d hq hw p hp hh => by
  have := hw p hp hh
  rw [jf] at this ⊢
  exact ⟨this.1, fun j hj hb => this.2 j hj (hq j hb)⟩
 rw [fH, gE]
 constructor
 ·rintro ⟨⟨_, _, hin⟩, hout, hp⟩
  rw [hn] at hp
  refine ⟨hp, fun q h3 h4 h5 hq => ?_⟩
  have h6 := ((wi q h4).1 (prim q hq)).2
  have h7 := (le q).2 h6
  rw [hout] at h7
  have : q = o := Nat.eq_of_testBit_eq fun j => by
   have h8 := congrArg (fun z => z.testBit j) h5
   simp only [Nat.testBit_and] at h8
   cases e1 : q.testBit j with
   | true => exact (h7 j e1).symm
   | false => rw [e1, Bool.false_and] at h8; exact h8
  omega
 ·rintro ⟨hp, hno⟩
  have hw := (wi o ho).1 (prim o hp)
  have hle := (le o).2 hw.2
  have hout : kO S c = o := by
   refine Decidable.byContradiction fun hne => ?_
   have hand : kO S c &&& o = o := Nat.eq_of_testBit_eq fun j => by
    rw [Nat.testBit_and]
    cases e : o.testBit j with
    | true => rw [hle j e]; rfl
    | false => rw [Bool.and_false]
   have hge : o ≤ kO S c := by rw [← hand]; exact Nat.and_le_left
   refine hno (kO S c) (by omega) out_lt hand ?_
   obtain ⟨g1, g2, g3⟩ := (fN h8).1 hp
   refine (fN h8).2 ⟨g1, ?_, fun i hi hb hq => g3 i hi hb (sub o _ _ hle hq)⟩
   have hwo : pv c.m c.v (gf S (kO S c)) S.n = true := (wi _ out_lt).2 ⟨hw.1, fun j hj => (gH _).1 hj⟩
   have := gm.1 hwo
   have h9 := this.2
   unfold nN
   exact h9
  refine ⟨⟨hr, h1, hw.2⟩, hout, ?_⟩
  rw [hn]
  exact hp
theorem BQ (hr : dO S = true) : Gx S (2 ^ S.may.length) x ↔ ∃ r, r ∈ eK S ∧ x = AY r := by
 obtain ⟨h8, hn, h4⟩ := mB hr
 have h16 := Gi h4
 have h256 := fW h8
 constructor
 ·rintro ⟨o, h1, h2, y, ⟨⟨c, hc, rfl⟩, hno⟩, rfl⟩
  refine ⟨⟨c, o⟩, (oa hr).2 ((HS hr h1 h2).2 ⟨hc, fun p a b d hp => hno p a b d ⟨c, hp, rfl⟩⟩), ?_⟩
  unfold AY
  rw [Nat.mod_eq_of_lt (show o < 16 by omega)]
 ·rintro ⟨⟨c, o⟩, hm, rfl⟩
  have hp := (oa hr).1 hm
  have ho : 0 < o ∧ o < 2 ^ S.may.length := by
   have h3 := (fH.1 hp).1
   exact ⟨(gE.1 h3).2.1, (oH h3).1⟩
  obtain ⟨g1, g2⟩ := (HS hr ho.1 ho.2).1 hp
  refine ⟨o, ho.1, ho.2, q8 c, ⟨⟨c, g1, rfl⟩, fun p a b d ⟨c', hc', e⟩ => ?_⟩, ?_⟩
  ·have r1 := ((fN h8).1 g1).1
   have r2 := ((fN h8).1 hc').1
   have := A8 (by have := r1.m; omega) (by have := r2.m; omega) r1.v r2.v e
   rw [← this] at hc'
   exact g2 p a b d hc'
  ·unfold AY
   rw [Nat.mod_eq_of_lt (show o < 16 by omega)]
end
theorem Wf.prefix {ns ns' : List Nd} (h : Wf ns') (hp : ns <+: ns') : Wf ns := by
 have hl := gi hp
 refine ⟨List.Nodup.sublist hp.sublist h.nd, fun i hi => ?_⟩
 have k := h.ok i (by omega)
 rw [sc hp hi] at k
 obtain ⟨k1, k2, k3, k4, k5, k6⟩ := k
 exact ⟨k1, k2, k3, by rwa [gQ hp (by omega)] at k4, by rwa [gQ hp (by omega)] at k5, k6⟩
theorem M1 (o : Nat) : vy 0 [((o * 65536 : Nat) : Int)] ≤ 24 := Hx [((o * 65536 : Nat) : Int)]
def bF (S : Sp) : Nat := tC (nN S) + 2 * nN S * 3 ^ nN S
def bO (S : Sp) : Nat := 2 ^ S.may.length * bF S + 24 + rz (16 + S.may.length) * 3 ^ nN S + (16 + S.may.length) * 3 ^ nN S
structure Pt (ns nsc : List Nd) (R : Nat) (S : Sp) (j : Nat) (ec : Int) (out : Nat) : Prop where
 v : out < nsc.length + 2
 pre : ns <+: nsc
 st : ∃ c, c ≤ (j - 1) * bO S ∧ uZ ns nsc R c ec
 m : ec = 0 → M nsc out = Gx S j
structure OV (nsc nsi : List Nd) (R : Nat) (S : Sp) (o j : Nat) (ec ei : Int) (f : Nat) : Prop where
 v : f < nsi.length + 2
 pre : nsc <+: nsi
 st : ec = 0 → ∃ c, c ≤ (j - o) * bF S ∧ uZ nsc nsi R c ei
 err : ¬ ec = 0 → ei = ec
 m : ei = 0 → M nsi f = FS S o j
 crd : ei = 0 → (dR nsi f).length ≤ 3 ^ nN S
section
variable {ns nsc nsi ns1 ns2 ns3 ns4 : List Nd} {R o j out f id idl idg idj ido lL lG lJ lO cG : Nat} {S : Sp} {ec ei e1 erL erG erJ erO : Int}
theorem Ir : Pt ns ns R S 1 0 0 := ⟨by omega, List.prefix_refl _, ⟨0, Nat.zero_le _, uZ.refl⟩, fun _ => by rw [Ra]; exact fK fun x => ⟨fun h => Hl ns x h, fun h => h.elim⟩⟩
theorem J4 (p : Kf nsc ns1 R ec e1 (nN S) 0 (gf S o) id) : OV nsc ns1 R S o (o + 1) ec e1 id :=
 ⟨p.v, p.pre, fun z => ⟨_, by rw [Nat.sub_zero, show o + 1 - o = 1 by omega, Nat.one_mul]; exact Nat.le_add_right _ _, p.sta z⟩, p.err, fun z => by rw [RH]; exact p.m z, fun z => p.crd z⟩
theorem LW (hr : dO S = true) (hw : Wf ns2) (h : OV nsc nsi R S o j ec ei f) (hj : o < j) (hb : j &&& o = o) (p : Kf nsi ns1 R ei e1 (nN S) 0 (gf S j) id) (gL : jK ns1 ns2 R (tD.cst ns1 f id) lL (tD.res (M ns1 f) (M ns1 id)) idl erL) : OV nsc ns2 R S o (j + 1) ec (iD e1 erL) (jP e1 erL idl) := by
 obtain ⟨h8, _, _⟩ := mB hr
 have hw1 := hw.prefix gL.pre
 have hpl := gi p.pre
 have hv := h.v
 have cL : e1 = 0 → tD.cst ns1 f id ≤ 2 * nN S * 3 ^ nN S := fun z1 => by
  have z0 := ka p.err z1
  have t1 : tp ns1 f ≤ 2 * nN S := lE.2 fun x hx => by
   have hx' : M ns1 f x := hx
   rw [iM p.pre h.v, h.m z0] at hx'
   exact zA h8 hx'.1
  have t2 : tp ns1 id ≤ 2 * nN S := lE.2 fun x hx => by
   have hx' : M ns1 id x := hx
   rw [p.m z1] at hx'
   exact zA h8 hx'
  refine Nat.le_trans (Ll hw1 Eb.endF (by omega) p.v t1 t2) (Nat.mul_le_mul (Nat.sub_le _ _) ?_)
  have := p.crd z1
  rw [Nat.sub_zero] at this
  exact Nat.le_trans (Nat.min_le_right _ _) this
 refine ⟨oF gL.valid, (h.pre.trans p.pre).trans gL.pre, fun z => ?_, fun z => ?_, fun z => ?_, fun z => ?_⟩
 ·obtain ⟨c, hc, s⟩ := h.st z
  have s1 := s.step (c2 := tC (nN S - 0)) (fun z => p.sta z) (fun z => ⟨p.pre, p.err z⟩)
  refine ⟨_, ?_, s1.did gL (c2 := 2 * nN S * 3 ^ nN S) cL⟩
  rw [Nat.sub_zero, show j + 1 - o = (j - o) + 1 by omega, Nat.add_mul, Nat.one_mul]
  unfold bF at hc ⊢
  omega
 ·have h1 := h.err z
  have h2 := p.err (by rw [h1]; exact z)
  unfold iD
  rw [if_neg (by rw [h2, h1]; exact z), h2, h1]
 ·obtain ⟨z1, z2⟩ := ib.1 z
  rw [ln z, RK hb hj, show M ns2 idl = tD.res (M ns1 f) (M ns1 id) from fK (gL.ok z2).2.2, iM p.pre h.v, h.m (ka p.err z1), p.m z1]
  rfl
 ·obtain ⟨z1, z2⟩ := ib.1 z
  rw [ln z]
  have hg := gL.ok z2
  have hsub : ∀ x, x ∈ dR ns2 idl → x ∈ dR nsi f := fun x hx => by
   have hx' : M ns1 f x := ((hg.2.2 x).1 hx).1
   rw [iM p.pre h.v] at hx'
   exact hx'
  exact Nat.le_trans (Ky hw hg.1 hsub) (h.crd (ka p.err z1))
theorem M8 (h : OV nsc nsi R S o j ec ei f) (hb : ¬ j &&& o = o) : OV nsc nsi R S o (j + 1) ec ei f :=
 ⟨h.v, h.pre, fun z => by obtain ⟨c, hc, s⟩ := h.st z; exact ⟨c, Nat.le_trans hc (Nat.mul_le_mul_right _ (by omega)), s⟩, h.err, fun z => by rw [Rq hb]; exact h.m z, h.crd⟩
theorem Mt (hr : dO S = true) (hw : Wf ns3) (hcG : cG ≤ 24) (ho : Pt ns nsc R S o ec out) (h1 : 1 ≤ o) (h16 : o < 16) (hom : o < 2 ^ S.may.length) (h : OV nsc nsi R S o (2 ^ S.may.length) ec ei f)
  (gG : jK nsi ns1 R cG lG (bS [((o * 65536 : Nat) : Int)] 0) idg erG) (gJ : jK ns1 ns2 R (qq.cst ns1 f (jP ei erG idg)) lJ (qq.res (M ns1 f) (M ns1 (jP ei erG idg))) idj erJ)
  (gO : jK ns2 ns3 R (oo.cst ns2 out (jP (iD ei erG) erJ idj)) lO (oo.res (M ns2 out) (M ns2 (jP (iD ei erG) erJ idj))) ido erO) :
  Pt ns ns3 R S (o + 1) (iD (iD (iD ei erG) erJ) erO) (jP (iD (iD ei erG) erJ) erO ido) := by
 have p1 := gi h.pre
 have p2 := gi gG.pre
 have p3 := gi gJ.pre
 have hv := h.v
 have hov := ho.v
 have hw2 := hw.prefix gO.pre
 have hw1 := hw2.prefix gJ.pre
 have hg0 : erG = 0 → M ns1 idg = fun x => x = o * 65536 := fun zG => fK fun x => by
  refine ((gG.ok zG).2.2 x).trans ?_
  constructor
  ·rintro ⟨m, hm, e⟩
   rw [List.mem_singleton.1 hm, Int.toNat_natCast, yv] at e
   exact e
  ·rintro rfl
   exact ⟨_, List.mem_singleton.2 rfl, by rw [Int.toNat_natCast, yv]⟩
 have key : ∀ y, FS S o (2 ^ S.may.length) y → y ||| o * 65536 = y + o * 65536 := fun y hy => by
  have hlt := Ew hr hy
  have e := Nat.two_pow_add_eq_or_of_lt (i := 16) hlt o
  have e16 : (2 : Nat) ^ 16 = 65536 := rfl
  rw [e16] at e
  rw [Nat.or_comm, Nat.mul_comm, ← e, Nat.add_comm]
 have e16 : (2 : Nat) ^ (16 + S.may.length) = 65536 * 2 ^ S.may.length := by rw [Nat.pow_add]
 have big : ∀ y q, y < 65536 → q < 2 ^ S.may.length → y + q * 65536 < 2 ^ (16 + S.may.length) := fun y q hy hq => by
  rw [e16]
  have : (q + 1) * 65536 ≤ 65536 * 2 ^ S.may.length := by rw [Nat.mul_comm]; exact Nat.mul_le_mul_left _ hq
  omega
 have cJ : iD ei erG = 0 → qq.cst ns1 f (jP ei erG idg) ≤ rz (16 + S.may.length) * 3 ^ nN S := fun z2 => by
  obtain ⟨z1, zG⟩ := ib.1 z2
  rw [ln z2]
  have t1 : tp ns1 f ≤ 16 + S.may.length := lE.2 fun x hx => by
   have hx' : M ns1 f x := hx
   rw [iM gG.pre h.v, h.m z1] at hx'
   have := big x 0 (Ew hr hx') (by omega)
   omega
  have t2 : tp ns1 idg ≤ 16 + S.may.length := lE.2 fun x hx => by
   have hx' : M ns1 idg x := hx
   rw [hg0 zG] at hx'
   have := big 0 o (by omega) hom
   omega
  have l1 : (dR ns1 f).length ≤ 3 ^ nN S := by rw [gK gG.pre h.v]; exact h.crd z1
  have l2 : (dR ns1 idg).length ≤ 1 := jg (l2 := [o * 65536]) (js hw1 idg (gG.ok zG).1) fun x hx => by
   have hx' : M ns1 idg x := hx
   rw [hg0 zG] at hx'
   exact List.mem_singleton.2 hx'
  refine Nat.le_trans (Q0 hw1 (by omega) (gG.ok zG).1 t1 t2) (Nat.mul_le_mul (qa (Nat.sub_le _ _)) ?_)
  exact Nat.le_trans (Nat.mul_le_mul l1 l2) (Nat.le_of_eq (Nat.mul_one _))
 have hj0 : iD (iD ei erG) erJ = 0 → M ns2 idj = fun x => ∃ y, FS S o (2 ^ S.may.length) y ∧ x = y + o * 65536 := fun z3 => fK fun x => by
  obtain ⟨z2, zJ⟩ := ib.1 z3
  obtain ⟨z1, zG⟩ := ib.1 z2
  refine ((gJ.ok zJ).2.2 x).trans ?_
  rw [ln z2, hg0 zG, iM gG.pre h.v, h.m z1]
  show mT _ _ x ↔ _
  constructor
  ·rintro ⟨y, b, hy, rfl, rfl⟩
   exact ⟨y, hy, key y hy⟩
  ·rintro ⟨y, hy, rfl⟩
   exact ⟨y, _, hy, rfl, (key y hy).symm⟩
 have cO : iD (iD ei erG) erJ = 0 → oo.cst ns2 out (jP (iD ei erG) erJ idj) ≤ (16 + S.may.length) * 3 ^ nN S := fun z3 => by
  obtain ⟨z2, zJ⟩ := ib.1 z3
  obtain ⟨z1, zG⟩ := ib.1 z2
  have zc := ka h.err z1
  rw [ln z3]
  have t1 : tp ns2 out ≤ 16 + S.may.length := lE.2 fun x hx => by
   have hx' : M ns2 out x := hx
   rw [iM ((h.pre.trans gG.pre).trans gJ.pre) ho.v, ho.m zc] at hx'
   obtain ⟨q, q1, q2, y, hy, rfl⟩ := hx'
   exact big y q (Ew hr hy) (by omega)
  have t2 : tp ns2 idj ≤ 16 + S.may.length := lE.2 fun x hx => by
   have hx' : M ns2 idj x := hx
   rw [hj0 z3] at hx'
   obtain ⟨y, hy, rfl⟩ := hx'
   exact big y o (Ew hr hy) hom
  refine Nat.le_trans (Ll hw2 Ei.endF (by omega) (gJ.ok zJ).1 t1 t2) (Nat.mul_le_mul (Nat.sub_le _ _) (Nat.le_trans (Nat.min_le_right _ _) ?_))
  have := jg (l2 := (dR nsi f).map fun y => y + o * 65536) (js hw2 idj (gJ.ok zJ).1) fun x hx => by
   have hx' : M ns2 idj x := hx
   rw [hj0 z3] at hx'
   obtain ⟨y, hy, rfl⟩ := hx'
   refine List.mem_map.2 ⟨y, ?_, rfl⟩
   show M nsi f y
   rw [h.m z1]; exact hy
  rw [List.length_map] at this
  exact Nat.le_trans this (h.crd z1)
 refine ⟨oF gO.valid, ho.pre.trans (((h.pre.trans gG.pre).trans gJ.pre).trans gO.pre), ?_, fun z => fK fun x => ?_⟩
 ·obtain ⟨c, hc, s⟩ := ho.st
  have s0 : ∃ c', c' ≤ (o - 1) * bO S + 2 ^ S.may.length * bF S ∧ uZ ns nsi R c' ei := by
   by_cases z : ec = 0
   ·obtain ⟨c2, hc2, s2⟩ := h.st z
    exact ⟨_, Nat.add_le_add hc (Nat.le_trans hc2 (Nat.mul_le_mul_right _ (Nat.sub_le _ _))), s.step (fun _ => s2) (fun q => absurd z q)⟩
   ·exact ⟨_, by omega, s.step (c2 := 0) (fun q => absurd q z) (fun _ => ⟨h.pre, h.err z⟩)⟩
  obtain ⟨c0, hc0, s0⟩ := s0
  have s1 := s0.did gG (c2 := 24) fun _ => hcG
  have s2 := s1.did gJ (c2 := _) cJ
  refine ⟨_, ?_, s2.did gO (c2 := _) cO⟩
  have e : (o + 1 - 1) * bO S = (o - 1) * bO S + bO S := by rw [show o + 1 - 1 = (o - 1) + 1 by omega, Nat.add_mul, Nat.one_mul]
  rw [e]
  unfold bO at hc0 ⊢
  omega
 ·obtain ⟨z3, zO⟩ := ib.1 z
  obtain ⟨z2, zJ⟩ := ib.1 z3
  obtain ⟨z1, zG⟩ := ib.1 z2
  have zc := ka h.err z1
  have hj := hj0 z3
  rw [ln z, Qa h1]
  refine ((gO.ok zO).2.2 x).trans ?_
  show (M ns2 out x ∨ M ns2 (jP (iD ei erG) erJ idj) x) ↔ _
  rw [ln z3, hj, iM ((h.pre.trans gG.pre).trans gJ.pre) ho.v, ho.m zc]
end
theorem PB {o : Nat} (h : o < 16) : zI [((o * 65536 : Nat) : Int)] = true := qT.2 fun m hm => by
 rw [List.mem_singleton.1 hm]
 omega
def Qi (R : Nat) (ns : List Nd) (S : Sp) (ns' : List Nd) (id : Nat) (er : Int) : Prop := Pt ns ns' R S (2 ^ S.may.length) er id ∧ (¬ er = 0 → id = 0)
theorem QT {ns ns' : List Nd} {R id : Nat} {S : Sp} {e : Int} (h : Pt ns ns' R S (2 ^ S.may.length) e id) (hz : e = 0) : Qi R ns S ns' id 0 := by
 subst hz
 exact ⟨h, fun z => absurd rfl z⟩
theorem LS {ns ns' : List Nd} {R id : Nat} {S : Sp} {e : Int} (h : Pt ns ns' R S (2 ^ S.may.length) e id) (hz : ¬ e = 0) : Qi R ns S ns' 0 e :=
 ⟨⟨by omega, h.pre, h.st, fun z => absurd z hz⟩, fun _ => rfl⟩
theorem NX {ns ns' : List Nd} {R id : Nat} {S : Sp} {e : Int} (h : Qi R ns S ns' id e) : e = 0 ∨ e = 5 := by
 obtain ⟨c, _, s⟩ := h.1.st
 exact s.ers
end
section
open Go Go.RowKit
theorem Ol72_0 {p : Prop} (h : p := by first | omega | (simp only [cV, cW, cX, da]; omega)) : p := h
theorem i7 : fv Tryz.prog 142 = true := by kernel_rfl
theorem LQ : eO Tryz.prog 144 = some (.agg #[.pointer none, .int .i64 0]) := by kernel_rfl
theorem qI : (Tryz.prog.info? 30).map (·.size) = some 1 := by kernel_rfl
theorem xL {f : Nat → Value} {w : World} {d : Option Nat} {ty : TypeId} {ps : String} {af : Array Edge} {g : Option (Nat × Bool)} {x0 : Operand} {c0_0 : Value} (h0 : dP f x0 = c0_0) (k0 : c0_0.cells = #[c0_0]) :
    (execOp (dP f) ⟨d, .build 144 #[(0, x0)], ty, ps, af, g⟩).run Tryz.prog w = .ok (.value (.agg #[c0_0, .int .i64 0])) w := by
  obtain ⟨i0, hi0, hz0⟩ := Option.bind_eq_some_iff.1 (show (Tryz.prog.info? 144).bind (·.zero) = _ from LQ)
  obtain ⟨j30, hj30, hs30⟩ := Option.map_eq_some_iff.1 qI
  obtain ⟨j102, hj102, hs102⟩ := Option.map_eq_some_iff.1 wA
  simp [execOp, h0, k0, Instr.build, zeroValue, typeInfo, sizeOf, hi0, hz0, run_underlying Tryz.underlying144, Instr.fill, fe, hj30, hs30, hj102, hs102]
theorem Lu : eO Tryz.prog 142 = some (.pointer none) := by kernel_rfl
theorem ET : dD Tryz.prog 100 = true := by kernel_rfl
set_option maxRecDepth 10000 in
theorem qf (w0 : World) (ba bm bz bc R : Nat) (ns : List Nd) (e : Int) (S : Sp) (onV mayV : Value) (o ball bs bp : Nat) (w : World) (hB : Below w0.heap.size w0 w) (hz : At w bz #[.pointer (some ⟨ba, 0, none⟩)] 141) (hD : fI 163 188 w0.heap.size ba bm R w ns) (hc : At w bc #[.pointer (some ⟨bz, 0, none⟩), .int .i64 e] 144) (loc : w0.heap.size ≤ bc) (hr : dO S = true) (hon : dN gp 4 w0 onV S.on) (hmay : dN gp 4 w0 mayV S.may) (hal : At w ball #[wv (fo (nN S)) 0, wv (fo (nN S)) 1, wv (fo (nN S)) 2, wv (fo (nN S)) 3] 49) (hsp : At w bs #[.int .i64 ((nN S : Nat) : Int), onV, mayV] 24) (hbp : At w bp #[.pointer (some ⟨bc, 0, none⟩)] 142) (ho : o < 16) :
    rl Tryz.prog 100 #[.int .i64 (o : Int), .pointer (some ⟨ball, 0, none⟩), .pointer (some ⟨bs, 0, none⟩), .pointer (some ⟨bp, 0, none⟩)] w fun v w' => ∃ (ns' : List Nd) (e' : Int) (id : Nat), v = .int .i64 (id : Int) ∧ Dc 188 144 w0.heap.size bc bz ba bm w w' ∧ At w' bz #[.pointer (some ⟨ba, 0, none⟩)] 141 ∧ fI 163 188 w0.heap.size ba bm R w' ns' ∧ At w' bc #[.pointer (some ⟨bz, 0, none⟩), .int .i64 e'] 144 ∧ Kf ns ns' R e e' (nN S) 0 (gf S o) id := by
 refine fc (n := 33) Tryz.func100 rfl rfl (Nat.le_of_ble_eq_true rfl) ?_
 have hX : Dc 188 144 w0.heap.size bc bz ba bm w w := Dc.refl
 have hwf := hD.wf
 have hroom := hD.room
 have htop := hD.top
 obtain ⟨h8, hSn, B⟩ := mB hr
 have Q := Gi B
 refine Zr <| Zw (.int .i64 0) rfl <| cT <| Zr <| Zv (db rfl df rfl hal) <| Zy (dt eR rfl fun r W5 p h a => ?_)
 have q := ZO p hB
 have s := Zn p hal.lt
 have t : w.heap.size ≤ r := p ▸ hX.dx.size
 clear p
 replace hz := h.at hz
 replace hc := h.at hc
 replace hD := fI.ext h hD
 replace hX := Dc.trans hX (Dc.ext h)
 replace hal := h.at hal
 replace hsp := h.at hsp
 replace hbp := h.at hbp
 replace hB := Ze hB h
 replace a : At W5 r #[wv 0 0, wv 0 1, wv 0 2, wv 0 3] 49 := a
 refine Zy (dg rfl rfl df rfl a rfl rfl fun W8 i C => ?_)
 replace hz := At.grownAt hz a i Dd
 replace hc := At.grownAt hc a i Dd
 replace hD := fI.grownAt hD a i Dd Dd
 replace hX := Dc.new hX t q i a Dd
 replace hal := At.grownNe hal s i
 replace hsp := At.grownAt hsp a i Dd
 replace hbp := At.grownAt hbp a i Dd
 replace hB := Zg hB i q
 replace a := C
 refine cT <| cY fun T D => Zr <| Zf rfl fS <| ZL mayV rfl eE hsp rfl <| Zv (dz (v := mayV) rfl (Below.slT hB hmay) eg) <| Zw (.int .i64 0) rfl <| cT <| c9 ?_
 refine dy (σ := (Nat)) [7, 8, 13, 14, 15, 16, 17, 18, 19, 20, 21, 22, 23, 24, 25, 26] (fun k => [(13, .int .i64 (k : Int))]) (fun k W => (At W bz _ 141) ∧ (At W bc _ 144) ∧ (fI 163 188 w0.heap.size ba bm R W ns) ∧ (Dc 188 144 w0.heap.size bc bz ba bm w W) ∧ (At W ball _ 49) ∧ (At W bs _ 24) ∧ (At W bp _ 142) ∧ (Below w0.heap.size w0 W) ∧ (At W r #[wv (ld S o k) 0, wv (ld S o k) 1, wv (ld S o k) 2, wv (ld S o k) 3] 49) ∧ (k ≤ S.may.length) ∧ (True)) (fun k => S.may.length - k) (0) ⟨rfl, trivial⟩ ⟨hz, hc, hD, hX, hal, hsp, hbp, hB, a, (Nat.zero_le _), trivial⟩ ?_
 clear hz hc hD hX hal hsp hbp hB a
 rintro k U V ⟨hz, hc, hD, hX, hal, hsp, hbp, hB, a, hk, _⟩ X u
 refine Zr <| Zv (dM rfl rfl) <| cT <| cY fun Y E => ZQ rfl (fun F => ?_) fun F => ?_
 refine c7 <| E _ _ <| cY fun Z x => c9 <| Zr <| Zi rfl <| Zv (dF (v := mayV) rfl (Below.slT hB hmay) rfl eg Om Ol72_0) <| Zv (fw rfl df (dN.cell (Below.slT hB hmay) dI 0 Om Ol72_0 0 rfl) (dN.cell (Below.slT hB hmay) dI 0 Om Ol72_0 1 rfl) (dN.cell (Below.slT hB hmay) dI 0 Om Ol72_0 2 rfl) (dN.cell (Below.slT hB hmay) dI 0 Om Ol72_0 3 rfl)) <| Zy (dt eR rfl fun y G l d b => ?_)
 have z := ZO l hB
 have H := Zn l hal.lt
 have A := Zn l a.lt
 have I : w.heap.size ≤ y := l ▸ hX.dx.size
 clear l
 replace hz := d.at hz
 replace hc := d.at hc
 replace hD := fI.ext d hD
 replace hX := Dc.trans hX (Dc.ext d)
 replace hal := d.at hal
 replace hsp := d.at hsp
 replace hbp := d.at hbp
 replace hB := Ze hB d
 replace a := d.at a
 replace b : At G y #[wv 0 0, wv 0 1, wv 0 2, wv 0 3] 49 := b
 refine Zi rfl <| Zy (dg rfl rfl df rfl b rfl rfl fun aa f J => ?_)
 replace hz := At.grownAt hz b f Dd
 replace hc := At.grownAt hc b f Dd
 replace hD := fI.grownAt hD b f Dd Dd
 replace hX := Dc.new hX I z f b Dd
 replace hal := At.grownNe hal H f
 replace hsp := At.grownAt hsp b f Dd
 replace hbp := At.grownAt hbp b f Dd
 replace hB := Zg hB f z
 replace a := At.grownNe a A f
 replace b := J
 refine cT <| Zr <| Zi rfl <| Zi rfl <| Zv (se rfl rfl Om (by simp only [IntKind.bits]; omega)) <| Zv (nV (n := 1) rfl rfl rfl (by simp only [d8]; have := Nat.div_le_self o (2 ^ ((k : Nat) : Int).toNat); omega) Dd) <| Zv (dS rfl rfl) <| cT <| ZQ rfl (fun m => ?_) fun m => ?_
 refine cZ <| Zv (db rfl df rfl a) <| Zv (db rfl df rfl b) <| ZC (vs := [.agg #[_, _, _, _], .agg #[_, _, _, _]]) tN (qU _ _ _) rfl fun ab ac c K => ?_
 replace hz := c.at hz
 replace hc := c.at hc
 replace hD := fI.ext c hD
 replace hX := Dc.trans hX (Dc.ext c)
 replace hal := c.at hal
 replace hsp := c.at hsp
 replace hbp := c.at hbp
 replace hB := Ze hB c
 replace a := c.at a
 replace b := c.at b
 obtain rfl := K
 refine Zy (dg rfl rfl df rfl a rfl rfl fun ad g L => ?_)
 replace hz := At.grownAt hz a g Dd
 replace hc := At.grownAt hc a g Dd
 replace hD := fI.grownAt hD a g Dd Dd
 replace hX := Dc.new hX t q g a Dd
 replace hal := At.grownNe hal s g
 replace hsp := At.grownAt hsp a g Dd
 replace hbp := At.grownAt hbp a g Dd
 replace hB := Zg hB g q
 replace b := At.grownNe b (Ne.symm A) g
 replace a := L
 refine cT <| x _ _ <| cZ <| Zv (dm rfl rfl Om Om) <| Zi rfl <| cT ?_
 exact u _ _ (k + 1) Za ⟨rfl, trivial⟩ ⟨hz, hc, hD, hX, hal, hsp, hbp, hB, (by first | (rw [← Ey (uH m)]; exact a) | (rw [← EA (uU m)]; exact a)), Om, trivial⟩ Zo
 refine c7 <| x _ _ <| cZ <| Zv (dm rfl rfl Om Om) <| Zi rfl <| cT ?_
 exact u _ _ (k + 1) Za ⟨rfl, trivial⟩ ⟨hz, hc, hD, hX, hal, hsp, hbp, hB, (by first | (rw [← Ey (uH m)]; exact a) | (rw [← EA (uU m)]; exact a)), Om, trivial⟩ Zo
 refine dr <| D _ _ ?_
 obtain rfl : k = S.may.length := by omega
 refine Zr <| ZL (.pointer (some ⟨bc, 0, none⟩)) rfl i7 hbp rfl <| Zv (db rfl df rfl a) <| Zv (db rfl df rfl hal) <| Zf rfl fU <| Zl rfl du hsp rfl <| ZH (vs := [.pointer (some ⟨bc, 0, none⟩), .agg #[_, _, _, _], .agg #[_, _, _, _], .int .i64 _, .int .i64 0]) zZ (NI (nN S + 1) w0.heap.size ba bm bz bc R ns e (gf S o) (nN S) 0 _ (Below.size hB) hz hD hc loc h8 (JV hr o) Om) rfl fun ae af M => ?_
 obtain ⟨ag, e8_5, ah, rfl, j, N, hD8_5, O, P⟩ := M
 replace hX := Dc.trans hX j
 replace hal := At.dc hD hc j hal Dd Dd Dd
 replace hsp := At.dc hD hc j hsp Dd Dd Dd
 replace hbp := At.dc hD hc j hbp Dd Dd Dd
 replace hB := Below.dx hB (Nat.le_refl _) (Nat.le_refl _) j.dx
 replace a := At.dc hD hc j a Dd Dd Dd
 replace hz := N
 replace hD := hD8_5
 replace hc := O
 clear j
 refine Zi rfl <| cT <| Zt <| dC (v := .int .i64 _) rfl ?_
 exact ⟨_, _, _, rfl, hX, hz, hD, hc, P⟩
set_option maxRecDepth 20000 in
theorem zD (w0 : World) (ba bm bz R : Nat) (ns : List Nd) (S : Sp) (onV mayV : Value) (w : World) (hB : Below w0.heap.size w0 w) (hz : At w bz #[.pointer (some ⟨ba, 0, none⟩)] 141) (hD : fI 163 188 w0.heap.size ba bm R w ns) (hr : dO S = true) (hon : dN gp 4 w0 onV S.on) (hmay : dN gp 4 w0 mayV S.may) :
    rl Tryz.prog 66 #[.pointer (some ⟨bz, 0, none⟩), .agg #[.int .i64 S.n, onV, mayV]] w fun v w' => PW 163 188 w0.heap.size ba bm R w ns (Qi R ns S) v w' := by
 refine fc (n := 114) Tryz.func66 rfl rfl (Nat.le_of_ble_eq_true rfl) ?_
 have hX : Dx 188 w0.heap.size [ba, bm] w w := Dx.refl
 have hwf := hD.wf
 have hroom := hD.room
 have htop := hD.top
 obtain ⟨h8, hSn, aI⟩ := mB hr
 have bA := Gi aI
 have bB := Nat.two_pow_pos S.may.length
 refine Zr <| Zy (dY (c := #[_, _, _]) rfl rfl fun s W3 ae ac g => ?_)
 have bC := ZO ae hB
 have bD : w.heap.size ≤ s := ae ▸ hX.size
 clear ae
 replace hz := ac.at hz
 replace hD := fI.ext ac hD
 replace hX := Dx.trans hX (Dx.ext ac)
 replace hB := Ze hB ac
 refine Zw (.int .i64 0) rfl <| Zw (.int .i64 0) rfl <| cT <| cY fun K6 aJ => Zr <| Zp rfl <| Zv (p7 rfl rfl Tryz.underlying102) <| Zw (.bool false) rfl <| Zv (db rfl ez rfl g) <| ZC (vs := [.agg #[_, _, _]]) rJ (iR S _ _  _ (Below.slT hB hon) (Below.slT hB hmay) ) rfl fun bE bF U aK => ?_
 replace hz := U.at hz
 replace hD := fI.ext U hD
 replace hX := Dx.trans hX (Dx.ext U)
 replace hB := Ze hB U
 replace g := U.at g
 obtain rfl := aK
 refine Zv (eX rfl) <| Zb rfl <| cT <| ZQ rfl (fun aB => ?_) fun aB => ?_
 exact absurd (Jy aB) (by rw [hr]; decide)
 refine c7 <| aJ _ _ <| Zr <| Zp rfl <| Zv (xL (h0 := rfl) (k0 := rfl) (c0_0 := .pointer (some ⟨bz, 0, none⟩))) <| Zy (dY (c := #[_, _]) rfl rfl fun k bG af V d => ?_)
 have l := ZO af hB
 have N : w.heap.size ≤ k := af ▸ hX.size
 clear af
 replace hz := V.at hz
 replace hD := fI.ext V hD
 replace hX := Dx.trans hX (Dx.ext V)
 replace hB := Ze hB V
 replace g := V.at g
 refine Zy (dt Lu rfl fun t bH ag O e => ?_)
 have aC := ZO ag hB
 have aL : w.heap.size ≤ t := ag ▸ hX.size
 clear ag
 replace hz := O.at hz
 replace hD := fI.ext O hD
 replace hX := Dx.trans hX (Dx.ext O)
 replace hB := Ze hB O
 replace g := O.at g
 replace d := O.at d
 refine Zy (eH (v := .pointer (some ⟨k, 0, none⟩)) rfl rfl i7 rfl e (by exact Nat.zero_lt_one) fun bI P aM => ?_)
 replace hz := At.grownAt hz e P Dd
 replace hD := fI.grownAt hD e P Dd Dd
 replace hX := Dx.new1 hX aL (Dx.grown P (List.mem_cons_self ..) aC)
 replace hB := Zg hB P aC
 replace g := At.grownAt g e P Dd
 replace d := At.grownAt d e P Dd
 replace e := aM
 replace e : At _ _ #[_] _ := e
 refine cT ?_
 rw [hSn] at g
 refine Zr <| Zf rfl fU <| Zl rfl du g rfl <| ZC w9 (od ((nN S : Nat) : Int) _) rfl fun bJ bK I aN => ?_
 replace hz := I.at hz
 replace hD := fI.ext I hD
 replace hX := Dx.trans hX (Dx.ext I)
 replace hB := Ze hB I
 replace g := I.at g
 replace d := I.at d
 replace e := I.at e
 obtain rfl := M3 h8 aN
 refine Zw (.tuple #[.agg #[_, _, _, _], .int .i64 0]) rfl <| Zv (dG rfl) <| Zv (dJ rfl) <| Zy (dt eR rfl fun r aO ah J i => ?_)
 have aD := ZO ah hB
 have aP : w.heap.size ≤ r := ah ▸ hX.size
 clear ah
 replace hz := J.at hz
 replace hD := fI.ext J hD
 replace hX := Dx.trans hX (Dx.ext J)
 replace hB := Ze hB J
 replace g := J.at g
 replace d := J.at d
 replace e := J.at e
 replace i : At aO r #[wv 0 0, wv 0 1, wv 0 2, wv 0 3] 49 := i
 refine Zy (dg rfl rfl df rfl i rfl rfl fun bL K aQ => ?_)
 replace hz := At.grownAt hz i K Dd
 replace hD := fI.grownAt hD i K Dd Dd
 replace hX := Dx.new1 hX aP (Dx.grown K (List.mem_cons_self ..) aD)
 replace hB := Zg hB K aD
 replace g := At.grownAt g i K Dd
 replace d := At.grownAt d i K Dd
 replace e := At.grownAt e i K Dd
 replace i := aQ
 refine Zw (.int .i64 0) rfl <| cT <| Zr <| Zw (.int .i64 0) rfl <| cT <| Zr <| Zv (ia (vs := #[.pointer (some ⟨r, 0, none⟩), .pointer (some ⟨s, 0, none⟩), .pointer (some ⟨t, 0, none⟩)]) (by simp only [List.map_toArray, List.map_cons, List.map_nil]; rfl)) <| Zw (.func (.func 100) #[] #[.pointer (some ⟨r, 0, none⟩), .pointer (some ⟨s, 0, none⟩), .pointer (some ⟨t, 0, none⟩)]) rfl <| cT <| cY fun bM aR => Zr <| Zw (.int .i64 1) rfl <| cT <| c9 ?_
 refine dy (σ := (Nat) × (Nat) × (List Nd) × (Int)) [9, 11, 12, 13, 14, 32, 33, 34, 35, 36, 37, 38, 39, 40, 41, 42, 43, 44, 45, 46, 47, 48, 49, 50, 51, 52, 53, 54, 55, 56, 57, 58, 59, 60, 61, 62, 63, 64, 65, 66, 67, 68, 69, 70, 71, 72, 73, 74, 75, 76, 77, 78, 79, 80, 81, 82, 83, 84, 85, 86, 87, 88, 89, 90, 91, 92, 93, 94, 95, 96, 97, 98, 99, 100, 101, 102, 103] (fun (o, out, nsc, ec) => [(11, .int .i64 (o : Int)), (9, .int .i64 (out : Int))]) (fun sg W => match sg with | (o, out, nsc, ec) => (At W bz _ 141) ∧ (Dx 188 w0.heap.size [ba, bm] w W) ∧ (Below w0.heap.size w0 W) ∧ (At W s _ 24) ∧ (At W t _ 142) ∧ (At W r _ 49) ∧ (fI 163 188 w0.heap.size ba bm R W nsc) ∧ (At W k #[.pointer (some ⟨bz, 0, none⟩), .int .i64 ec] 144) ∧ (1 ≤ o ∧ o ≤ 2 ^ S.may.length) ∧ (Pt ns nsc R S o ec out) ∧ (True)) (fun (o, out, nsc, ec) => 2 ^ S.may.length - o) ((1, 0, ns, 0)) ⟨rfl, rfl, trivial⟩ ⟨hz, hX, hB, g, e, i, hD, d, Om, Ir, trivial⟩ ?_
 clear hz hD hX hB g d e i
 rintro ⟨o, out, nsc, ec⟩ bN bO ⟨hz, hX, hB, g, e, i, hD, d, hoo, halw, _⟩ bP aS
 refine cY fun bQ aT => Zr <| Zi rfl <| Zf rfl fS <| ZL mayV rfl eE g rfl <| Zv (dz (v := mayV) rfl (Below.slT hB hmay) eg) <| Zv (jU (m := 1) rfl rfl Om (by simp only [IntKind.bits]; omega) (by exact sW _ _ (by simp only [md]; omega))) <| Zv (dM rfl rfl) <| cT <| ZQ rfl (fun X => ?_) fun X => ?_
 refine c7 <| aT _ _ <| cY fun bR aU => c9 ?_
 have hol : o < 16 := by simp only [Nat.one_mul, Int.toNat_natCast] at X; omega
 have hom : o < 2 ^ S.may.length := by simp only [Nat.one_mul, Int.toNat_natCast] at X; omega
 have hwo := halw.v
 refine Zr <| Zw (.func (.func 100) #[] #[.pointer (some ⟨r, 0, none⟩), .pointer (some ⟨s, 0, none⟩), .pointer (some ⟨t, 0, none⟩)]) rfl <| Zi rfl ?_
 refine mW (dd := some 42) rfl rfl rfl (kh (q := 100) (first := #[]) (cap := #[.pointer (some ⟨r, 0, none⟩), .pointer (some ⟨s, 0, none⟩), .pointer (some ⟨t, 0, none⟩)]) (vs := #[.int .i64 _, .pointer (some ⟨r, 0, none⟩), .pointer (some ⟨s, 0, none⟩), .pointer (some ⟨t, 0, none⟩)]) rfl ET (by simp only [List.map_toArray, List.map_cons, List.map_nil, List.append_toArray, List.nil_append, List.cons_append]; rfl)) (qf w0 ba bm bz k R nsc ec S onV mayV o _ _ _ _ hB hz hD d l hr hon hmay i g e Om) (fun bS bT aV => ?_)
 obtain ⟨aW, e10_2, aX, rfl, Q, aY, hD10_2, aZ, a0⟩ := aV
 replace hX := Dx.new1 hX N Q.dx
 replace hB := Below.dx hB (Nat.le_refl _) (Nat.le_refl _) Q.dx
 replace g := At.dc hD d Q g Dd Dd Dd
 replace e := At.dc hD d Q e Dd Dd Dd
 replace i := At.dc hD d Q i Dd Dd Dd
 replace hz := aY
 replace hD := hD10_2
 replace d := aZ
 clear Q
 refine Zi rfl <| cT <| cY fun bU a1 => Zr <| Zi rfl <| Zv (dm rfl rfl Om Om) <| Zi rfl <| cT <| c9 ?_
 refine dy (σ := (Nat) × (Nat) × (List Nd) × (Int)) [12, 13, 45, 46, 47, 48, 49, 50, 51, 52, 53, 54, 55, 56, 57, 58, 59, 60, 61, 62, 63, 64, 65, 66, 67, 68, 69, 70] (fun (j, f, nsi, ei) => [(13, .int .i64 (j : Int)), (12, .int .i64 (f : Int))]) (fun sg W => match sg with | (j, f, nsi, ei) => (At W bz _ 141) ∧ (Dx 188 w0.heap.size [ba, bm] w W) ∧ (Below w0.heap.size w0 W) ∧ (At W s _ 24) ∧ (At W t _ 142) ∧ (At W r _ 49) ∧ (fI 163 188 w0.heap.size ba bm R W nsi) ∧ (At W k #[.pointer (some ⟨bz, 0, none⟩), .int .i64 ei] 144) ∧ (o < j ∧ j ≤ 2 ^ S.may.length) ∧ (OV nsc nsi R S o j ec ei f) ∧ (True)) (fun (j, f, nsi, ei) => 2 ^ S.may.length - j) ((o + 1, aX, aW, e10_2)) ⟨rfl, rfl, trivial⟩ ⟨hz, hX, hB, g, e, i, hD, d, (by simp only [Nat.one_mul, Int.toNat_natCast] at X; omega), (J4 a0), trivial⟩ ?_
 clear hz hX hB g e i hD d
 rintro ⟨j, f, nsi, ei⟩ bV bW ⟨hz, hX, hB, g, e, i, hD, d, hjj, hfw, _⟩ bX aE
 refine cY fun bY a2 => Zr <| Zi rfl <| Zf rfl fS <| ZL mayV rfl eE g rfl <| Zv (dz (v := mayV) rfl (Below.slT hB hmay) eg) <| Zv (jU (m := 1) rfl rfl Om (by simp only [IntKind.bits]; omega) (by exact sW _ _ (by simp only [md]; omega))) <| Zv (dM rfl rfl) <| cT <| ZQ rfl (fun ai => ?_) fun ai => ?_
 refine c7 <| a2 _ _ <| cY fun bZ aF => c9 ?_
 have hjp : j < 2 ^ S.may.length := by simp only [Nat.one_mul, Int.toNat_natCast] at ai; omega
 refine Zr <| Zi rfl <| Zi rfl <| Zv (nV (n := _) rfl rfl rfl (by first | assumption | (simp only [d8]; omega) | (simp only [d8]; decide)) (by first | assumption | (simp only [d8]; omega) | (simp only [d8]; decide))) <| Zi rfl <| Zv (dS rfl rfl) <| cT <| ZQ rfl (fun aj => ?_) fun aj => ?_
 refine gD (fun a b => Dc 188 144 w0.heap.size k bz ba bm a b) iC (fun ak z => ?_)
 replace hz := z.at hz
 replace hX := Dx.trans hX (Dx.ext z)
 replace hB := Ze hB z
 replace g := z.at g
 replace e := z.at e
 replace i := z.at i
 replace hD := fI.ext z hD
 replace d := z.at d
 have hwk0 : Wc 144 k bz ak := ⟨_, d⟩
 have hS : Dc 188 144 w0.heap.size k bz ba bm ak ak := Dc.refl
 refine Tk 0 rfl (fun _ hq => dk (v := .pointer (some ⟨k, 0, none⟩)) rfl i7 (At.cell (At.dc hD d hq e Dd Dd Dd) rfl)) hS <| Tk 1 rfl (fun _ hq => dk (v := .pointer (some ⟨k, 0, none⟩)) rfl i7 (At.cell (At.dc hD d hq e Dd Dd Dd) rfl)) hS <| Tc 2 rfl rfl hS <| Tf 3 rfl rfl jB hS <| Tk 4 rfl (fun _ hq => dk (v := .pointer (some ⟨bz, 0, none⟩)) rfl ix (Wc.c0 (Dc.wk hq hwk0))) hS <| Ti 5 rfl rfl hS <| Tw 6 (.func (.func 100) #[] #[.pointer (some ⟨r, 0, none⟩), .pointer (some ⟨s, 0, none⟩), .pointer (some ⟨t, 0, none⟩)]) rfl rfl hS <| Ti 7 rfl rfl hS <| To 8 rfl (Yd.callG (kh (q := 100) (first := #[]) (cap := #[.pointer (some ⟨r, 0, none⟩), .pointer (some ⟨s, 0, none⟩), .pointer (some ⟨t, 0, none⟩)]) (vs := #[.int .i64 _, .pointer (some ⟨r, 0, none⟩), .pointer (some ⟨s, 0, none⟩), .pointer (some ⟨t, 0, none⟩)]) rfl ET (by simp only [List.map_toArray, List.map_cons, List.map_nil, List.append_toArray, List.nil_append, List.cons_append]; rfl)) (qf w0 ba bm bz k R nsi ei S onV mayV j _ _ _ _ hB hz hD d l hr hon hmay i g e Om) fun b0 b1 al => ⟨.inl (Dc.trans hS ((by obtain ⟨_, _, _, _, h, _⟩ := al; exact h))), ?_⟩)
 replace hS := Dc.trans hS ((by obtain ⟨_, _, _, _, h, _⟩ := al; exact h))
 obtain ⟨a3, e15_8, a4, rfl, T, a5, hD15_8, a6, ao⟩ := al
 replace hX := Dx.new1 hX N T.dx
 replace hB := Below.dx hB (Nat.le_refl _) (Nat.le_refl _) T.dx
 replace g := At.dc hD d T g Dd Dd Dd
 replace e := At.dc hD d T e Dd Dd Dd
 replace i := At.dc hD d T i Dd Dd Dd
 replace hz := a5
 replace hD := hD15_8
 replace d := a6
 clear T
 have hwa := hD.wf
 have hla := gi ao.pre
 have hwi := hfw.v
 refine To 9 rfl (TG Fi (nx w0.heap.size ba bm bz R a3 f a4 _ (Below.size hB) hz hD Om ao.v) rfl fun b2 b3 ap => ⟨.inl (Dc.trans hS (Dc.zdd hD (PO.dx ap) (by decide) (by decide))), ?_⟩)
 replace hS := Dc.trans hS (Dc.zdd hD (PO.dx ap) Dd Dd)
 obtain ⟨a7, a8, aG, rfl, L, a9, bb⟩ := ap
 replace hz := At.dx hD L hz Dd Dd
 replace hX := Dx.trans hX (L)
 replace hB := Below.dx hB (Nat.le_refl _) (Nat.le_refl _) L
 replace g := At.dx hD L g Dd Dd
 replace e := At.dx hD L e Dd Dd
 replace i := At.dx hD L i Dd Dd
 replace d := At.dx hD L d Dd Dd
 replace hD := a9
 refine Tk 10 rfl (fun _ _ => dG rfl) hS <| Tk 11 rfl (fun _ _ => dJ rfl) hS <| To 12 rfl (TG nq (eY w0.heap.size k bz _ _ _ _ (Below.size hB) d l) rfl fun b4 b5 Y => ⟨.inl (Dc.trans hS (Dc.did Y.1 l Y.2.1)), ?_⟩)
 replace hS := Dc.trans hS (Dc.did Y.1 l Y.2.1)
 obtain ⟨M, bc, rfl⟩ := Y
 replace hz := At.grownAt hz d M Dd
 replace hX := Dx.new1 hX N (Dx.grown M (List.mem_cons_self ..) l)
 replace hB := Zg hB M l
 replace g := At.grownAt g d M Dd
 replace e := At.grownAt e d M Dd
 replace i := At.grownAt i d M Dd
 replace hD := fI.grownAt hD d M Dd Dd
 replace d := bc
 refine Ti 13 rfl rfl hS <| Td <| aF _ _ <| cZ <| Zi rfl <| Zv (dm rfl rfl Om Om) <| Zi rfl <| cT ?_
 exact aE _ _ ((j + 1, jP e15_8 aG a8, a7, iD e15_8 aG)) Za ⟨rfl, rfl, trivial⟩ ⟨hz, hX, hB, g, e, i, hD, (by exact d), Om, (LW hr hD.wf hfw hjj.1 (Df aj) ao bb), trivial⟩ (by show 2 ^ S.may.length - (j + 1) < 2 ^ S.may.length - j; omega)
 refine c7 <| aF _ _ <| cZ <| Zi rfl <| Zv (dm rfl rfl Om Om) <| Zi rfl <| cT ?_
 exact aE _ _ ((j + 1, f, nsi, ei)) Za ⟨rfl, rfl, trivial⟩ ⟨hz, hX, hB, g, e, i, hD, (by exact d), Om, (M8 hfw (fun h => aj (congrArg Int.ofNat h))), trivial⟩ (by show 2 ^ S.may.length - (j + 1) < 2 ^ S.may.length - j; omega)
 refine dr <| a1 _ _ ?_
 obtain rfl : j = 2 ^ S.may.length := by simp only [Nat.one_mul, Int.toNat_natCast] at ai; omega
 have hwi := hfw.v
 have hwl := gi hfw.pre
 refine Zd (fun a b => Dc 188 144 w0.heap.size k bz ba bm a b) fun aq A => ?_
 replace hz := A.at hz
 replace hX := Dx.trans hX (Dx.ext A)
 replace hB := Ze hB A
 replace g := A.at g
 replace e := A.at e
 replace i := A.at i
 replace hD := fI.ext A hD
 replace d := A.at d
 have hwk0 : Wc 144 k bz aq := ⟨_, d⟩
 have hS : Dc 188 144 w0.heap.size k bz ba bm aq aq := Dc.refl
 refine Tk 0 rfl (fun _ hq => dk (v := .pointer (some ⟨k, 0, none⟩)) rfl i7 (At.cell (At.dc hD d hq e Dd Dd Dd) rfl)) hS <| Tk 1 rfl (fun _ hq => dk (v := .pointer (some ⟨k, 0, none⟩)) rfl i7 (At.cell (At.dc hD d hq e Dd Dd Dd) rfl)) hS <| Tc 2 rfl rfl hS <| Tf 3 rfl rfl jB hS <| Tk 4 rfl (fun _ hq => dk (v := .pointer (some ⟨bz, 0, none⟩)) rfl ix (Wc.c0 (Dc.wk hq hwk0))) hS <| Ti 5 rfl rfl hS <| Tk 6 rfl (fun _ hq => dk (v := .pointer (some ⟨k, 0, none⟩)) rfl i7 (At.cell (At.dc hD d hq e Dd Dd Dd) rfl)) hS <| Tk 7 rfl (fun _ hq => dk (v := .pointer (some ⟨k, 0, none⟩)) rfl i7 (At.cell (At.dc hD d hq e Dd Dd Dd) rfl)) hS <| Tc 8 rfl rfl hS <| Tf 9 rfl rfl jB hS <| Tk 10 rfl (fun _ hq => dk (v := .pointer (some ⟨bz, 0, none⟩)) rfl ix (Wc.c0 (Dc.wk hq hwk0))) hS <| Ti 11 rfl rfl hS <| Tk 12 rfl (fun _ _ => jU (m := _) rfl rfl Om (by simp only [IntKind.bits]; omega) (by show o * 65536 < _; simp only [d8]; omega)) hS <| To 13 rfl (ff (u := .int .i64 _) rfl dw fC rfl Dd Dd fun bd b6 ar x bf => ⟨.inl (Dc.trans hS (Dc.ext x)), ?_⟩)
 have bg := ZO ar hB
 have b7 : w.heap.size ≤ bd := ar ▸ hX.size
 clear ar
 replace hz := x.at hz
 replace hX := Dx.trans hX (Dx.ext x)
 replace hB := Ze hB x
 replace g := x.at g
 replace e := x.at e
 replace i := x.at i
 replace hD := fI.ext x hD
 replace d := x.at d
 replace hS := Dc.trans hS (Dc.ext x)
 have p := iL (enc := ef) (a := ((o * 65536 : Nat) : Int)) bf rfl rfl bg
 refine To 14 rfl (TG Gd (pk w0.heap.size ba bm bz R nsi _ [((o * 65536 : Nat) : Int)] _ (Below.size hB) hz hD p.sl (show 1 ≤ 1000000 by decide)) rfl fun b8 b9 au => ⟨.inl (Dc.trans hS (Dc.zdd hD (PE.dx au) (by decide) (by decide))), ?_⟩)
 replace hS := Dc.trans hS (Dc.zdd hD (PE.dx au) Dd Dd)
 obtain ⟨bh, bi, ad, rfl, B, bj, bk⟩ := au
 replace hz := At.dx hD B hz Dd Dd
 replace hX := Dx.trans hX (B)
 replace hB := Below.dx hB (Nat.le_refl _) (Nat.le_refl _) B
 replace g := At.dx hD B g Dd Dd
 replace e := At.dx hD B e Dd Dd
 replace i := At.dx hD B i Dd Dd
 replace d := At.dx hD B d Dd Dd
 replace p := dh.dx hD B p Dd Dd
 replace hD := bj
 have hgA := Np bk (PB hol)
 have hvA := hgA.valid
 have hlA := gi hgA.pre
 refine Tk 15 rfl (fun _ _ => dG rfl) hS <| Tk 16 rfl (fun _ _ => dJ rfl) hS <| To 17 rfl (TG nq (eY w0.heap.size k bz _ _ _ _ (Below.size hB) d l) rfl fun ca cb Z => ⟨.inl (Dc.trans hS (Dc.did Z.1 l Z.2.1)), ?_⟩)
 replace hS := Dc.trans hS (Dc.did Z.1 l Z.2.1)
 obtain ⟨C, bl, rfl⟩ := Z
 replace hz := At.grownAt hz d C Dd
 replace hX := Dx.new1 hX N (Dx.grown C (List.mem_cons_self ..) l)
 replace hB := Zg hB C l
 replace g := At.grownAt g d C Dd
 replace e := At.grownAt e d C Dd
 replace i := At.grownAt i d C Dd
 replace hD := fI.grownAt hD d C Dd Dd
 replace p := dh.grownAt p d C Dd
 replace d := bl
 refine To 18 rfl (TG EF (nm w0.heap.size ba bm bz R bh f (jP ei ad bi) _ (Below.size hB) hz hD Om (oF hvA)) rfl fun cc cd av => ⟨.inl (Dc.trans hS (Dc.zdd hD (PO.dx av) (by decide) (by decide))), ?_⟩)
 replace hS := Dc.trans hS (Dc.zdd hD (PO.dx av) Dd Dd)
 obtain ⟨bn, bo, aw, rfl, D, bp, ax⟩ := av
 replace hz := At.dx hD D hz Dd Dd
 replace hX := Dx.trans hX (D)
 replace hB := Below.dx hB (Nat.le_refl _) (Nat.le_refl _) D
 replace g := At.dx hD D g Dd Dd
 replace e := At.dx hD D e Dd Dd
 replace i := At.dx hD D i Dd Dd
 replace d := At.dx hD D d Dd Dd
 replace p := dh.dx hD D p Dd Dd
 replace hD := bp
 have hvJ := ax.valid
 have hlJ := gi ax.pre
 refine Tk 19 rfl (fun _ _ => dG rfl) hS <| Tk 20 rfl (fun _ _ => dJ rfl) hS <| To 21 rfl (TG nq (eY w0.heap.size k bz _ _ _ _ (Below.size hB) d l) rfl fun ce cf aa => ⟨.inl (Dc.trans hS (Dc.did aa.1 l aa.2.1)), ?_⟩)
 replace hS := Dc.trans hS (Dc.did aa.1 l aa.2.1)
 obtain ⟨E, bq, rfl⟩ := aa
 replace hz := At.grownAt hz d E Dd
 replace hX := Dx.new1 hX N (Dx.grown E (List.mem_cons_self ..) l)
 replace hB := Zg hB E l
 replace g := At.grownAt g d E Dd
 replace e := At.grownAt e d E Dd
 replace i := At.grownAt i d E Dd
 replace hD := fI.grownAt hD d E Dd Dd
 replace p := dh.grownAt p d E Dd
 replace d := bq
 refine Ti 22 rfl rfl hS <| Td ?_
 refine gD (fun a b => Dc 188 144 w0.heap.size k bz ba bm a b) iC (fun ay y => ?_)
 replace hz := y.at hz
 replace hX := Dx.trans hX (Dx.ext y)
 replace hB := Ze hB y
 replace g := y.at g
 replace e := y.at e
 replace i := y.at i
 replace hD := fI.ext y hD
 replace d := y.at d
 replace p := y.ow p
 have hwk0 : Wc 144 k bz ay := ⟨_, d⟩
 have hS : Dc 188 144 w0.heap.size k bz ba bm ay ay := Dc.refl
 refine Tk 0 rfl (fun _ hq => dk (v := .pointer (some ⟨k, 0, none⟩)) rfl i7 (At.cell (At.dc hD d hq e Dd Dd Dd) rfl)) hS <| Tk 1 rfl (fun _ hq => dk (v := .pointer (some ⟨k, 0, none⟩)) rfl i7 (At.cell (At.dc hD d hq e Dd Dd Dd) rfl)) hS <| Tc 2 rfl rfl hS <| Tf 3 rfl rfl jB hS <| Tk 4 rfl (fun _ hq => dk (v := .pointer (some ⟨bz, 0, none⟩)) rfl ix (Wc.c0 (Dc.wk hq hwk0))) hS <| Ti 5 rfl rfl hS <| Ti 6 rfl rfl hS <| To 7 rfl (TG zw (j9 w0.heap.size ba bm bz R bn out (jP (iD ei ad) aw bo) _ (Below.size hB) hz hD Om (oF hvJ)) rfl fun cg ch az => ⟨.inl (Dc.trans hS (Dc.zdd hD (PO.dx az) (by decide) (by decide))), ?_⟩)
 replace hS := Dc.trans hS (Dc.zdd hD (PO.dx az) Dd Dd)
 obtain ⟨br, bs, aH, rfl, F, bt, bu⟩ := az
 replace hz := At.dx hD F hz Dd Dd
 replace hX := Dx.trans hX (F)
 replace hB := Below.dx hB (Nat.le_refl _) (Nat.le_refl _) F
 replace g := At.dx hD F g Dd Dd
 replace e := At.dx hD F e Dd Dd
 replace i := At.dx hD F i Dd Dd
 replace d := At.dx hD F d Dd Dd
 replace p := dh.dx hD F p Dd Dd
 replace hD := bt
 refine Tk 8 rfl (fun _ _ => dG rfl) hS <| Tk 9 rfl (fun _ _ => dJ rfl) hS <| To 10 rfl (TG nq (eY w0.heap.size k bz _ _ _ _ (Below.size hB) d l) rfl fun ci cj ab => ⟨.inl (Dc.trans hS (Dc.did ab.1 l ab.2.1)), ?_⟩)
 replace hS := Dc.trans hS (Dc.did ab.1 l ab.2.1)
 obtain ⟨G, bv, rfl⟩ := ab
 replace hz := At.grownAt hz d G Dd
 replace hX := Dx.new1 hX N (Dx.grown G (List.mem_cons_self ..) l)
 replace hB := Zg hB G l
 replace g := At.grownAt g d G Dd
 replace e := At.grownAt e d G Dd
 replace i := At.grownAt i d G Dd
 replace hD := fI.grownAt hD d G Dd Dd
 replace p := dh.grownAt p d G Dd
 replace d := bv
 refine Ti 11 rfl rfl hS <| Td <| aU _ _ <| cZ <| Zi rfl <| Zv (dm rfl rfl Om Om) <| Zi rfl <| cT ?_
 exact aS _ _ ((o + 1, jP (iD (iD ei ad) aw) aH bs, br, iD (iD (iD ei ad) aw) aH)) Za ⟨rfl, rfl, trivial⟩ ⟨hz, hX, hB, g, e, i, hD, (by exact d), Om, (Mt hr hD.wf (M1 o) halw hoo.1 hol hom hfw hgA ax bu), trivial⟩ (by show 2 ^ S.may.length - (o + 1) < 2 ^ S.may.length - o; omega)
 refine dr <| aR _ _ <| cY fun ck bw => ?_
 obtain rfl : o = 2 ^ S.may.length := by simp only [Nat.one_mul, Int.toNat_natCast] at X; omega
 refine Zr <| ZL (.pointer (some ⟨k, 0, none⟩)) rfl i7 e rfl <| Zc rfl <| Zf rfl kb <| Zl rfl fX d rfl <| Zv (f4 rfl rfl) <| cT <| ZQ rfl (fun aA => ?_) fun aA => ?_
 refine Zd ep fun bx H => ?_
 replace hz := H.at hz
 replace hX := Dx.trans hX (Dx.ext H)
 replace hB := Ze hB H
 replace g := H.at g
 replace e := H.at e
 replace i := H.at i
 replace hD := fI.ext H hD
 replace d := H.at d
 have hS := ep.refl bx
 refine Tk 0 rfl (fun _ hq => dk (v := .pointer (some ⟨k, 0, none⟩)) rfl i7 (At.cell (hq.at e) rfl)) hS <| Tc 1 rfl rfl hS <| Tf 2 rfl rfl kb hS <| Tk 3 rfl (fun _ hq => dk (v := .int .i64 _) rfl fX (At.cell (hq.at d) rfl)) hS <| Tw 4 (.int .i64 0) rfl rfl hS <| Ti 5 rfl rfl hS <| Td <| Zt <| d6 (v := .int .i64 0) rfl (v1 := .int .i64 _) rfl ?_
 exact ⟨_, _, _, rfl, hX, hD, LS halw aA⟩
 refine c7 <| bw _ _ <| Zr <| Zi rfl <| Zi rfl <| Zw (.int .i64 0) rfl <| cT <| Zt <| d6 (v := .int .i64 _) rfl (v1 := .int .i64 0) rfl ?_
 exact ⟨_, _, _, rfl, hX, hD, QT halw (Decidable.of_not_not aA)⟩
end
section
open Go Go.RowKit
theorem F0 {x y : Rw} (h : ¬ ¬ ((x.c.m : Int) = (y.c.m : Int) ∧ (x.c.v : Int) = (y.c.v : Int) ∧ (x.o : Int) = (y.o : Int))) : x = y := by
 obtain ⟨h1, h2, h3⟩ := Decidable.not_not.1 h
 obtain ⟨⟨m, v⟩, o⟩ := x
 obtain ⟨⟨m', v'⟩, o'⟩ := y
 simp only at h1 h2 h3
 rw [Int.ofNat_inj.1 h1, Int.ofNat_inj.1 h2, Int.ofNat_inj.1 h3]
theorem HE {S : Sp} (hr : dO S = true) : gF (eK S) := fun x hx => by
 have h := (fH.1 ((oa hr).1 hx)).1
 have h1 := lT (gz h)
 have h2 := fl (d9.1 hr).2.1
 have h3 := (oH h).2
 omega
theorem oS {S : Sp} (hr : dO S = true) {i : Nat} (hi : i < (eK S).length) : oR S ((eK S).getD i ⟨⟨0, 0⟩, 0⟩) = true := (oa hr).1 (dV hi)
def nJ (S : Sp) : Bool := decide (20 < S.on.length) || decide (20 < S.may.length)
theorem F7 {S : Sp} (h : (20 : Int) < (S.on.length : Int)) : true = nJ S := by
 unfold nJ; rw [decide_eq_true (show 20 < S.on.length by omega), Bool.true_or]
theorem F1 {S : Sp} (h : ¬ (20 : Int) < (S.on.length : Int)) : decide ((20 : Int) < (S.may.length : Int)) = nJ S := by
 unfold nJ; rw [decide_eq_false (show ¬ 20 < S.on.length by omega), Bool.false_or, Bool.eq_iff_iff, decide_eq_true_eq, decide_eq_true_eq]; omega
def B9 (l : List Rw) (x : Rw) : Nat → Bool
 | 0 => false
 | k + 1 => B9 l x k || rM (l.getD k ⟨⟨0, 0⟩, 0⟩) x
theorem qZ {l : List Rw} {x : Rw} : ∀ k, B9 l x k = true ↔ ∃ j, j < k ∧ rM (l.getD j ⟨⟨0, 0⟩, 0⟩) x = true
 | 0 => by simp [B9]
 | k + 1 => by
  rw [B9, Bool.or_eq_true, qZ k]
  constructor
  ·rintro (⟨j, hj, h⟩ | h)
   ·exact ⟨j, by omega, h⟩
   ·exact ⟨k, by omega, h⟩
  ·rintro ⟨j, hj, h⟩
   rcases Nat.lt_succ_iff_lt_or_eq.1 hj with hj | rfl
   ·exact .inl ⟨j, hj, h⟩
   ·exact .inr h
theorem FK {S : Sp} {x : Rw} (h : qb S x = true) : B9 (eK S) x (eK S).length = true := by
 obtain ⟨h1, h2⟩ := na h
 obtain ⟨j, hj, he⟩ := fq (d := ⟨⟨0, 0⟩, 0⟩) ((oa (gE.1 h).1).2 h1)
 exact (qZ _).2 ⟨j, hj, by rw [he]; exact h2⟩
theorem F4 {S : Sp} (hr : dO S = true) : gW S (eK S) = true := by
 obtain ⟨h0, h8, h1, h4, h5, hin⟩ := d9.1 hr
 have hp := fl h8
 refine gr.2 ⟨hr, kP.2 fun k hk => ?_, fun o ho => ?_⟩
 ·have hi := (fH.1 (oS hr hk)).1
  exact jo.2 ⟨gz hi, (gE.1 hi).2.1, h5 ▸ (oH hi).1⟩
 ·obtain ⟨w1, w2⟩ := hin o ho
  refine IB (ea.2 fun p hp2 h => ?_) (ea.2 fun p hp2 h => ?_)
  ·have hm := ea.1 w1 p hp2 h
   have hpn : p < 2 ^ S.n.toNat := by
    have := ea.1 w2 p hp2 hm
    rw [fR] at this
    simpa using this
   have hpow := Nat.two_pow_pos S.n.toNat
   have hx : qb S ⟨⟨2 ^ S.n.toNat - 1, p⟩, 2 ^ o⟩ = true := by
    have hand : p &&& (2 ^ S.n.toNat - 1) = p := by rw [Nat.and_two_pow_sub_one_eq_mod, Nat.mod_eq_of_lt hpn]
    refine gE.2 ⟨hr, Nat.two_pow_pos o, fun j hj => ?_⟩
    have hj' : (2 ^ o).testBit j = true := hj
    rw [Nat.testBit_two_pow, decide_eq_true_eq] at hj'
    subst hj'
    refine ⟨by omega, ?_⟩
    have := (gm (s := jq S o) (n := S.n) (c := ⟨2 ^ S.n.toNat - 1, p⟩)).2 ⟨d4.2 ⟨h0, h8, by show 2 ^ S.n.toNat - 1 < 2 ^ S.n.toNat; omega, hand⟩, fun q hq hqp => by
     have hqp' : q &&& (2 ^ S.n.toNat - 1) = p := hqp
     rw [Nat.and_two_pow_sub_one_eq_mod, Nat.mod_eq_of_lt hq] at hqp'
     subst hqp'; exact hm⟩
    exact this
   obtain ⟨j, hj, hh⟩ := (qZ _).1 (FK hx)
   obtain ⟨g1, g2⟩ := oY.1 hh
   have hi := (fH.1 (oS hr hj)).1
   refine (kC (by omega) p _ (Nat.le_refl _)).2 ⟨hpn, j, hj, g2 o (by show (2 ^ o).testBit o = true; rw [Nat.testBit_two_pow]; simp), ?_⟩
   refine lH (p := p) (d4.1 (gz hi)).2.2.2 g1 ?_
   show p &&& (2 ^ S.n.toNat - 1) = p
   rw [Nat.and_two_pow_sub_one_eq_mod, Nat.mod_eq_of_lt hpn]
  ·obtain ⟨hpn, j, hj, hb, hh⟩ := (kC (by omega) p _ (Nat.le_refl _)).1 h
   have hi := (fH.1 (oS hr hj)).1
   have hw := ((gE.1 hi).2.2 o hb).2
   exact (gm.1 hw).2 p hpn hh
end
section
open Go Go.RowKit
def ky (x : Rw) (k : Nat) : Rw := ⟨x.c, x.o - 2 ^ k⟩
def pK (l : List Rw) (i k : Nat) : List Rw := l.set i (ky (l.getD i ⟨⟨0, 0⟩, 0⟩) k)
def pb (x : Rw) : List Rw := if 0 < x.o then [x] else []
def lP (l : List Rw) : List Rw := l.filter fun x => decide (0 < x.o)
def rq (l : List Rw) (k : Nat) : List Rw := lP (l.take k)
def lN (l : List Rw) (i k : Nat) : List Rw :=
 if andNot (l.getD i ⟨⟨0, 0⟩, 0⟩).o (2 ^ k) = 0 then l.take i ++ l.drop (i + 1) else l.set i ⟨(l.getD i ⟨⟨0, 0⟩, 0⟩).c, andNot (l.getD i ⟨⟨0, 0⟩, 0⟩).o (2 ^ k)⟩
def oA (l : List Rw) : Prop := ∀ x, x ∈ l → 0 < x.o
theorem qS (a b : List Rw) : lP (a ++ b) = lP a ++ lP b := List.filter_append ..
theorem t6 (x : Rw) : lP [x] = pb x := by
 unfold lP pb
 by_cases h : 0 < x.o
 ·rw [if_pos h, List.filter_cons_of_pos (by simpa using h)]; rfl
 ·rw [if_neg h, List.filter_cons_of_neg (by simpa using h)]; rfl
theorem Ee (x : Rw) (b : List Rw) : lP (x :: b) = pb x ++ lP b := by rw [← t6, ← qS]; rfl
theorem yC {l : List Rw} (h : oA l) : lP l = l := List.filter_eq_self.2 fun x hx => decide_eq_true (h x hx)
theorem oA.app {a b : List Rw} (ha : oA a) (hb : oA b) : oA (a ++ b) := fun x hx => (List.mem_append.1 hx).elim (ha x) (hb x)
theorem oA.kp (x : Rw) : oA (pb x) := fun y hy => by
 unfold pb at hy
 split at hy
 ·simp at hy; subst hy; assumption
 ·cases hy
theorem oA.drop {l : List Rw} (h : oA l) (k : Nat) : oA (l.drop k) := fun x hx => h x (List.mem_of_mem_drop hx)
theorem uY (x : Rw) : (pb x).length = if 0 < x.o then 1 else 0 := by unfold pb; split <;> rfl
theorem qM {x : Rw} (h : 0 < x.o) : pb x = [x] := if_pos h
theorem I3 {x : Rw} (h : x.o = 0) : pb x = [] := if_neg (by omega)
theorem sq {S : Sp} {l : List Rw} (h : gW S l = true) : oA l := fun x hx => by
 obtain ⟨k, hk, rfl⟩ := fq (d := ⟨⟨0, 0⟩, 0⟩) hx
 exact (jo.1 (kP.1 (gr.1 h).2.1 k hk)).2.1
theorem CI {o k : Nat} (h : o.testBit k = true) : andNot o (2 ^ k) = o - 2 ^ k := by
 have hlow : (andNot o (2 ^ k)).testBit k = false := by rw [eh]; simp
 have hs := Lc hlow
 have e : andNot o (2 ^ k) ||| 2 ^ k = o := Nat.eq_of_testBit_eq fun j => by
  rw [Nat.testBit_or, eh, Nat.testBit_two_pow]
  by_cases hj : k = j
  ·subst hj; simp [h]
  ·simp [hj]
 rw [e] at hs
 omega
theorem jH {o k : Nat} (h : o.testBit k = true) (j : Nat) : (o - 2 ^ k).testBit j = (o.testBit j && !decide (k = j)) := by
 rw [← CI h, eh, Nat.testBit_two_pow]
theorem Fs (o k : Nat) : o - 2 ^ k ≤ o := Nat.sub_le _ _
theorem OD {o k : Nat} (h : o.testBit k = true) : 2 ^ k ≤ o := Nat.ge_two_pow_of_testBit h
theorem vE {A B : List Rw} {x d : Rw} {i : Nat} (hi : i = A.length) : (A ++ x :: B).getD i d = x := by
 subst hi
 rw [List.getD_eq_getElem?_getD, List.getElem?_append_right (Nat.le_refl _), Nat.sub_self]
 rfl
theorem E1 {A B : List Rw} {x y : Rw} {i : Nat} (hi : i = A.length) : (A ++ x :: B).set i y = A ++ y :: B := by
 subst hi
 rw [List.set_append, if_neg (by omega), Nat.sub_self]
 rfl
theorem JP {A B : List Rw} {x : Rw} {i : Nat} (hi : i = A.length) : (A ++ x :: B).take i = A := by subst hi; exact List.take_left
theorem Kq {A B : List Rw} {x : Rw} {i : Nat} (hi : i = A.length) : (A ++ x :: B).drop (i + 1) = B := by
 subst hi
 rw [List.drop_append, List.drop_eq_nil_of_le (by omega), show A.length + 1 - A.length = 1 by omega]
 rfl
theorem HF {A B : List Rw} {x : Rw} {i k : Nat} (hi : i = A.length) (hb : x.o.testBit k = true) : lN (A ++ x :: B) i k = A ++ pb (ky x k) ++ B := by
 unfold lN
 rw [vE hi, CI hb, JP hi, Kq hi, E1 hi]
 by_cases h : x.o - 2 ^ k = 0
 ·rw [if_pos h, I3 h, List.append_nil]
 ·rw [if_neg h, qM (show 0 < (ky x k).o from Nat.pos_of_ne_zero h)]
  simp [ky]
theorem Cw {l : List Rw} {i : Nat} (hi : i < l.length) : l = l.take i ++ l.getD i ⟨⟨0, 0⟩, 0⟩ :: l.drop (i + 1) := by
 rw [List.getD_eq_getElem?_getD, List.getElem?_eq_getElem hi]
 simp
theorem Li {l : List Rw} {i : Nat} (hi : i < l.length) : l.drop i = l.getD i ⟨⟨0, 0⟩, 0⟩ :: l.drop (i + 1) := by
 rw [List.getD_eq_getElem?_getD, List.getElem?_eq_getElem hi]
 simp
theorem AX {l : List Rw} {i : Nat} {x d : Rw} (hi : i < l.length) : (l.set i x).getD i d = x := by
 rw [List.getD_eq_getElem?_getD, List.getElem?_set_self hi]; rfl
theorem KU {l : List Rw} {i k : Nat} (hi : i < l.length) (h : (((l.set i ⟨(l.getD i ⟨⟨0, 0⟩, 0⟩).c, andNot (l.getD i ⟨⟨0, 0⟩, 0⟩).o (1 * 2 ^ k)⟩).getD i ⟨⟨0, 0⟩, 0⟩).o : Int) = 0) :
  (l.set i ⟨(l.getD i ⟨⟨0, 0⟩, 0⟩).c, andNot (l.getD i ⟨⟨0, 0⟩, 0⟩).o (1 * 2 ^ k)⟩).take i ++ (l.set i ⟨(l.getD i ⟨⟨0, 0⟩, 0⟩).c, andNot (l.getD i ⟨⟨0, 0⟩, 0⟩).o (1 * 2 ^ k)⟩).drop (i + 1) = lN l i k := by
 rw [AX hi, Nat.one_mul] at h
 unfold lN
 rw [if_pos (show andNot (l.getD i ⟨⟨0, 0⟩, 0⟩).o (2 ^ k) = 0 from Int.ofNat_inj.1 h), List.take_set_of_le (Nat.le_refl _), List.drop_set_of_lt (Nat.lt_succ_self _)]
theorem Hp {l : List Rw} {i k : Nat} (hi : i < l.length) (h : ¬ (((l.set i ⟨(l.getD i ⟨⟨0, 0⟩, 0⟩).c, andNot (l.getD i ⟨⟨0, 0⟩, 0⟩).o (1 * 2 ^ k)⟩).getD i ⟨⟨0, 0⟩, 0⟩).o : Int) = 0) :
  l.set i ⟨(l.getD i ⟨⟨0, 0⟩, 0⟩).c, andNot (l.getD i ⟨⟨0, 0⟩, 0⟩).o (1 * 2 ^ k)⟩ = lN l i k := by
 rw [AX hi, Nat.one_mul] at h
 unfold lN
 rw [if_neg (show ¬ andNot (l.getD i ⟨⟨0, 0⟩, 0⟩).o (2 ^ k) = 0 from fun e => h (congrArg Int.ofNat e)), Nat.one_mul]
theorem FH {l : List Rw} {k : Nat} (hk : k < l.length) (h0 : (0 : Int) < ((l.getD k ⟨⟨0, 0⟩, 0⟩).o : Int)) : rq l k ++ [l.getD k ⟨⟨0, 0⟩, 0⟩] = rq l (k + 1) := by
 have h : 0 < (l.getD k ⟨⟨0, 0⟩, 0⟩).o := by omega
 clear h0
 unfold rq
 rw [List.take_add_one, qS, List.getD_eq_getElem?_getD] at *
 rw [List.getElem?_eq_getElem hk] at *
 simp only [Option.getD_some] at *
 rw [Option.toList_some, t6, qM h]
theorem FQ {l : List Rw} {k : Nat} (hk : k < l.length) (h0 : ¬ (0 : Int) < ((l.getD k ⟨⟨0, 0⟩, 0⟩).o : Int)) : rq l k = rq l (k + 1) := by
 have h : ¬ 0 < (l.getD k ⟨⟨0, 0⟩, 0⟩).o := by omega
 clear h0
 unfold rq
 rw [List.take_add_one, qS, List.getD_eq_getElem?_getD] at *
 rw [List.getElem?_eq_getElem hk] at *
 simp only [Option.getD_some] at *
 rw [Option.toList_some, t6, pb, if_neg h, List.append_nil]
theorem HB (j : Nat) : 2 ^ j % 256 * 2 % 256 = 2 ^ (j + 1) % 256 := by rw [Nat.pow_succ]; omega
theorem Gn (l : List Rw) : rq l l.length = lP l := by unfold rq; rw [List.take_length]
theorem Hk (l : List Rw) (k : Nat) : (rq l k).length ≤ k := Nat.le_trans (List.length_filter_le ..) (by rw [List.length_take]; omega)
theorem Gq (l : List Rw) : (lP l).length ≤ l.length := List.length_filter_le ..
theorem Gm (l : List Rw) (i k : Nat) : (lN l i k).length ≤ l.length := by
 unfold lN
 split
 ·rw [List.length_append, List.length_take, List.length_drop]; omega
 ·rw [List.length_set]; exact Nat.le_refl _
theorem GN (l : List Rw) (i k : Nat) : (pK l i k).length = l.length := List.length_set
def GR (S : Sp) (A B : List Rw) (c : Cb) (o : Nat) : Nat → Nat
 | 0 => o
 | k + 1 => if (GR S A B c o k).testBit k = true ∧ gW S (A ++ pb ⟨c, GR S A B c o k - 2 ^ k⟩ ++ B) = true then GR S A B c o k - 2 ^ k else GR S A B c o k
def lI (S : Sp) (l : List Rw) : Nat → List Rw
 | 0 => []
 | j + 1 => lI S l j ++ pb ⟨(l.getD j ⟨⟨0, 0⟩, 0⟩).c, GR S (lI S l j) (l.drop (j + 1)) (l.getD j ⟨⟨0, 0⟩, 0⟩).c (l.getD j ⟨⟨0, 0⟩, 0⟩).o S.on.length⟩
def q9 (S : Sp) (l : List Rw) (j k : Nat) : Nat := GR S (lI S l j) (l.drop (j + 1)) (l.getD j ⟨⟨0, 0⟩, 0⟩).c (l.getD j ⟨⟨0, 0⟩, 0⟩).o k
def ro (S : Sp) (l : List Rw) (j k : Nat) : Rw := ⟨(l.getD j ⟨⟨0, 0⟩, 0⟩).c, q9 S l j k⟩
def uA (S : Sp) (l : List Rw) (j k : Nat) : List Rw := lI S l j ++ pb (ro S l j k) ++ l.drop (j + 1)
def ju (S : Sp) (l : List Rw) : List Rw := lI S l l.length
theorem jQ (S : Sp) (l : List Rw) (j : Nat) : lI S l (j + 1) = lI S l j ++ pb (ro S l j S.on.length) := rfl
theorem pZ (S : Sp) (l : List Rw) (j k : Nat) : q9 S l j (k + 1) = if (q9 S l j k).testBit k = true ∧ gW S (lI S l j ++ pb (ky (ro S l j k) k) ++ l.drop (j + 1)) = true then q9 S l j k - 2 ^ k else q9 S l j k := rfl
theorem ND {S : Sp} {l : List Rw} {j k : Nat} (h1 : (q9 S l j k).testBit k = true) (h2 : gW S (lI S l j ++ pb (ky (ro S l j k) k) ++ l.drop (j + 1)) = true) : q9 S l j (k + 1) = q9 S l j k - 2 ^ k := by rw [pZ, if_pos ⟨h1, h2⟩]
theorem RP {S : Sp} {l : List Rw} {j k : Nat} (h : ¬ ((q9 S l j k).testBit k = true ∧ gW S (lI S l j ++ pb (ky (ro S l j k) k) ++ l.drop (j + 1)) = true)) : q9 S l j (k + 1) = q9 S l j k := by rw [pZ, if_neg h]
theorem HH (S : Sp) (l : List Rw) (j : Nat) : ∀ k, q9 S l j k ≤ (l.getD j ⟨⟨0, 0⟩, 0⟩).o
 | 0 => Nat.le_refl _
 | k + 1 => by
  rw [pZ]
  have := HH S l j k
  split
  ·have := Fs (q9 S l j k) k; omega
  ·exact this
theorem tr (S : Sp) (l : List Rw) (j : Nat) : ∀ k q, (q9 S l j k).testBit q = true → (l.getD j ⟨⟨0, 0⟩, 0⟩).o.testBit q = true
 | 0, q, h => h
 | k + 1, q, h => by
  rw [pZ] at h
  split at h
  ·rename_i hc
   rw [jH hc.1, Bool.and_eq_true] at h
   exact tr S l j k q h.1
  ·exact tr S l j k q h
theorem ql (S : Sp) (l : List Rw) (j : Nat) (k : Nat) : ∀ e q, (q9 S l j (k + e)).testBit q = true → (q9 S l j k).testBit q = true
 | 0, q, h => h
 | e + 1, q, h => by
  rw [← Nat.add_assoc, pZ] at h
  split at h
  ·rename_i hc
   rw [jH hc.1, Bool.and_eq_true] at h
   exact ql S l j k e q h.1
  ·exact ql S l j k e q h
theorem gF.nil : gF [] := fun x hx => by cases hx
theorem gF.any {l : List Rw} (h : gF l) (k : Nat) : (l.getD k ⟨⟨0, 0⟩, 0⟩).o < 256 := by
 by_cases hk : k < l.length
 ·exact (h.get hk).2.2
 ·rw [List.getD_eq_getElem?_getD, List.getElem?_eq_none (by omega)]; decide
theorem gF.app {a b : List Rw} (ha : gF a) (hb : gF b) : gF (a ++ b) := fun x hx => (List.mem_append.1 hx).elim (ha x) (hb x)
theorem gF.drop {l : List Rw} (h : gF l) (k : Nat) : gF (l.drop k) := fun x hx => h x (List.mem_of_mem_drop hx)
theorem gF.take {l : List Rw} (h : gF l) (k : Nat) : gF (l.take k) := fun x hx => h x (List.mem_of_mem_take hx)
theorem gF.kp {x : Rw} (h : x.c.m < 256 ∧ x.c.v < 256 ∧ x.o < 256) : gF (pb x) := fun y hy => by
 unfold pb at hy
 split at hy
 ·simp at hy; subst hy; exact h
 ·cases hy
theorem gF.some {l : List Rw} (h : gF l) : gF (lP l) := fun x hx => h x (List.mem_filter.1 hx).1
theorem gF.set {l : List Rw} (h : gF l) {i : Nat} {x : Rw} (hx : x.c.m < 256 ∧ x.c.v < 256 ∧ x.o < 256) : gF (l.set i x) := fun y hy => (List.mem_or_eq_of_mem_set hy).elim (h y) (fun e => e ▸ hx)
theorem NE {S : Sp} {l : List Rw} (h : gF l) {j : Nat} (hj : j < l.length) (k : Nat) : (ro S l j k).c.m < 256 ∧ (ro S l j k).c.v < 256 ∧ (ro S l j k).o < 256 := by
 obtain ⟨h1, h2, h3⟩ := h.get hj
 have := HH S l j k
 exact ⟨h1, h2, show q9 S l j k < 256 by omega⟩
theorem Jv {S : Sp} {l : List Rw} (h : gF l) : ∀ j, j ≤ l.length → gF (lI S l j)
 | 0, _ => gF.nil
 | j + 1, hj => by rw [jQ]; exact (Jv h j (by omega)).app (gF.kp (NE h (by omega) _))
theorem QO {S : Sp} {l : List Rw} (h : gF l) {j : Nat} (hj : j < l.length) (k : Nat) : gF (uA S l j k) := ((Jv h j (by omega)).app (gF.kp (NE h hj k))).app (h.drop _)
theorem vC (S : Sp) (l : List Rw) : ∀ j, oA (lI S l j)
 | 0 => fun x hx => by cases hx
 | j + 1 => by rw [jQ]; exact (vC S l j).app (oA.kp _)
theorem yW (S : Sp) (l : List Rw) : ∀ j, (lI S l j).length ≤ j
 | 0 => Nat.le_refl _
 | j + 1 => by
  have := yW S l j
  rw [jQ, List.length_append, uY]
  split <;> omega
theorem CH {S : Sp} {l : List Rw} {j : Nat} (hp : oA l) (hj : j < l.length) : lI S l j ++ l.drop j = uA S l j 0 := by
 unfold uA
 rw [Li hj, qM (x := ro S l j 0) (hp _ (dV hj)), List.append_assoc]
 rfl
theorem Ao (S : Sp) (l : List Rw) (j : Nat) : uA S l j S.on.length = lI S l (j + 1) ++ l.drop (j + 1) := by rw [jQ]; rfl
theorem IF {S : Sp} {l : List Rw} {j k : Nat} (h : 0 < q9 S l j k) : uA S l j k = lI S l j ++ ro S l j k :: l.drop (j + 1) := by
 unfold uA
 rw [qM (x := ro S l j k) h, List.append_assoc]
 rfl
theorem Mn {S : Sp} {l : List Rw} {j k : Nat} (h : 0 < q9 S l j k) : (uA S l j k).getD (lI S l j).length ⟨⟨0, 0⟩, 0⟩ = ro S l j k := by
 rw [IF h]; exact vE rfl
theorem BL {S : Sp} {l : List Rw} {j k : Nat} (hb : (q9 S l j k).testBit k = true) : lN (uA S l j k) (lI S l j).length k = lI S l j ++ pb (ky (ro S l j k) k) ++ l.drop (j + 1) := by
 rw [IF (uV hb)]
 exact HF rfl hb
theorem Cr {S : Sp} {l : List Rw} {j k : Nat} (hb : (q9 S l j k).testBit k = true) (hc : gW S (lN (uA S l j k) (lI S l j).length k) = true) : lN (uA S l j k) (lI S l j).length k = uA S l j (k + 1) := by
 rw [BL hb] at hc ⊢
 unfold uA ro
 rw [ND hb hc]
 rfl
theorem nk {S : Sp} {l : List Rw} {j k : Nat} (h : (q9 S l j k).testBit k = false ∨ gW S (lN (uA S l j k) (lI S l j).length k) = false) : uA S l j k = uA S l j (k + 1) := by
 have : q9 S l j (k + 1) = q9 S l j k := RP fun ⟨h1, h2⟩ => by
  rcases h with h | h
  ·rw [h1] at h; cases h
  ·rw [BL h1, h2] at h; cases h
 unfold uA ro
 rw [this]
theorem L8 {x : Rw} (h : x.c.m < 256 ∧ x.c.v < 256 ∧ x.o < 256) (k : Nat) : (ky x k).c.m < 256 ∧ (ky x k).c.v < 256 ∧ (ky x k).o < 256 := ⟨h.1, h.2.1, by have := Fs x.o k; show x.o - 2 ^ k < 256; omega⟩
def K0 (S : Sp) (l : List Rw) (i k : Nat) : Bool := (l.getD i ⟨⟨0, 0⟩, 0⟩).o.testBit k && gW S (lP (pK l i k))
def oJ (S : Sp) (l : List Rw) : Bool := gW S l && (List.range l.length).all fun i => (List.range S.on.length).all fun k => !K0 S l i k
theorem nc {S : Sp} {l : List Rw} : oJ S l = true ↔ gW S l = true ∧ ∀ i, i < l.length → ∀ k, k < S.on.length → K0 S l i k = false := by
 unfold oJ
 rw [Bool.and_eq_true, List.all_eq_true]
 constructor
 ·rintro ⟨h1, h2⟩
  refine ⟨h1, fun i hi k hk => ?_⟩
  have := List.all_eq_true.1 (h2 i (List.mem_range.2 hi)) k (List.mem_range.2 hk)
  simpa using this
 ·rintro ⟨h1, h2⟩
  refine ⟨h1, fun i hi => List.all_eq_true.2 fun k hk => ?_⟩
  rw [h2 i (List.mem_range.1 hi) k (List.mem_range.1 hk)]
  rfl
theorem HV {S : Sp} {l : List Rw} (h : gW S l = false) : Value.bool false = .bool (oJ S l) := nI fun k => by rw [(nc.1 k).1] at h; cases h
theorem Kv {S : Sp} {l : List Rw} {i k : Nat} (hi : i < l.length) (hk : k < S.on.length) (h : K0 S l i k = true) : Value.bool false = .bool (oJ S l) := nI fun hn => by rw [(nc.1 hn).2 i hi k hk] at h; cases h
theorem QH {S : Sp} {l : List Rw} {i k : Nat} (h : (l.getD i ⟨⟨0, 0⟩, 0⟩).o.testBit k = false) : K0 S l i k = false := by unfold K0; rw [h]; rfl
theorem Q1 {S : Sp} {l : List Rw} {i k : Nat} {b : Bool} (h : (l.getD i ⟨⟨0, 0⟩, 0⟩).o.testBit k = true) (h2 : gW S (lP (pK l i k)) = b) : K0 S l i k = b := by unfold K0; rw [h, h2]; rfl
theorem RZ (x : Rw) : (pb x).length ≤ 1 ∧ ((pb x).length = 1 → 0 < x.o) ∧ (¬ (pb x).length = 1 → x.o = 0) := by
 rw [uY]
 split
 ·exact ⟨Nat.le_refl _, fun _ => by assumption, fun h => absurd rfl h⟩
 ·exact ⟨Nat.zero_le _, fun h => (by cases h), fun _ => (by omega)⟩
theorem BR {S : Sp} {l : List Rw} {j k : Nat} : (uA S l j k).length = (lI S l j).length + (pb (ro S l j k)).length + (l.length - (j + 1)) := by
 unfold uA
 rw [List.length_append, List.length_append, List.length_drop]
theorem Le {S : Sp} {l : List Rw} {j : Nat} : (lI S l j ++ l.drop j).length = (lI S l j).length + (l.length - j) := by rw [List.length_append, List.length_drop]
theorem LA {l : List Rw} (h : gF l) {i : Nat} (hi : i < l.length) (k : Nat) : gF (lN l i k) := by
 unfold lN
 obtain ⟨h1, h2, h3⟩ := h.get hi
 split
 ·exact (h.take _).app (h.drop _)
 ·exact h.set ⟨h1, h2, by have := qK (l.getD i ⟨⟨0, 0⟩, 0⟩).o (2 ^ k); show andNot _ _ < 256; omega⟩
theorem FZ {l : List Rw} (h : gF l) {i : Nat} (hi : i < l.length) (k : Nat) : gF (pK l i k) := h.set (L8 (h.get hi) k)
theorem uK {o k : Nat} (h : ((o / 2 ^ ((k : Nat) : Int).toNat &&& 1 : Nat) : Int) = 0) : o.testBit k = false := Bool.eq_false_iff.2 fun hb => by
 have := lz.2 hb
 rw [Int.toNat_natCast] at h
 rw [h] at this
 cases this
theorem Hw {o k : Nat} (h : ¬ ((o / 2 ^ ((k : Nat) : Int).toNat &&& 1 : Nat) : Int) = 0) : o.testBit k = true := Classical.byContradiction fun hb => h (by
 have hb : o.testBit k = false := by simpa using hb
 rw [ie, decide_eq_false_iff_not] at hb
 rw [Int.toNat_natCast, uW]
 omega)
theorem sY {o k : Nat} (h : o = 0) : o.testBit k = false := by subst h; exact Nat.zero_testBit k
def rZ (a b : List Rw) : Prop := ∀ x, x ∈ a → ∃ y, y ∈ b ∧ x.c = y.c ∧ ∀ j, x.o.testBit j = true → y.o.testBit j = true
theorem rZ.refl (a : List Rw) : rZ a a := fun x hx => ⟨x, hx, rfl, fun _ h => h⟩
theorem rZ.trans {a b c : List Rw} (h : rZ a b) (k : rZ b c) : rZ a c := fun x hx => by
 obtain ⟨y, hy, h1, h2⟩ := h x hx
 obtain ⟨z, hz, h3, h4⟩ := k y hy
 exact ⟨z, hz, h1.trans h3, fun j hj => h4 j (h2 j hj)⟩
theorem rZ.app {a b c d : List Rw} (h : rZ a b) (k : rZ c d) : rZ (a ++ c) (b ++ d) := fun x hx => by
 rcases List.mem_append.1 hx with hx | hx
 ·obtain ⟨y, hy, h⟩ := h x hx; exact ⟨y, List.mem_append.2 (.inl hy), h⟩
 ·obtain ⟨y, hy, h⟩ := k x hx; exact ⟨y, List.mem_append.2 (.inr hy), h⟩
theorem rZ.kp {x y : Rw} (hc : x.c = y.c) (ho : ∀ j, x.o.testBit j = true → y.o.testBit j = true) : rZ (pb x) (pb y) := fun z hz => by
 unfold pb at hz
 split at hz
 ·rename_i hp
  simp at hz
  subst hz
  obtain ⟨j, hj⟩ := o0 hp
  exact ⟨y, by rw [qM (uV (ho j hj))]; exact List.mem_singleton.2 rfl, hc, ho⟩
 ·cases hz
theorem rZ.cv {a b : List Rw} (h : rZ a b) {p o : Nat} (hc : yX a p o = true) : yX b p o = true := by
 unfold yX at *
 rw [List.any_eq_true] at *
 obtain ⟨x, hx, h1⟩ := hc
 obtain ⟨y, hy, e, h2⟩ := h x hx
 refine ⟨y, hy, ?_⟩
 rw [Bool.and_eq_true] at *
 exact ⟨h2 o h1.1, e ▸ h1.2⟩
theorem wY {S : Sp} {l : List Rw} : oK S l = true ↔ ∀ x, x ∈ l → Ez S x = true := by unfold oK; exact List.all_eq_true
theorem rZ.may {S : Sp} {a b : List Rw} (h : rZ a b) (hp : oA a) (k : oK S b = true) : oK S a = true := wY.2 fun x hx => by
 obtain ⟨y, hy, e, h2⟩ := h x hx
 obtain ⟨h3, _, h5⟩ := jo.1 (wY.1 k y hy)
 refine jo.2 ⟨e ▸ h3, hp x hx, f7.2 fun j hj => Bool.eq_false_iff.2 fun hb => ?_⟩
 have := h2 j hb
 rw [f7.1 h5 j hj] at this
 cases this
theorem JL {S : Sp} {a b u : List Rw} (ha : gW S a = true) (hu : gW S u = true) (h1 : rZ a b) (h2 : rZ b u) (hp : oA b) : gW S b = true := by
 obtain ⟨hr, hma, hca⟩ := gr.1 ha
 obtain ⟨_, hmu, hcu⟩ := gr.1 hu
 have hmb := h2.may hp hmu
 refine gr.2 ⟨hr, hmb, fun o ho => (jW hr hmb ho).2 fun p hpn => ?_⟩
 exact ⟨fun h => h1.cv (((jW hr hma ho).1 (hca o ho) p hpn).1 h), fun h => ((jW hr hmu ho).1 (hcu o ho) p hpn).2 (h2.cv h)⟩
theorem I2 {S : Sp} {l : List Rw} : ∀ j, j ≤ l.length → rZ (lI S l j) (l.take j)
 | 0, _ => fun x hx => by cases hx
 | j + 1, hj => by
  have e : l.take (j + 1) = l.take j ++ [l.getD j ⟨⟨0, 0⟩, 0⟩] := by
   rw [List.take_add_one, List.getD_eq_getElem?_getD, List.getElem?_eq_getElem (show j < l.length by omega)]
   rfl
  rw [jQ, e]
  refine (I2 j (by omega)).app fun x hx => ⟨_, List.mem_singleton.2 rfl, ?_⟩
  unfold pb at hx
  split at hx
  ·simp at hx; subst hx; exact ⟨rfl, fun q hq => tr S l j _ q hq⟩
  ·cases hx
theorem Fg {S : Sp} {l : List Rw} (h : gW S l = true) : ∀ j, j ≤ l.length → gW S (lI S l j ++ l.drop j) = true
 | 0, _ => h
 | j + 1, hj => by
  have ih := Fg h j (by omega)
  rw [CH (sq h) (by omega)] at ih
  rw [← Ao]
  have : ∀ k, gW S (uA S l j k) = true := fun k => by
   induction k with
   | zero => exact ih
   | succ k ihk =>
    by_cases hb : (q9 S l j k).testBit k = true
    ·by_cases hc : gW S (lN (uA S l j k) (lI S l j).length k) = true
     ·rw [← Cr hb hc]; exact hc
     ·rw [← nk (.inr (by simpa using hc))]; exact ihk
    ·rw [← nk (.inl (by simpa using hb))]; exact ihk
  exact this _
theorem AP {S : Sp} {l : List Rw} (h : gW S l = true) : gW S (ju S l) = true := by
 have := Fg h l.length (Nat.le_refl _)
 rwa [List.drop_length, List.append_nil] at this
theorem rY (S : Sp) (l : List Rw) (j : Nat) : ∀ e, lI S l j <+: lI S l (j + e)
 | 0 => List.prefix_refl _
 | e + 1 => by rw [← Nat.add_assoc, jQ]; exact (rY S l j e).trans (List.prefix_append _ _)
theorem Bx {S : Sp} {l : List Rw} : ∀ m i, i < (lI S l m).length → ∃ j, j < m ∧ (lI S l j).length = i ∧ 0 < q9 S l j S.on.length ∧ (lI S l m).getD i ⟨⟨0, 0⟩, 0⟩ = ro S l j S.on.length
 | 0, i, h => by cases h
 | m + 1, i, h => by
  rw [jQ] at h ⊢
  by_cases hi : i < (lI S l m).length
  ·obtain ⟨j, hj, h1, h2, h3⟩ := Bx m i hi
   refine ⟨j, by omega, h1, h2, ?_⟩
   rw [← h3, List.getD_eq_getElem?_getD, List.getElem?_append_left hi, List.getD_eq_getElem?_getD]
  ·rw [List.length_append, uY] at h
   have hp : 0 < (ro S l m S.on.length).o := Classical.byContradiction fun hn => by rw [if_neg hn] at h; omega
   rw [if_pos hp] at h
   refine ⟨m, by omega, by omega, hp, ?_⟩
   rw [qM hp]
   exact vE (by omega)
theorem KK {S : Sp} {l : List Rw} (hp : oA l) {j m : Nat} (hjm : j ≤ m) (hm : m ≤ l.length) : rZ ((lI S l m).drop (lI S l j).length) (l.drop j) := by
 induction m with
 | zero =>
  obtain rfl : j = 0 := by omega
  exact fun x hx => by simp [lI] at hx
 | succ m ih =>
  by_cases e : j = m + 1
  ·subst e
   rw [List.drop_length]
   exact fun x hx => by cases hx
  ·have hjm' : j ≤ m := by omega
   have hpre := (rY S l j (m - j)).length_le
   rw [show j + (m - j) = m by omega] at hpre
   rw [jQ, List.drop_append_of_le_length hpre]
   intro x hx
   rcases List.mem_append.1 hx with hx | hx
   ·exact ih hjm' (by omega) x hx
   ·unfold pb at hx
    split at hx
    ·simp at hx
     subst hx
     refine ⟨l.getD m ⟨⟨0, 0⟩, 0⟩, ?_, rfl, fun q hq => tr S l m _ q hq⟩
     have := dV (d := ⟨⟨0, 0⟩, 0⟩) (show m - j < (l.drop j).length by rw [List.length_drop]; omega)
     rwa [List.getD_eq_getElem?_getD, List.getElem?_drop, show j + (m - j) = m by omega, ← List.getD_eq_getElem?_getD] at this
    ·cases hx
theorem A6 {S : Sp} {l : List Rw} (h : gW S l = true) : oJ S (ju S l) = true := by
 have hpl := sq h
 refine nc.2 ⟨AP h, fun i hi k hk => Bool.eq_false_iff.2 fun hn => ?_⟩
 unfold K0 at hn
 rw [Bool.and_eq_true] at hn
 obtain ⟨hb, hc⟩ := hn
 obtain ⟨j, hj, h1, h2, h3⟩ := Bx l.length i hi
 have hp2 : oA (ju S l) := vC S l l.length
 have hb' : (q9 S l j S.on.length).testBit k = true := by
  rw [show (ju S l).getD i ⟨⟨0, 0⟩, 0⟩ = _ from h3] at hb
  exact hb
 have hbk1 : (q9 S l j (k + 1)).testBit k = true := by
  have := ql S l j (k + 1) (S.on.length - (k + 1)) k
  rw [show k + 1 + (S.on.length - (k + 1)) = S.on.length by omega] at this
  exact this hb'
 have hbk : (q9 S l j k).testBit k = true := ql S l j k 1 k hbk1
 have hno : ¬ gW S (lI S l j ++ pb (ky (ro S l j k) k) ++ l.drop (j + 1)) = true := fun hcc => by
  rw [ND hbk hcc, jH hbk] at hbk1
  simp at hbk1
 apply hno
 have hpre := rY S l j (l.length - j)
 rw [show j + (l.length - j) = l.length by omega] at hpre
 have htk : (ju S l).take i = lI S l j := by rw [← h1]; exact (List.prefix_iff_eq_take.1 hpre).symm
 have hlen : (lI S l (j + 1)).length = i + 1 := by rw [jQ, List.length_append, uY, if_pos (show 0 < (ro S l j S.on.length).o from h2), h1]
 have hdr := KK (S := S) hpl (show j + 1 ≤ l.length by omega) (Nat.le_refl _)
 rw [hlen] at hdr
 have hx := Cw (l := ju S l) (i := i) hi
 have hA : i = ((ju S l).take i).length := by rw [List.length_take]; exact (Nat.min_eq_left (Nat.le_of_lt hi)).symm
 have e : lP (pK (ju S l) i k) = lI S l j ++ pb (ky (ro S l j S.on.length) k) ++ (ju S l).drop (i + 1) := by
  have h2 : pK (ju S l) i k = (ju S l).take i ++ ky ((ju S l).getD i ⟨⟨0, 0⟩, 0⟩) k :: (ju S l).drop (i + 1) := by
   unfold pK
   conv => lhs; arg 1; rw [hx]
   exact E1 hA
  rw [h2, qS, Ee, htk, yC (vC S l j), yC (hp2.drop _), show (ju S l).getD i ⟨⟨0, 0⟩, 0⟩ = _ from h3, List.append_assoc]
 rw [e] at hc
 have hle1 : rZ (lI S l j ++ pb (ky (ro S l j S.on.length) k) ++ (ju S l).drop (i + 1)) (lI S l j ++ pb (ky (ro S l j k) k) ++ l.drop (j + 1)) := by
  refine rZ.app (rZ.app (rZ.refl (lI S l j)) (rZ.kp (x := ky (ro S l j S.on.length) k) (y := ky (ro S l j k) k) rfl fun q hq => ?_)) hdr
  have hq' : (q9 S l j S.on.length - 2 ^ k).testBit q = true := hq
  show (q9 S l j k - 2 ^ k).testBit q = true
  rw [jH hb', Bool.and_eq_true] at hq'
  rw [jH hbk, Bool.and_eq_true]
  refine ⟨?_, hq'.2⟩
  have := ql S l j k (S.on.length - k) q
  rw [show k + (S.on.length - k) = S.on.length by omega] at this
  exact this hq'.1
 have hle2 : rZ (lI S l j ++ pb (ky (ro S l j k) k) ++ l.drop (j + 1)) l := by
  conv => rhs; rw [Cw hj]
  rw [List.append_assoc]
  refine (I2 j (by omega)).app ?_
  refine rZ.trans ?_ (rZ.refl (l.getD j ⟨⟨0, 0⟩, 0⟩ :: l.drop (j + 1)))
  rw [show l.getD j ⟨⟨0, 0⟩, 0⟩ :: l.drop (j + 1) = [l.getD j ⟨⟨0, 0⟩, 0⟩] ++ l.drop (j + 1) from rfl]
  refine rZ.app (fun x hx => ⟨_, List.mem_singleton.2 rfl, ?_⟩) (rZ.refl _)
  unfold pb at hx
  split at hx
  ·simp at hx
   subst hx
   refine ⟨rfl, fun q hq => ?_⟩
   have hq' : (q9 S l j k - 2 ^ k).testBit q = true := hq
   rw [jH hbk, Bool.and_eq_true] at hq'
   exact tr S l j k q hq'.1
  ·cases hx
 exact JL hc h hle1 hle2 (((vC S l j).app (oA.kp _)).app (hpl.drop _))
end
section
open Go Go.RowKit
theorem Ol75_0 {p : Prop} (h : p := by first | omega | (simp only [cV, cW, cX, da, de]; omega)) : p := h
theorem HW : dD Tryz.prog 48 = true := by kernel_rfl
theorem OT : dD Tryz.prog 49 = true := by kernel_rfl
theorem zM : dD Tryz.prog 12 = true := by kernel_rfl
theorem OL : dD Tryz.prog 32 = true := by kernel_rfl
theorem PQ : dD Tryz.prog 31 = true := by kernel_rfl
theorem wD (xa : Value) (l : List Rw) (i k : Nat) (w : World) (hl : dN fJ 3 w xa l) (hlb : l.length ≤ 1000000) (hlr : gF l) (hi : i < l.length) (hk : k < 8) :
    Fn Tryz.prog 49 #[xa, .int .i64 (i : Int), .int .i64 (k : Int)] w fun v w' => dh fJ 3 42 w' w.heap.size v (lN l i k) := by
 refine dq (n := 36) Tryz.func49 rfl rfl (Nat.le_of_ble_eq_true rfl) ?_
 have hB : Below w.heap.size w w := Below.refl _ _
 have h7 := xW hk
 refine Zr <| Zw (.slice none 0 0) rfl <| cT <| Zr <| Zy (vW dL fun A W5 s B C => ?_)
 have D := ZO s hB
 clear s
 replace hB := Ze hB B
 have q := pJ (enc := fJ) (sz := 3) C D
 refine Zw xa rfl <| Zy (eC (v := .slice (some ⟨A, 0, none⟩) 0 0) (v2 := xa) rfl rfl dL g6 Dd q (Below.slT hB hl) (jG) (by have := Below.size hB; omega) (by first | omega | (simp; omega) | (simp only [cV, cW, cX, da, de]; omega)) (by first | omega | (simp; omega) | (simp only [cV, cW, cX, da, de]; omega)) fun e W8 E d => ?_)
 replace d := dh.app (enc := fJ) rfl rfl rfl rfl d
 replace hB := ZG hB E q
 clear q
 rw [List.nil_append] at d
 refine Zw e rfl <| cT <| cY fun I t => ?_
 obtain ⟨J, K, L⟩ := hlr.get hi
 refine Zd (fun a b => a.grownBy b e.ownBlock) fun F x => ?_
 replace hB := Ze hB x
 replace d := x.ow d
 have M := d
 have hS := World.grownBy.refl F e.ownBlock
 refine Tw 0 e rfl rfl hS <| Ti 1 rfl rfl hS <| Ti 5 rfl rfl hS <| Tk 6 rfl (fun _ _ => jU (m := 1) rfl rfl Om (by simp only [IntKind.bits]; omega) (by simp only [d8, Int.toNat_natCast, Nat.one_mul]; omega)) hS ?_
 refine rK (dd := some 13) 2 (by kernel_rfl) rfl rfl rfl rfl (Yd.val (dF (v := e) rfl d.sl rfl dL Om Ol75_0) ⟨.inl hS, ?_⟩)
 refine Tf 3 rfl rfl fj hS ?_
 refine rK (dd := some 15) 4 (by kernel_rfl) rfl rfl rfl rfl (Yd.val (dk (v := .int .u8 _) rfl eb (dN.cell d.sl dU ⟨⟨0, 0⟩, 0⟩ Om Ol75_0 2 rfl)) ⟨.inl hS, ?_⟩)
 refine Tk 7 rfl (fun _ _ => pU (n := _) rfl rfl rfl (by first | assumption | (simp only [d8]; omega) | (simp only [d8]; decide)) (by simp only [d8, Int.toNat_natCast, Nat.one_mul]; omega)) hS ?_
 refine rK (dd := some 19) 8 (by kernel_rfl) rfl rfl rfl rfl (Yd.val (dF (v := e) rfl d.sl rfl dL Om Ol75_0) ⟨.inl hS, ?_⟩)
 refine Tf 9 rfl rfl fj hS <| To 10 rfl (Cz (v := e) (u := .int .u8 _) (a := ⟨(l.getD i ⟨⟨0, 0⟩, 0⟩).c, andNot (l.getD i ⟨⟨0, 0⟩, 0⟩).o (1 * 2 ^ k)⟩) (dd := ⟨⟨0, 0⟩, 0⟩) (j := _) (r := 2) rfl rfl eb dU rfl Dd (rfl) d Om Ol75_0 fun N g G => ⟨.inl (dE hS g), ?_⟩)
 replace hS := dE hS g
 replace hB := ZG hB g d
 clear g d
 replace d := G
 rw [Int.toNat_natCast] at d
 refine Td ?_
 have hsl : (l.set i ⟨(l.getD i ⟨⟨0, 0⟩, 0⟩).c, andNot (l.getD i ⟨⟨0, 0⟩, 0⟩).o (1 * 2 ^ k)⟩).length = l.length := List.length_set
 have hC : (l.set i ⟨(l.getD i ⟨⟨0, 0⟩, 0⟩).c, andNot (l.getD i ⟨⟨0, 0⟩, 0⟩).o (1 * 2 ^ k)⟩).length ≤ jb e := (Sl.eqv d.sl).2.1
 refine Zr <| Zw e rfl <| Zi rfl <| Zv (dF (v := e) rfl d.sl rfl dL Om Ol75_0) <| Zf rfl fj <| Zv (dk (v := .int .u8 _) rfl eb (dN.cell d.sl dU ⟨⟨0, 0⟩, 0⟩ Om Ol75_0 2 rfl)) <| Zv (dS rfl rfl) <| cT <| ZQ rfl (fun f => ?_) fun f => ?_
 refine gD (fun a b => a.grownBy b e.ownBlock) iC (fun H y => ?_)
 replace hB := Ze hB y
 replace d := y.ow d
 have O := d
 have hS := World.grownBy.refl H e.ownBlock
 refine Tw 0 e rfl rfl hS <| Ti 1 rfl rfl hS <| Tk 2 rfl (fun _ _ => D6 (v := e) rfl d.sl dL rfl Om Om) hS <| Tw 3 e rfl rfl hS <| Ti 4 rfl rfl hS <| Tk 5 rfl (fun _ _ => dm rfl rfl Om Om) hS <| Tk 6 rfl (fun _ _ => Db (v := e) rfl d.sl dL rfl Om Om) hS <| To 7 rfl (DY (v := e) (i := i) (j := (i + 1)) dU jG rfl rfl dL d Om Om Om fun h P p z Q => ⟨.inl (dE hS p), ?_⟩)
 replace hS := dE hS p
 replace hB := ZG hB p d
 clear p d
 refine Tw 8 h rfl rfl hS <| Td <| t _ _ <| Zr <| Zw h rfl <| Zw h rfl <| cT <| Zt <| dC (v := h) rfl ⟨hB, ?_⟩
 first | exact (KU hi f) ▸ z | exact (Hp hi f) ▸ d
 refine c7 <| t _ _ <| Zr <| Zw e rfl <| Zw e rfl <| cT <| Zt <| dC (v := e) rfl ⟨hB, ?_⟩
 first | exact (KU hi f) ▸ z | exact (Hp hi f) ▸ d
theorem pq (xa : Value) (l : List Rw) (w : World) (hl : dN fJ 3 w xa l) (hlb : l.length ≤ 1000000) (hlr : gF l) :
    Fn Tryz.prog 31 #[xa] w fun v w' => dh fJ 3 42 w' w.heap.size v (lP l) := by
 refine dq (n := 25) Tryz.func31 rfl rfl (Nat.le_of_ble_eq_true rfl) ?_
 have hB : Below w.heap.size w w := Below.refl _ _
 refine Zr <| Zw (.slice none 0 0) rfl <| cT <| Zr <| Zw (.slice none 0 0) rfl <| cT <| cY fun K5 j => Zr <| Zw (.int .i64 0) rfl <| cT <| c9 ?_
 refine dy (σ := (Nat) × (Value)) [3, 4, 5, 6, 7, 8, 9, 10, 11, 12, 13, 14, 15, 16, 17, 18, 19, 20, 21, 22, 23] (fun (k, v0) => [(4, .int .i64 (k : Int)), (3, v0)]) (fun sg W => match sg with | (k, v0) => (Below w.heap.size w W) ∧ (dh fJ 3 42 W w.heap.size v0 (rq l k)) ∧ (k ≤ l.length) ∧ (True)) (fun (k, v0) => l.length - k) ((0, .slice none 0 0)) ⟨rfl, rfl, trivial⟩ ⟨hB, dh.nil, (Nat.zero_le _), trivial⟩ ?_
 clear hB
 rintro ⟨k, v0⟩ r W9 ⟨hB, ho, hk, _⟩ s e
 refine cY fun t m => Zr <| Zi rfl <| Zw xa rfl <| Zv (dz (v := xa) rfl (Below.slT hB hl) dL) <| Zv (dM rfl rfl) <| cT <| ZQ rfl (fun o => ?_) fun o => ?_
 refine c7 <| m _ _ <| cY fun y f => c9 ?_
 obtain ⟨z, A, B⟩ := hlr.get (k := k) (by omega)
 have hsl := Hk l k
 refine Zr <| Zw xa rfl <| Zi rfl <| Zv (dF (v := xa) rfl (Below.slT hB hl) rfl dL Om Ol75_0) <| Zf rfl fj <| Zv (dk (v := .int .u8 _) rfl eb (dN.cell (Below.slT hB hl) dU ⟨⟨0, 0⟩, 0⟩ Om Ol75_0 2 rfl)) <| Zv (iE rfl rfl) <| cT <| ZQ rfl (fun a => ?_) fun a => ?_
 refine cZ <| Zw v0 rfl <| Zw xa rfl <| Zi rfl <| Zv (dF (v := xa) rfl (Below.slT hB hl) rfl dL Om Ol75_0) <| Zv (i4 rfl ex (dN.cell (Below.slT hB hl) dU ⟨⟨0, 0⟩, 0⟩ Om Ol75_0 0 rfl) (dN.cell (Below.slT hB hl) dU ⟨⟨0, 0⟩, 0⟩ Om Ol75_0 1 rfl) (dN.cell (Below.slT hB hl) dU ⟨⟨0, 0⟩, 0⟩ Om Ol75_0 2 rfl)) <| Zy (ff (u := .agg #[_, _, _]) rfl dL g6 rfl Dd Dd fun g C d h p => ?_)
 have D := ZO d hB
 have E := dh.neB (b := g) ho (Nat.le_of_eq d.symm)
 clear d
 replace hB := Ze hB h
 replace ho := h.ow ho
 refine Zy (eC (v := v0) (v2 := .slice (some ⟨g, 0, none⟩) 1 1) rfl rfl dL g6 Dd ho (fF p rfl) rfl (by have := Below.size hB; omega) (by first | omega | (simp; omega) | (simp only [cV, cW, cX, da, de]; omega)) (by first | omega | (simp; omega) | (simp only [cV, cW, cX, da, de]; omega)) fun i F q c => ?_)
 replace c := dh.snoc (enc := fJ) (x := (l.getD k ⟨⟨0, 0⟩, 0⟩)) rfl rfl rfl rfl c
 replace hB := ZG hB q ho
 clear ho
 refine Zw i rfl <| cT <| f _ _ <| cZ <| Zi rfl <| Zv (dm rfl rfl Om Om) <| Zi rfl <| cT ?_
 exact e _ _ ((k + 1, i)) Za ⟨rfl, rfl, trivial⟩ ⟨hB, (by first | (rw [← FH (k := k) Om a]; exact c) | (rw [← FQ (k := k) Om a]; exact c)), Om, trivial⟩ (by show l.length - (k + 1) < l.length - k; omega)
 refine c7 <| f _ _ <| cZ <| Zi rfl <| Zv (dm rfl rfl Om Om) <| Zi rfl <| cT ?_
 exact e _ _ ((k + 1, v0)) Za ⟨rfl, rfl, trivial⟩ ⟨hB, (by first | (rw [← FH (k := k) Om a]; exact ho) | (rw [← FQ (k := k) Om a]; exact ho)), Om, trivial⟩ (by show l.length - (k + 1) < l.length - k; omega)
 refine dr <| j _ _ <| Zr <| Zw v0 rfl <| Zw v0 rfl <| cT <| Zt <| dC (v := v0) rfl ⟨hB, ?_⟩
 obtain rfl : k = l.length := by omega
 rw [← Gn]
 exact ho
theorem pt (xa : Value) (l : List Rw) (i k : Nat) (w : World) (hl : dN fJ 3 w xa l) (hlb : l.length ≤ 1000000) (hlr : gF l) (hi : i < l.length) (hk : k < 8) (hbt : (l.getD i ⟨⟨0, 0⟩, 0⟩).o.testBit k = true) :
    Fn Tryz.prog 32 #[xa, .int .i64 (i : Int), .int .i64 (k : Int)] w fun v w' => dh fJ 3 42 w' w.heap.size v (pK l i k) := by
 refine dq (n := 32) Tryz.func32 rfl rfl (Nat.le_of_ble_eq_true rfl) ?_
 have hB : Below w.heap.size w w := Below.refl _ _
 have h7 := xW hk
 obtain ⟨D, E, g⟩ := hlr.get hi
 have hge := OD hbt
 refine Zr <| Zw (.slice none 0 0) rfl <| cT <| Zr <| Zw (.int .u8 1) rfl <| cT <| cY fun K5 h => Zr <| Zw (.int .i64 0) rfl <| cT <| c9 ?_
 refine dy (σ := (Nat)) [7, 8, 10, 11, 12, 13, 14, 15, 16] (fun j => [(8, .int .i64 (j : Int)), (7, .int .u8 ((2 ^ j % 256 : Nat) : Int))]) (fun j W => (Below w.heap.size w W) ∧ (j ≤ k) ∧ (True)) (fun j => k - j) (0) ⟨rfl, rfl, trivial⟩ ⟨hB, (Nat.zero_le _), trivial⟩ ?_
 clear hB
 rintro j F W9 ⟨hB, hj, _⟩ G m
 refine cY fun H p => Zr <| Zi rfl <| Zi rfl <| Zv (dM rfl rfl) <| cT <| ZQ rfl (fun s => ?_) fun s => ?_
 refine c7 <| p _ _ <| cY fun I t => c9 <| cZ <| Zi rfl <| Zv (zd (n := 2) rfl rfl rfl) <| Zi rfl <| cT <| t _ _ <| cZ <| Zi rfl <| Zv (dm rfl rfl Om Om) <| Zi rfl ?_
 refine cT ?_
 exact m _ _ (j + 1) Za ⟨rfl, congrArg (fun q : Nat => Value.int .u8 (q : Int)) (HB _), trivial⟩ ⟨hB, Om, trivial⟩ Zo
 refine dr <| h _ _ ?_
 have hjk : j = k := by omega
 have hmod : 2 ^ j % 256 = 2 ^ k := by rw [hjk]; exact Nat.mod_eq_of_lt (by omega)
 rw [hmod]
 refine Zr <| Zy (vW dL fun x J e y z => ?_)
 have A := ZO e hB
 clear e
 replace hB := Ze hB y
 have d := pJ (enc := fJ) (sz := 3) z A
 refine Zw xa rfl <| Zy (eC (v := .slice (some ⟨x, 0, none⟩) 0 0) (v2 := xa) rfl rfl dL g6 Dd d (Below.slT hB hl) (jG) (by have := Below.size hB; omega) (by first | omega | (simp; omega) | (simp only [cV, cW, cX, da, de]; omega)) (by first | omega | (simp; omega) | (simp only [cV, cW, cX, da, de]; omega)) fun c K B b => ?_)
 replace b := dh.app (enc := fJ) rfl rfl rfl rfl b
 replace hB := ZG hB B d
 clear d
 rw [List.nil_append] at b
 refine Zw c rfl <| cT <| Zr <| Zw c rfl <| Zi rfl <| Zw c rfl <| Zi rfl <| Zv (dF (v := c) rfl b.sl rfl dL Om Ol75_0) <| Zf rfl fj <| Zv (dk (v := .int .u8 _) rfl eb (dN.cell b.sl dU ⟨⟨0, 0⟩, 0⟩ Om Ol75_0 2 rfl)) <| Zi rfl <| Zv (L7 (n := 2 ^ k) rfl rfl rfl hge g) <| Zv (dF (v := c) rfl b.sl rfl dL Om Ol75_0) <| Zf rfl fj ?_
 refine Zy (Cz (v := c) (u := .int .u8 _) (a := ky (l.getD i ⟨⟨0, 0⟩, 0⟩) k) (dd := ⟨⟨0, 0⟩, 0⟩) (j := _) (r := 2) rfl rfl eb dU rfl Dd (rfl) b Om Ol75_0 fun L f C => ?_)
 replace hB := ZG hB f b
 clear f b
 replace b := C
 rw [Int.toNat_natCast] at b
 refine cT <| Zr <| Zw c rfl <| Zw c rfl <| cT <| Zt <| dC (v := c) rfl ⟨hB, ?_⟩
 exact b
theorem A7 (S : Sp) (onV mayV : Value) (xa : Value) (l : List Rw) (w : World) (hon : dN gp 4 w onV S.on) (hmay : dN gp 4 w mayV S.may) (hl : dN fJ 3 w xa l) (hlb : l.length ≤ 1000000) (hlr : gF l) (h4 : S.on.length ≤ 20) :
    Fn Tryz.prog 22 #[.agg #[.int .i64 S.n, onV, mayV], xa] w fun v w' => if gW S l = true then ∃ x, v = .tuple #[x, .int .i64 0] ∧ dh fJ 3 42 w' w.heap.size x (ju S l) else v = .tuple #[.slice none 0 0, .int .i64 1] := by
 refine dq (n := 61) Tryz.func22 rfl rfl (Nat.le_of_ble_eq_true rfl) ?_
 have hB : Below w.heap.size w w := Below.refl _ _
 refine Zr <| Zy (dY (c := #[_, _, _]) rfl rfl fun t W3 u D a => ?_)
 have Y := ZO u hB
 clear u
 replace hB := Ze hB D
 refine Zw (.slice none 0 0) rfl <| Zw (.int .i64 0) rfl <| cT <| cY fun K6 E => Zr <| Zv (db rfl ez rfl a) <| Zw xa rfl <| ZC (vs := [.agg #[_, _, _], xa]) HW (ru S _ _ _ l _ (Below.slT hB hon) (Below.slT hB hmay) (Below.slT hB hl) Om hlr h4) rfl fun Z aa y F => ?_
 replace hB := Ze hB y
 replace a := y.at a
 obtain rfl := F
 refine Zv (eX rfl) <| cT <| ZQ rfl (fun s => ?_) fun s => ?_
 refine Zr <| Zw (.slice none 0 0) rfl <| Zw (.int .i64 1) rfl <| cT <| Zt <| d6 (v := .slice none 0 0) rfl (v1 := .int .i64 1) rfl ⟨hB, ?_⟩
 rw [if_neg (by rw [show gW S l = false from i6 s]; decide)]
 refine c7 <| E _ _ ?_
 have hc : gW S l = true := ic s
 have hp := sq hc
 obtain ⟨hr0, hr8, hr1, hr4, hr5, _⟩ := d9.1 (gr.1 hc).1
 refine Zr <| Zy (vW dL fun G ab z A H => ?_)
 have I := ZO z hB
 clear z
 replace hB := Ze hB A
 replace a := A.at a
 have m := pJ (enc := fJ) (sz := 3) H I
 refine Zw xa rfl <| Zy (eC (v := .slice (some ⟨G, 0, none⟩) 0 0) (v2 := xa) rfl rfl dL g6 Dd m (Below.slT hB hl) (jG) (by have := Below.size hB; omega) (by first | omega | (simp; omega) | (simp only [cV, cW, cX, da, de]; omega)) (by first | omega | (simp; omega) | (simp only [cV, cW, cX, da, de]; omega)) fun o ac B b => ?_)
 replace b := dh.app (enc := fJ) rfl rfl rfl rfl b
 replace hB := ZG hB B m
 replace a := At.grownOw a m B Dd
 clear m
 rw [List.nil_append] at b
 refine Zw o rfl <| cT <| cY fun ad J => Zr <| Zw (.int .i64 0) rfl <| cT <| c9 ?_
 refine dy (σ := (Nat) × (Value)) [6, 7, 8, 9, 10, 18, 19, 20, 21, 22, 23, 24, 25, 26, 27, 28, 29, 30, 31, 32, 33, 34, 35, 36, 37, 38, 39, 40, 41, 42, 43, 44, 45, 46, 47, 48, 49, 50, 51, 52, 53, 54, 55, 56, 57, 58, 59] (fun (j, v0) => [(7, .int .i64 ((lI S l j).length : Int)), (6, v0)]) (fun sg W => match sg with | (j, v0) => (Below w.heap.size w W) ∧ (At W t _ 24) ∧ (dh fJ 3 42 W w.heap.size o _) ∧ (dh fJ 3 42 W w.heap.size v0 (lI S l j ++ l.drop j)) ∧ (j ≤ l.length) ∧ (True)) (fun (j, v0) => l.length - j) ((0, o)) ⟨rfl, rfl, trivial⟩ ⟨hB, a, b, (by exact b), (Nat.zero_le _), trivial⟩ ?_
 clear hB a b
 rintro ⟨j, v0⟩ ae af ⟨hB, a, b, ho, hj, _⟩ ag C
 refine cY fun ah K => ?_
 have hdl := Le (S := S) (l := l) (j := j)
 have hal := yW S l j
 refine Zr <| Zi rfl <| Zw v0 rfl <| Zv (dz (v := v0) rfl ho.sl dL) <| Zv (dM rfl rfl) <| cT <| ZQ rfl (fun L => ?_) fun L => ?_
 refine c7 <| K _ _ <| c9 ?_
 have hjl : j < l.length := by omega
 refine Zr <| Zw v0 rfl <| Zv (dz (v := v0) rfl ho.sl dL) <| Zi rfl <| cT <| cY fun ai M => Zr <| Zf rfl fE <| ZL onV rfl eE a rfl <| Zv (dz (v := onV) rfl (Below.slT hB hon) eg) <| Zw (.int .i64 0) rfl <| cT <| c9 ?_
 refine dy (σ := (Nat) × (Value)) [6, 9, 10, 27, 28, 29, 30, 31, 32, 33, 34, 35, 36, 37, 38, 39, 40, 41, 42, 43, 44, 45, 46, 47, 48, 49, 50, 51, 52, 53] (fun (k, v1) => [(27, .int .i64 (k : Int)), (6, v1)]) (fun sg W => match sg with | (k, v1) => (Below w.heap.size w W) ∧ (At W t _ 24) ∧ (dh fJ 3 42 W w.heap.size o _) ∧ (dh fJ 3 42 W w.heap.size v1 (uA S l j k)) ∧ (k ≤ S.on.length) ∧ (True)) (fun (k, v1) => S.on.length - k) ((0, v0)) ⟨rfl, rfl, trivial⟩ ⟨hB, a, b, (by rw [← CH hp hjl]; exact ho), (Nat.zero_le _), trivial⟩ ?_
 clear hB a b ho
 rintro ⟨k, v1⟩ aj ak ⟨hB, a, b, hoo, hk, _⟩ al p
 refine Zr <| Zv (dM rfl rfl) <| cT <| cY fun ao N => ZQ rfl (fun O => ?_) fun O => ?_
 refine c7 <| N _ _ <| cY fun ap q => c9 <| Zr <| Zi rfl <| Zi rfl <| cT <| cY fun aq P => ?_
 have htl := BR (S := S) (l := l) (j := j) (k := k)
 obtain ⟨hk1, hk2, hk3⟩ := RZ (ro S l j k)
 have htb := QO (S := S) hlr hjl k
 have hget : (pb (ro S l j k)).length = 1 → (uA S l j k).getD (((lI S l j).length : Nat) : Int).toNat ⟨⟨0, 0⟩, 0⟩ = ro S l j k := fun h => by rw [Int.toNat_natCast]; exact Mn (hk2 h)
 refine Zr <| Zw v1 rfl <| Zv (dz (v := v1) rfl hoo.sl dL) <| Zi rfl <| Zv (dM rfl rfl) <| ZX rfl (fun Q => ?_) fun Q => ?_
 refine Zs <| Zs <| Zs <| Zs <| Zs <| Zs <| Zs <| Zs <| Zs <| Zw (.bool true) rfl <| cT <| dB rfl <| dr <| q _ _ ?_
 refine cZ <| Zv (dm rfl rfl Om Om) <| Zi rfl <| cT ?_
 exact p _ _ ((k + 1, v1)) Za ⟨rfl, rfl, trivial⟩ ⟨hB, a, b, (by first | (rw [← Cr hbt f]; exact hoo) | (rw [← nk (.inr f)]; exact hoo) | (rw [← nk (.inl (sY (hk3 Om)))]; exact hoo) | (rw [← nk (.inl (uK (by rw [hget Om] at d; exact d)))]; exact hoo)), Om, trivial⟩ (by show S.on.length - (k + 1) < S.on.length - k; omega)
 refine Zw v1 rfl <| Zi rfl <| Zv (dF (v := v1) rfl hoo.sl rfl dL Om Ol75_0) <| Zf rfl fj <| Zv (dk (v := .int .u8 _) rfl eb (dN.cell hoo.sl dU ⟨⟨0, 0⟩, 0⟩ Om Ol75_0 2 rfl)) <| Zi rfl <| Zv (se rfl rfl Om (by simp only [IntKind.bits]; omega)) <| Zv (nV (n := 1) rfl rfl rfl (by exact Nat.lt_of_le_of_lt (Nat.div_le_self _ _) (htb.any _)) Dd) <| Zv (dS rfl rfl) <| Zb rfl <| cT <| ZQ rfl (fun d => ?_) fun d => ?_
 refine dr <| q _ _ <| cZ <| Zv (dm rfl rfl Om Om) <| Zi rfl <| cT ?_
 exact p _ _ ((k + 1, v1)) Za ⟨rfl, rfl, trivial⟩ ⟨hB, a, b, (by first | (rw [← Cr hbt f]; exact hoo) | (rw [← nk (.inr f)]; exact hoo) | (rw [← nk (.inl (sY (hk3 Om)))]; exact hoo) | (rw [← nk (.inl (uK (by rw [hget Om] at d; exact d)))]; exact hoo)), Om, trivial⟩ (by show S.on.length - (k + 1) < S.on.length - k; omega)
 refine c7 <| P _ _ ?_
 have hpos : (pb (ro S l j k)).length = 1 := by omega
 rw [hget hpos] at d
 have hbt : (q9 S l j k).testBit k = true := Hw d
 have hwl := Gm (uA S l j k) (lI S l j).length k
 refine Zr <| Zw v1 rfl <| Zi rfl <| Zi rfl <| ZC OT (wD _ (uA S l j k) (lI S l j).length k _ hoo.sl Om htb Om Om) rfl fun g ar r e => ?_
 have R := dh.lt2 b
 have T := dh.lt2 hoo
 have U := (Below.size hB)
 replace hB := Ze hB r
 replace a := r.at a
 replace b := r.ow b
 replace hoo := r.ow hoo
 have au := eP.new R e
 have av := eP.new T e
 replace e := dh.mono e U
 refine Zw g rfl <| cT <| Zr <| Zv (db rfl ez rfl a) <| Zw g rfl <| ZC (vs := [.agg #[_, _, _], g]) HW (ru S _ _ _ (lN (uA S l j k) (lI S l j).length k) _ (Below.slT hB hon) (Below.slT hB hmay) e.sl Om (LA htb Om k) h4) rfl fun aw ax i V => ?_
 replace hB := Ze hB i
 replace a := i.at a
 replace b := i.ow b
 replace hoo := i.ow hoo
 replace e := i.ow e
 obtain rfl := V
 refine cT <| ZQ rfl (fun f => ?_) fun f => ?_
 refine cZ <| Zw g rfl <| Zw g rfl <| cT <| q _ _ <| cZ <| Zv (dm rfl rfl Om Om) <| Zi rfl <| cT ?_
 exact p _ _ ((k + 1, g)) Za ⟨rfl, rfl, trivial⟩ ⟨hB, a, b, (by first | (rw [← Cr hbt f]; exact e) | (rw [← nk (.inr f)]; exact e) | (rw [← nk (.inl (sY (hk3 Om)))]; exact e) | (rw [← nk (.inl (uK (by rw [hget Om] at d; exact d)))]; exact e)), Om, trivial⟩ (by show S.on.length - (k + 1) < S.on.length - k; omega)
 refine c7 <| q _ _ <| cZ <| Zv (dm rfl rfl Om Om) <| Zi rfl <| cT ?_
 exact p _ _ ((k + 1, v1)) Za ⟨rfl, rfl, trivial⟩ ⟨hB, a, b, (by first | (rw [← Cr hbt f]; exact hoo) | (rw [← nk (.inr f)]; exact hoo) | (rw [← nk (.inl (sY (hk3 Om)))]; exact hoo) | (rw [← nk (.inl (uK (by rw [hget Om] at d; exact d)))]; exact hoo)), Om, trivial⟩ (by show S.on.length - (k + 1) < S.on.length - k; omega)
 refine dr <| M _ _ ?_
 obtain rfl : k = S.on.length := by omega
 have htl := BR (S := S) (l := l) (j := j) (k := S.on.length)
 obtain ⟨hk1, hk2, hk3⟩ := RZ (ro S l j S.on.length)
 have hA1 : (lI S l (j + 1)).length = (lI S l j).length + (pb (ro S l j S.on.length)).length := by rw [jQ, List.length_append]
 refine Zr <| Zw v1 rfl <| Zv (dz (v := v1) rfl hoo.sl dL) <| Zi rfl <| Zv (dS rfl rfl) <| cT <| ZQ rfl (fun X => ?_) fun X => ?_
 refine cZ <| Zi rfl <| Zv (dm rfl rfl Om Om) <| Zi rfl <| cT ?_
 exact C _ _ ((j + 1, v1)) Za ⟨(by first | exact congrArg (Value.int .i64) Om | exact congrArg (Value.int .i64) (by rw [hA1]; omega)), rfl, trivial⟩ ⟨hB, a, b, (by (rw [← Ao]; exact hoo)), Om, trivial⟩ (by show l.length - (j + 1) < l.length - j; omega)
 refine c7 ?_
 exact C _ _ ((j + 1, v1)) Za ⟨(by first | exact congrArg (Value.int .i64) Om | exact congrArg (Value.int .i64) (by rw [hA1]; omega)), rfl, trivial⟩ ⟨hB, a, b, (by (rw [← Ao]; exact hoo)), Om, trivial⟩ (by show l.length - (j + 1) < l.length - j; omega)
 refine dr <| J _ _ <| Zr <| Zw v0 rfl <| Zw v0 rfl <| Zw (.int .i64 0) rfl <| cT <| Zt <| d6 (v := v0) rfl (v1 := .int .i64 0) rfl ⟨hB, ?_⟩
 obtain rfl : j = l.length := by omega
 rw [if_pos hc]
 rw [List.drop_length, List.append_nil] at ho
 exact ⟨_, rfl, ho⟩
theorem kn (S : Sp) (onV mayV : Value) (xa : Value) (l : List Rw) (w : World) (hon : dN gp 4 w onV S.on) (hmay : dN gp 4 w mayV S.may) (hl : dN fJ 3 w xa l) (hlb : l.length ≤ 1000000) (hlr : gF l) (hr : dO S = true) :
    Fn Tryz.prog 13 #[.agg #[.int .i64 S.n, onV, mayV], xa] w fun v w' => v = .bool (oJ S l) := by
 refine dq (n := 40) Tryz.func13 rfl rfl (Nat.le_of_ble_eq_true rfl) ?_
 have hB : Below w.heap.size w w := Below.refl _ _
 obtain ⟨hr0, hr8, hr1, hr4, hr5, _⟩ := d9.1 hr
 refine Zr <| Zy (dY (c := #[_, _, _]) rfl rfl fun p W3 r y a => ?_)
 have T := ZO r hB
 clear r
 replace hB := Ze hB y
 refine Zw (.bool false) rfl <| cT <| cY fun K6 z => Zr <| Zv (db rfl ez rfl a) <| Zw xa rfl <| ZC (vs := [.agg #[_, _, _], xa]) zM (gM S _ _ _ l _ (Below.slT hB hon) (Below.slT hB hmay) (Below.slT hB hl) Om hlr hr) rfl fun U V s A => ?_
 replace hB := Ze hB s
 replace a := s.at a
 obtain rfl := A
 refine Zv (eX rfl) <| cT <| ZQ rfl (fun m => ?_) fun m => ?_
 refine Zr <| Zw (.bool false) rfl <| cT <| Zt <| dC (v := .bool false) rfl ⟨hB, ?_⟩
 exact HV (i6 m)
 refine c7 <| z _ _ <| cY fun X B => ?_
 have hc : gW S l = true := ic m
 have hp := sq hc
 refine Zr <| Zw (.int .i64 0) rfl <| cT <| c9 ?_
 refine dy (σ := (Nat)) [4, 5, 6, 11, 12, 13, 14, 15, 16, 17, 18, 19, 20, 21, 22, 23, 24, 25, 26, 27, 28, 29, 30, 31, 32, 33, 34, 35, 36, 37, 38, 39] (fun i => [(5, .int .i64 (i : Int))]) (fun i W => (Below w.heap.size w W) ∧ (At W p _ 24) ∧ (i ≤ l.length) ∧ (∀ q, q < i → ∀ k, k < S.on.length → K0 S l q k = false) ∧ (True)) (fun i => l.length - i) (0) ⟨rfl, trivial⟩ ⟨hB, a, (Nat.zero_le _), eV, trivial⟩ ?_
 clear hB a
 rintro i Y Z ⟨hB, a, hi, hq, _⟩ aa C
 refine cY fun ab D => Zr <| Zi rfl <| Zw xa rfl <| Zv (dz (v := xa) rfl (Below.slT hB hl) dL) <| Zv (dM rfl rfl) <| cT <| ZQ rfl (fun E => ?_) fun E => ?_
 refine c7 <| D _ _ <| cY fun ac F => c9 ?_
 obtain ⟨ad, ae, G⟩ := hlr.get (k := i) (by omega)
 refine Zr <| Zw (.int .i64 0) rfl <| cT <| c9 ?_
 refine dy (σ := (Nat)) [4, 6, 17, 18, 19, 20, 21, 22, 23, 24, 25, 26, 27, 28, 29, 30, 31, 32, 33, 34, 35, 36, 37, 38, 39] (fun k => [(6, .int .i64 (k : Int))]) (fun k W => (Below w.heap.size w W) ∧ (At W p _ 24) ∧ (k ≤ S.on.length) ∧ (∀ q, q < k → K0 S l i q = false) ∧ (True)) (fun k => S.on.length - k) (0) ⟨rfl, trivial⟩ ⟨hB, a, (Nat.zero_le _), eV, trivial⟩ ?_
 clear hB a
 rintro k af ag ⟨hB, a, hk, hq2, _⟩ ah t
 refine cY fun ai H => Zr <| Zi rfl <| Zf rfl fE <| ZL onV rfl eE a rfl <| Zv (dz (v := onV) rfl (Below.slT hB hon) eg) <| Zv (dM rfl rfl) <| cT <| ZQ rfl (fun I => ?_) fun I => ?_
 refine c7 <| H _ _ <| cY fun aj u => c9 ?_
 have hll := GN l i k
 have hsl := Gq (pK l i k)
 refine Zd ep fun J x => ?_
 replace hB := Ze hB x
 replace a := x.at a
 have hS := ep.refl J
 refine Tw 0 xa rfl rfl hS <| Ti 1 rfl rfl hS <| Tk 2 rfl (fun _ hq => dF (v := xa) rfl (hq.slT (Below.slT hB hl)) rfl dL Om Ol75_0) hS <| Tf 3 rfl rfl fj hS <| Tk 4 rfl (fun _ hq => dk (v := .int .u8 _) rfl eb (dN.cell (hq.slT (Below.slT hB hl)) dU ⟨⟨0, 0⟩, 0⟩ Om Ol75_0 2 rfl)) hS <| Ti 5 rfl rfl hS <| To 6 rfl (TC Dv (jy _ _ _ G Om) rfl fun ak al h K => ⟨.inl (hS.trans h), ?_⟩)
 have L := a
 replace hB := Ze hB h
 replace a := h.at a
 replace hS := hS.trans h
 obtain rfl := K
 refine Tx 7 rfl (fun _ _ => kZ (v := .bool _) rfl) hS (fun f => ?_) fun f => ?_
 refine Tk 8 rfl (fun _ hq => db rfl ez rfl (hq.at L)) hS <| Tw 9 xa rfl rfl hS <| Ti 10 rfl rfl hS <| Ti 11 rfl rfl hS <| To 12 rfl (TC OL (pt _ l i k _ (Below.slT hB hl) Om hlr Om Om f) rfl fun M ao j b => ⟨.inl (hS.trans j), ?_⟩)
 have N := (Below.size hB)
 replace hB := Ze hB j
 replace a := j.at a
 replace hS := hS.trans j
 replace b := dh.mono b N
 refine To 13 rfl (TC (vs := [M]) PQ (pq _ (pK l i k) _ b.sl Om (FZ hlr Om k)) rfl fun O ap g d => ⟨.inl (hS.trans g), ?_⟩)
 have P := dh.lt2 b
 have Q := (Below.size hB)
 replace hB := Ze hB g
 replace a := g.at a
 replace b := g.ow b
 replace hS := hS.trans g
 have aq := eP.new P d
 replace d := dh.mono d Q
 refine To 14 rfl (TC (vs := [.agg #[_, _, _], O]) zM (gM S _ _ _ (lP (pK l i k)) _ (Below.slT hB hon) (Below.slT hB hmay) d.sl Om (gF.some (FZ hlr Om k)) hr) rfl fun ar au e R => ⟨.inl (hS.trans e), ?_⟩)
 replace hB := Ze hB e
 replace a := e.at a
 replace b := e.ow b
 replace d := e.ow d
 replace hS := hS.trans e
 obtain rfl := R
 refine Ty 15 rfl rfl hS <| Td <| ZQ rfl (fun o => ?_) fun o => ?_
 refine Zr <| Zw (.bool false) rfl <| cT <| Zt <| dC (v := .bool false) rfl ⟨hB, ?_⟩
 exact Kv (i := i) (k := k) Om Om (Q1 f o)
 refine c7 <| u _ _ <| cZ <| Zi rfl <| Zv (dm rfl rfl Om Om) <| Zi rfl <| cT ?_
 exact t _ _ (k + 1) Za ⟨rfl, trivial⟩ ⟨hB, a, Om, (ek hq2 (Q1 f o)), trivial⟩ Zo
 refine Tp 8 rfl hS <| Tp 9 rfl hS <| Tp 10 rfl hS <| Tp 11 rfl hS <| Tp 12 rfl hS <| Tp 13 rfl hS <| Tp 14 rfl hS <| Tw 15 (.bool false) rfl rfl hS <| Td <| dX rfl <| c7 <| u _ _ <| cZ <| Zi rfl ?_
 refine Zv (dm rfl rfl Om Om) <| Zi rfl <| cT ?_
 exact t _ _ (k + 1) Za ⟨rfl, trivial⟩ ⟨hB, a, Om, (ek hq2 (QH f)), trivial⟩ Zo
 refine dr <| F _ _ <| cZ <| Zi rfl <| Zv (dm rfl rfl Om Om) <| Zi rfl <| cT ?_
 exact C _ _ (i + 1) Za ⟨rfl, trivial⟩ ⟨hB, a, Om, (ek hq (fun q hq => hq2 q Om)), trivial⟩ Zo
 refine dr <| B _ _ <| Zr <| Zw (.bool true) rfl <| cT <| Zt <| dC (v := .bool true) rfl ⟨hB, ?_⟩
 obtain rfl : i = l.length := by omega
 exact ze (nc.2 ⟨hc, hq⟩)
end
end Go.Proofs.YteimkklmmanncaaGreat
