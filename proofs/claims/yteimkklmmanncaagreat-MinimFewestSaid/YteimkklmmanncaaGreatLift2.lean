/- Primes out of cubes of one literal less, again and again. No program in it. Each cube within a set is held by a prime; the primes' points are the set's. No program in it. Plain words for covers without a search: sides of sets, the cover by the sides, its points, that no cube of it is too much. No pr -/
import Derived.Test.YteimkklmmanncaaGreatPrime
namespace Go.Proofs.YteimkklmmanncaaGreat
set_option linter.unusedVariables false
set_option linter.unusedSimpArgs false
section
open Go Go.RowKit
theorem tK {m u : Nat} {n : Int} {v : Value} (h : v = if dZ m u n = true then .tuple #[eP (oQ m u n.toNat), .int .i64 0] else .tuple #[eP 0, .int .i64 1]) :
  ∃ (sa : Nat) (er : Int), v = .tuple #[eP sa, .int .i64 er] ∧ ((dZ m u n = true ∧ sa = oQ m u n.toNat ∧ er = 0) ∨ (dZ m u n = false ∧ er = 1)) := by
 by_cases hr : dZ m u n = true
 ·rw [if_pos hr] at h
  exact ⟨_, _, h, .inl ⟨hr, rfl, rfl⟩⟩
 ·rw [if_neg hr] at h
  exact ⟨_, _, h, .inr ⟨by simpa using hr, rfl⟩⟩
theorem Iw {m u s sa : Nat} {n er : Int} (h : (dZ m u n = true ∧ sa = oQ m u n.toNat ∧ er = 0) ∨ (dZ m u n = false ∧ er = 1)) (h0 : er = 0) : ep sa s = nh m u s n := by
 rcases h with ⟨h1, rfl, _⟩ | ⟨_, h2⟩
 ·exact PA h1
 ·omega
theorem FG {m u s sa : Nat} {n er : Int} (h : (dZ m u n = true ∧ sa = oQ m u n.toNat ∧ er = 0) ∨ (dZ m u n = false ∧ er = 1)) (h0 : ¬ er = 0) : false = nh m u s n := by
 rcases h with ⟨_, _, h2⟩ | ⟨h1, _⟩
 ·exact absurd h2 h0
 ·exact Jh h1
theorem J6 {m u m2 u2 : Nat} (h : (m : Int) < (m2 : Int)) : true = wj ⟨m, u⟩ ⟨m2, u2⟩ := (kB.2 (.inl (by simp only; omega))).symm
theorem Hz {m u m2 u2 : Nat} (_h : ¬ (m : Int) < (m2 : Int)) (h2 : (m : Int) = (m2 : Int)) : decide ((u : Int) < (u2 : Int)) = wj ⟨m, u⟩ ⟨m2, u2⟩ := by
 rw [Bool.eq_iff_iff, kB, decide_eq_true_eq]
 simp only
 omega
theorem Ko {m u m2 u2 : Nat} (h : ¬ (m : Int) < (m2 : Int)) (h2 : ¬ (m : Int) = (m2 : Int)) : false = wj ⟨m, u⟩ ⟨m2, u2⟩ := by
 symm
 refine Bool.eq_false_iff.2 fun h3 => ?_
 rw [kB] at h3
 simp only at h3
 omega
theorem HD {l : List Cb} {c : Cb} {i : Nat} (hi : 0 < i) (h : (!wj (l.getD ((i : Int) - 1).toNat ⟨0, 0⟩) c) = true) : nf l c i = nf l c (i - 1) := by
 obtain ⟨j, rfl⟩ : ∃ j, i = j + 1 := ⟨i - 1, by omega⟩
 have e : ((j + 1 : Nat) : Int) - 1 = (j : Int) := by omega
 rw [e, Int.toNat_natCast] at h
 simp only [nf]
 rw [if_neg (by simpa using h)]
 rfl
theorem F6 {l : List Cb} {c : Cb} {i : Nat} (h : i = 0 ∨ (!wj (l.getD ((i : Int) - 1).toNat ⟨0, 0⟩) c) = false) : nf l c i = i := by
 rcases h with rfl | h
 ·rfl
 ·cases i with
  | zero => rfl
  | succ j =>
   have e : ((j + 1 : Nat) : Int) - 1 = (j : Int) := by omega
   rw [e, Int.toNat_natCast] at h
   simp only [nf]
   rw [if_pos (by simpa using h)]
theorem qx {sz : Nat} {v : Value} {h : Nat} {α : Type} {l : List α} (e : ((l.drop 0).take (h - 0)).length = h - 0) : jf (gg sz v 0 h h) = ((l.drop 0).take (h - 0)).length := e.symm
def iR (c : Cb) (i : Nat) : Cb := ⟨jr c.m (i : Int), c.v &&& jr c.m (i : Int)⟩
def Fi (c : Cb) (i : Nat) : Cb := ⟨c.m, c.v ^^^ 2 ^ i⟩
def imp (s : Nat) (n : Int) (c : Cb) : Prop := nh c.m c.v s n = true
theorem gn {s : Nat} {n : Int} {c : Cb} : imp s n c ↔ dZ c.m c.v n = true ∧ ∀ p, p < 2 ^ n.toNat → p &&& c.m = c.v → s.testBit p = true := by
 unfold imp nh
 rw [Bool.and_eq_true]
 constructor
 ·rintro ⟨h1, h2⟩
  obtain ⟨h0, h8, hm, hv⟩ := dV.1 h1
  refine ⟨h1, fun p hp hpm => ?_⟩
  have := eT h8
  exact ea.1 h2 p (by omega) (by rw [iV (by omega)]; simp [hp, hpm])
 ·rintro ⟨h1, h2⟩
  obtain ⟨h0, h8, hm, hv⟩ := dV.1 h1
  refine ⟨h1, ea.2 fun p _ hp => ?_⟩
  rw [iV (by omega)] at hp
  simp at hp
  exact h2 p hp.1 hp.2
theorem eM {m v : Nat} (h : v &&& m = v) (j : Nat) : v.testBit j = (v.testBit j && m.testBit j) := by
 conv => lhs; rw [← h, Nat.testBit_and]
theorem yQ {m v i p : Nat} (hi : i < 8) (hb : m.testBit i = true) (hv : v &&& m = v) : p &&& jr m (i : Int) = v &&& jr m (i : Int) ↔ (p &&& m = v ∨ p &&& m = v ^^^ 2 ^ i) := by
 have hw := fun j => eN (m := m) hi j
 have hvb := eM hv
 constructor
 ·intro h
  have hj : ∀ j, j ≠ i → (p.testBit j && m.testBit j) = (v.testBit j && m.testBit j) := fun j hj => by
   have := congrArg (fun x => x.testBit j) h
   simp only [Nat.testBit_and, hw, decide_eq_true hj, Bool.and_true] at this
   exact this
  by_cases e : p.testBit i = v.testBit i
  ·left
   refine Nat.eq_of_testBit_eq fun j => ?_
   rw [Nat.testBit_and, hvb j]
   by_cases hji : j = i
   ·subst hji; rw [e]
   ·exact hj j hji
  ·right
   refine Nat.eq_of_testBit_eq fun j => ?_
   rw [Nat.testBit_and, Nat.testBit_xor, Nat.testBit_two_pow]
   by_cases hji : j = i
   ·subst hji
    rw [hb]
    cases hp : p.testBit j <;> cases hq : v.testBit j <;> simp_all
   ·have : ¬ i = j := fun h => hji h.symm
    rw [hj j hji, ← hvb j]
    simp [this]
 ·rintro (h | h)
  ·refine Nat.eq_of_testBit_eq fun j => ?_
   have := congrArg (fun x => x.testBit j) h
   simp only [Nat.testBit_and] at this
   rw [Nat.testBit_and, Nat.testBit_and, hw, ← Bool.and_assoc, this, ← Bool.and_assoc, ← hvb j]
  ·refine Nat.eq_of_testBit_eq fun j => ?_
   have := congrArg (fun x => x.testBit j) h
   simp only [Nat.testBit_and, Nat.testBit_xor, Nat.testBit_two_pow] at this
   rw [Nat.testBit_and, Nat.testBit_and, hw, ← Bool.and_assoc, this, ← Bool.and_assoc, ← hvb j]
   by_cases hji : j = i
   ·subst hji; simp
   ·have : ¬ i = j := fun h => hji h.symm
    simp [this]
theorem wb {m v i : Nat} {n : Int} (h : dZ m v n = true) : dZ (jr m (i : Int)) (v &&& jr m (i : Int)) n = true := by
 obtain ⟨h0, h8, hm, hv⟩ := dV.1 h
 have := vB m (i : Int)
 exact dV.2 ⟨h0, h8, by omega, by rw [Nat.and_assoc, Nat.and_self]⟩
theorem DD {m v i : Nat} {n : Int} (h : dZ m v n = true) (hb : m.testBit i = true) : dZ m (v ^^^ 2 ^ i) n = true := by
 obtain ⟨h0, h8, hm, hv⟩ := dV.1 h
 refine dV.2 ⟨h0, h8, hm, Nat.eq_of_testBit_eq fun j => ?_⟩
 have hvb := eM hv j
 rw [Nat.testBit_and, Nat.testBit_xor, Nat.testBit_two_pow]
 by_cases hji : i = j
 ·subst hji; simp [hb]
 ·simp only [hji, decide_false, Bool.xor_false]
  exact hvb.symm
theorem AA {s i : Nat} {n : Int} {c : Cb} (hr : dZ c.m c.v n = true) (hi : i < n.toNat) (hb : c.m.testBit i = true) : imp s n (iR c i) ↔ imp s n c ∧ imp s n (Fi c i) := by
 obtain ⟨h0, h8, hm, hv⟩ := dV.1 hr
 have hw := fun p => yQ (p := p) (i := i) (by omega) hb hv
 rw [gn, gn, gn]
 constructor
 ·rintro ⟨h1, h2⟩
  exact ⟨⟨hr, fun p hp hpm => h2 p hp ((hw p).2 (.inl hpm))⟩, ⟨DD hr hb, fun p hp hpm => h2 p hp ((hw p).2 (.inr hpm))⟩⟩
 ·rintro ⟨⟨_, h1⟩, ⟨_, h2⟩⟩
  refine ⟨wb hr, fun p hp hpm => ?_⟩
  rcases (hw p).1 hpm with h | h
  ·exact h1 p hp h
  ·exact h2 p hp h
def oA (m : Nat) : Nat → Nat
 | 0 => 0
 | k + 1 => oA m k + if m.testBit k = true then 1 else 0
theorem vJ (m : Nat) : ∀ k, oA m k ≤ k
 | 0 => Nat.le_refl _
 | k + 1 => by
  have := vJ m k
  simp only [oA]
  split <;> omega
theorem Bz {m i : Nat} (hi : i < 8) (hb : m.testBit i = true) : ∀ k, oA (jr m (i : Int)) k + (if i < k then 1 else 0) = oA m k
 | 0 => by simp [oA]
 | k + 1 => by
  have ih := Bz hi hb k
  simp only [oA, eN hi]
  by_cases e : k = i
  ·subst e
   rw [if_neg (Nat.lt_irrefl _)] at ih
   simp [hb, ← ih]
  ·rw [decide_eq_true e, Bool.and_true]
   by_cases h2 : i < k
   ·rw [if_pos h2] at ih
    simp only [show i < k + 1 from by omega, if_true]
    omega
   ·rw [if_neg h2] at ih
    simp only [show ¬ i < k + 1 from by omega, if_false]
    omega
theorem yI {m : Nat} : ∀ k, oA m k = k → ∀ i, i < k → m.testBit i = true
 | 0, _, i, hi => absurd hi (Nat.not_lt_zero _)
 | k + 1, h, i, hi => by
  have := vJ m k
  simp only [oA] at h
  split at h
  ·rename_i hk
   rcases Nat.lt_succ_iff_lt_or_eq.1 hi with h2 | rfl
   ·exact yI k (by omega) i h2
   ·exact hk
  ·omega
theorem rB {m : Nat} : ∀ k, (∀ i, i < k → m.testBit i = true) → oA m k = k
 | 0, _ => rfl
 | k + 1, h => by
  have := rB k (fun i hi => h i (by omega))
  simp only [oA, this, h k (Nat.lt_succ_self _), if_true]
theorem GE {m k : Nat} (h : oA m k < k) : ∃ i, i < k ∧ m.testBit i = false := by
 refine Decidable.byContradiction fun hn => ?_
 have := rB (m := m) k (fun i hi => by
  refine Decidable.byContradiction fun h2 => hn ⟨i, hi, by simpa using h2⟩)
 omega
def rk (n : Int) (c : Cb) : Nat := oA c.m n.toNat
theorem I7 {n : Int} {c : Cb} {i : Nat} (h8 : n ≤ 8) (hi : i < n.toNat) (hb : c.m.testBit i = true) : rk n (iR c i) + 1 = rk n c := by
 have h := Bz (m := c.m) (i := i) (by omega) hb n.toNat
 rwa [if_pos hi] at h
theorem yR {s : Nat} {n : Int} {d : Cb} (h : imp s n d) (hc : rk n d < n.toNat) : ∃ c i, i < n.toNat ∧ c.m.testBit i = true ∧ imp s n c ∧ imp s n (Fi c i) ∧ d = iR c i ∧ rk n c = rk n d + 1 := by
 obtain ⟨i, hi, hb⟩ := GE hc
 have hr := (gn.1 h).1
 obtain ⟨h0, h8, hm, hv⟩ := dV.1 hr
 have hvb := eM hv
 have hi8 : i < 8 := by omega
 have hb2 : (d.m ||| 2 ^ i).testBit i = true := by simp
 have e1 : jr (d.m ||| 2 ^ i) (i : Int) = d.m := Nat.eq_of_testBit_eq fun j => by
  rw [eN hi8, Nat.testBit_or, Nat.testBit_two_pow]
  by_cases e : j = i
  ·subst e; simp [hb]
  ·have : ¬ i = j := fun h => e h.symm
   simp [this, e]
 have hrc : dZ (d.m ||| 2 ^ i) d.v n = true := by
  refine dV.2 ⟨h0, h8, Nat.or_lt_two_pow hm (Nat.pow_lt_pow_right (by decide) hi), Nat.eq_of_testBit_eq fun j => ?_⟩
  rw [Nat.testBit_and, Nat.testBit_or, hvb j]
  cases d.v.testBit j <;> cases d.m.testBit j <;> simp
 have hd : d = iR ⟨d.m ||| 2 ^ i, d.v⟩ i := by
  unfold iR
  simp only [e1, hv]
 have hw := (AA (s := s) (c := ⟨d.m ||| 2 ^ i, d.v⟩) hrc hi hb2).1 (hd ▸ h)
 refine ⟨⟨d.m ||| 2 ^ i, d.v⟩, i, hi, hb2, hw.1, hw.2, hd, ?_⟩
 have := I7 (c := ⟨d.m ||| 2 ^ i, d.v⟩) h8 hi hb2
 rw [← hd] at this
 exact this.symm
def jb (now : List Cb) (c : Cb) (i : Nat) : Prop := c.m.testBit i = true ∧ Fi c i ∈ now
def jG (now : List Cb) (n : Int) (seen : List Cb) (d : Cb) : Prop := ∃ c, c ∈ seen ∧ ∃ i, i < n.toNat ∧ jb now c i ∧ d = iR c i
def gt (now : List Cb) (n : Int) (seen : List Cb) (d : Cb) : Prop := d ∈ seen ∧ ∃ i, i < n.toNat ∧ jb now d i
def nT (s : Nat) (n : Int) (t : Nat) (now : List Cb) : Prop := ∀ c, c ∈ now ↔ imp s n c ∧ rk n c + 1 = t
section
variable {s t : Nat} {n : Int} {now : List Cb}
theorem I1 (c : Cb) (i : Nat) : rk n (Fi c i) = rk n c := rfl
theorem yw (h : nT s n t now) {c : Cb} (hc : c ∈ now) {i : Nat} (hi : i < n.toNat) : jb now c i ↔ jK c.m c.v s n i = true := by
 obtain ⟨h1, h2⟩ := (h c).1 hc
 have hr := (gn.1 h1).1
 unfold jb jK
 rw [Bool.and_eq_true]
 constructor
 ·rintro ⟨hb, hf⟩
  exact ⟨hb, (AA hr hi hb).2 ⟨h1, ((h _).1 hf).1⟩⟩
 ·rintro ⟨hb, hw⟩
  exact ⟨hb, (h _).2 ⟨((AA hr hi hb).1 hw).2, h2⟩⟩
theorem wl (h : nT s n t now) {c : Cb} (hc : c ∈ now) : gt now n now c ↔ gS c.m c.v s n = false := by
 have h1 := ((h c).1 hc).1
 rw [← Bool.not_eq_true, fR]
 constructor
 ·rintro ⟨_, i, hi, hp⟩ ⟨_, h3⟩
  have := h3 i hi
  rw [(yw h hc hi).1 hp] at this
  cases this
 ·intro h2
  refine ⟨hc, Classical.byContradiction fun hn => h2 ⟨h1, fun i hi => ?_⟩⟩
  refine Bool.eq_false_iff.2 fun hs => hn ⟨i, hi, (yw h hc hi).2 hs⟩
theorem DC (h8 : n ≤ 8) (h : nT s n (t + 1) now) (ht : t ≤ n.toNat) {nl : List Cb} (hn : ∀ d, d ∈ nl ↔ jG now n now d) : nT s n t nl := by
 intro d
 rw [hn]
 constructor
 ·rintro ⟨c, hc, i, hi, hp, rfl⟩
  obtain ⟨h1, h2⟩ := (h c).1 hc
  have hr := (gn.1 h1).1
  refine ⟨(AA hr hi hp.1).2 ⟨h1, ((h _).1 hp.2).1⟩, ?_⟩
  have := I7 (c := c) h8 hi hp.1
  omega
 ·rintro ⟨h1, h2⟩
  obtain ⟨c, i, hi, hb, hc, hf, hd, hcnt⟩ := yR h1 (by omega)
  exact ⟨c, (h c).2 ⟨hc, by omega⟩, i, hi, ⟨hb, (h _).2 ⟨hf, by rw [I1]; omega⟩⟩, hd⟩
def xF (s : Nat) (n : Int) (t : Nat) (out : List Cb) : Prop := ∀ c, c ∈ out ↔ gS c.m c.v s n = true ∧ t ≤ rk n c
theorem HW {out out2 ml : List Cb} (h : nT s n (t + 1) now) (ho : xF s n (t + 1) out) (hm : ∀ d, d ∈ ml ↔ gt now n now d) (h2 : ∀ c, c ∈ out2 ↔ c ∈ out ∨ (c ∈ now ∧ c ∉ ml)) : xF s n t out2 := by
 intro c
 rw [h2, ho, hm]
 constructor
 ·rintro (⟨h3, h4⟩ | ⟨h3, h4⟩)
  ·exact ⟨h3, by omega⟩
  ·rw [wl h h3, Bool.not_eq_false] at h4
   exact ⟨h4, by have := ((h c).1 h3).2; omega⟩
 ·rintro ⟨h3, h4⟩
  by_cases e : t + 1 ≤ rk n c
  ·exact .inl ⟨h3, e⟩
  ·have hc : c ∈ now := (h c).2 ⟨(fR.1 h3).1, by omega⟩
   exact .inr ⟨hc, by rw [wl h hc, Bool.not_eq_false]; exact h3⟩
theorem xC (ht : t ≤ n.toNat + 1) (h : nT s n t []) : ∀ (k : Nat) (c : Cb), imp s n c → rk n c + 1 + k = t → False
 | 0, c, hc, e => by have := (h c).2 ⟨hc, e⟩; simp at this
 | k + 1, c, hc, e => by
  obtain ⟨c', i, hi, hb, hc', hf, hd, hcnt⟩ := yR hc (by omega)
  exact xC ht h k c' hc' (by omega)
theorem M6 {out : List Cb} (ht : t ≤ n.toNat + 1) (h : nT s n t []) (ho : xF s n t out) (hr : i5 out) : out = eE s n := by
 refine xd hr (pA s n) fun c => ?_
 rw [ho, nG]
 constructor
 ·exact fun h => h.1
 ·intro hp
  refine ⟨hp, Decidable.byContradiction fun hlt => ?_⟩
  exact xC ht h (t - (rk n c + 1)) c (fR.1 hp).1 (by omega)
theorem JS : xF s n (n.toNat + 1) [] := by
 intro c
 constructor
 ·intro h; simp at h
 ·rintro ⟨_, h⟩
  have := vJ c.m n.toNat
  unfold rk at h
  omega
theorem CO (hs : uP s n = true) {ks : List Cb} (hk : ∀ c, c ∈ ks ↔ ∃ x ∈ eo s, c = ⟨2 ^ n.toNat - 1, x.toNat⟩) : nT s n (n.toNat + 1) ks := by
 unfold uP at hs
 simp only [Bool.and_eq_true, decide_eq_true_eq] at hs
 obtain ⟨h0, h8, hw⟩ := hs
 have hp8 := eT h8
 have hpt : ∀ p, p < 256 → s.testBit p = true → p < 2 ^ n.toNat := fun p hp h => by
  have := ea.1 hw p hp h
  rw [fY] at this
  simpa using this
 intro c
 rw [hk]
 constructor
 ·rintro ⟨x, hx, rfl⟩
  obtain ⟨p, hp, hb, rfl⟩ := jh.1 hx
  have hlt := hpt p hp hb
  have e : ∀ q, q < 2 ^ n.toNat → q &&& (2 ^ n.toNat - 1) = q := fun q hq => by rw [Nat.and_two_pow_sub_one_eq_mod, Nat.mod_eq_of_lt hq]
  refine ⟨gn.2 ⟨dV.2 ⟨h0, h8, by have := Nat.two_pow_pos n.toNat; simp only; omega, e p hlt⟩, fun q hq h => ?_⟩, ?_⟩
  ·simp only [Int.toNat_natCast] at h
   rw [e q hq] at h
   rw [h]; exact hb
  ·unfold rk
   rw [rB n.toNat (fun i hi => by rw [Nat.testBit_two_pow_sub_one]; simpa using hi)]
 ·rintro ⟨h1, h2⟩
  have h3 := gn.1 h1
  obtain ⟨_, _, hm, hv⟩ := dV.1 h3.1
  have hm2 : c.m = 2 ^ n.toNat - 1 := Nat.eq_of_testBit_eq fun j => by
   rw [Nat.testBit_two_pow_sub_one]
   by_cases hj : j < n.toNat
   ·rw [yI n.toNat (by unfold rk at h2; omega) j hj]; simp [hj]
   ·rw [Nat.testBit_lt_two_pow (Nat.lt_of_lt_of_le hm (Nat.pow_le_pow_right (by decide) (by omega)))]; simp [hj]
  have hlt := (js h3.1).2
  refine ⟨(c.v : Int), jh.2 ⟨c.v, by omega, h3.2 c.v hlt hv, rfl⟩, ?_⟩
  cases c
  simp only [Int.toNat_natCast, Cb.mk.injEq, and_true]
  exact hm2
end
theorem Bw {α : Type} [DecidableEq α] : ∀ {l l' : List α}, l.Nodup → (∀ a ∈ l, a ∈ l') → l.length ≤ l'.length
 | [], _, _, _ => by simp
 | a :: l, l', h, hs => by
  obtain ⟨h1, h2⟩ := List.nodup_cons.1 h
  have ha := hs a (by simp)
  have := Bw (l := l) (l' := l'.erase a) h2 (fun b hb => by
   have hne : b ≠ a := fun e => h1 (e ▸ hb)
   exact (List.mem_erase_of_ne hne).2 (hs b (by simp [hb])))
  rw [List.length_erase_of_mem ha] at this
  have := List.length_pos_of_mem ha
  simp only [List.length_cons]
  omega
theorem qJ {n : Int} {v : Value} (h : v = if 0 ≤ n ∧ n ≤ 8 then .tuple #[eP (ft n.toNat), .int .i64 0] else .tuple #[eP 0, .int .i64 1]) :
  ∃ (sa : Nat) (er : Int), v = .tuple #[eP sa, .int .i64 er] ∧ ((0 ≤ n ∧ n ≤ 8 ∧ sa = ft n.toNat ∧ er = 0) ∨ (¬ (0 ≤ n ∧ n ≤ 8) ∧ er = 1)) := by
 by_cases hr : 0 ≤ n ∧ n ≤ 8
 ·rw [if_pos hr] at h
  exact ⟨_, _, h, .inl ⟨hr.1, hr.2, rfl, rfl⟩⟩
 ·rw [if_neg hr] at h
  exact ⟨_, _, h, .inr ⟨hr, rfl⟩⟩
theorem E0 {s sa : Nat} {n er : Int} (h : (0 ≤ n ∧ n ≤ 8 ∧ sa = ft n.toNat ∧ er = 0) ∨ (¬ (0 ≤ n ∧ n ≤ 8) ∧ er = 1)) (h0 : ¬ er = 0) : ¬ uP s n = true := by
 rcases h with ⟨_, _, _, h2⟩ | ⟨h1, _⟩
 ·exact absurd h2 h0
 ·unfold uP
  simp only [Bool.and_eq_true, decide_eq_true_eq]
  exact fun h2 => h1 ⟨h2.1, h2.2.1⟩
theorem E4 {s sa : Nat} {n er : Int} (h : (0 ≤ n ∧ n ≤ 8 ∧ sa = ft n.toNat ∧ er = 0) ∨ (¬ (0 ≤ n ∧ n ≤ 8) ∧ er = 1)) (h0 : ¬ ¬ er = 0) (hw : (!ep s sa) = true) : ¬ uP s n = true := by
 rcases h with ⟨_, _, rfl, _⟩ | ⟨_, h2⟩
 ·unfold uP
  simp only [Bool.and_eq_true, decide_eq_true_eq]
  intro h2
  rw [h2.2.2] at hw
  cases hw
 ·omega
theorem KL {s sa : Nat} {n er : Int} (h : (0 ≤ n ∧ n ≤ 8 ∧ sa = ft n.toNat ∧ er = 0) ∨ (¬ (0 ≤ n ∧ n ≤ 8) ∧ er = 1)) (h0 : ¬ ¬ er = 0) (hw : (!ep s sa) = false) : uP s n = true := by
 rcases h with ⟨h1, h2, rfl, _⟩ | ⟨_, h2⟩
 ·unfold uP
  rw [decide_eq_true h1, decide_eq_true h2]
  simpa using hw
 ·omega
theorem ko {s : Nat} {n : Int} (h : uP s n = true) : 0 ≤ n ∧ n ≤ 8 := by
 unfold uP at h
 simp only [Bool.and_eq_true, decide_eq_true_eq] at h
 exact ⟨h.1, h.2.1⟩
theorem P3 {P : Program} {f : Nat → Value} {w : World} {d : Option Nat} {ty t t2 : TypeId} {ps : String} {af : Array Edge} {g : Option (Nat × Bool)} {x y : Operand} {n : Int}
  (hx : dQ f x = .int .u8 (IntKind.u8.wrap (1 * 2 ^ (min n.toNat IntKind.u8.bits)))) (hy : dQ f y = .int .u8 1) (h0 : 0 ≤ n) (h8 : n ≤ 8) :
  (execOp (dQ f) ⟨d, .binOp .sub t x y t2, ty, ps, af, g⟩).run P w = .ok (.value (.int .u8 ((2 ^ n.toNat - 1 : Nat) : Int))) w := by
 rw [NB hx hy]
 have : ∀ k : Nat, k ≤ 8 → IntKind.u8.wrap (IntKind.u8.wrap (1 * 2 ^ (min k IntKind.u8.bits)) - 1) = ((2 ^ k - 1 : Nat) : Int) := fun k hk => by
  have : k = 0 ∨ k = 1 ∨ k = 2 ∨ k = 3 ∨ k = 4 ∨ k = 5 ∨ k = 6 ∨ k = 7 ∨ k = 8 := by omega
  rcases this with rfl | rfl | rfl | rfl | rfl | rfl | rfl | rfl | rfl <;> decide
 rw [this n.toNat (by omega)]
theorem Gy {M k p : Nat} {l : List Int} {ks : List Cb} (h : ∀ c, c ∈ ks ↔ ∃ j, j < k ∧ c = ⟨M, (l.getD j 0).toNat⟩) (hp : l.getD k 0 = (p : Int)) : ∀ c, c ∈ iJ ks ⟨M, p⟩ ↔ ∃ j, j < k + 1 ∧ c = ⟨M, (l.getD j 0).toNat⟩ := by
 intro c
 rw [gv, h]
 constructor
 ·rintro (⟨j, hj, rfl⟩ | rfl)
  ·exact ⟨j, by omega, rfl⟩
  ·exact ⟨k, by omega, by rw [hp, Int.toNat_natCast]⟩
 ·rintro ⟨j, hj, rfl⟩
  rcases Nat.lt_succ_iff_lt_or_eq.1 hj with hj | rfl
  ·exact .inl ⟨j, hj, rfl⟩
  ·exact .inr (by rw [hp, Int.toNat_natCast])
theorem Iz {M k : Nat} {l : List Int} {ks : List Cb} (h : ∀ c, c ∈ ks ↔ ∃ j, j < k ∧ c = ⟨M, (l.getD j 0).toNat⟩) (hk : k = l.length) : ∀ c, c ∈ ks ↔ ∃ x ∈ l, c = ⟨M, x.toNat⟩ := by
 intro c
 rw [h]
 constructor
 ·rintro ⟨j, hj, rfl⟩
  exact ⟨_, dU (by omega), rfl⟩
 ·rintro ⟨x, hx, rfl⟩
  obtain ⟨j, hj, rfl⟩ := List.mem_iff_getElem.1 hx
  exact ⟨j, by omega, by simp [hj]⟩
section
variable {s t : Nat} {n : Int} {now seen nl ml out : List Cb}
theorem BE {α : Type} (l : List α) : (fF l).length = l.length := by simp [fF]
theorem Bi {α : Type} {l : List α} {k : α} {v : Bool} (h : (k, v) ∈ fF l) : k ∈ l ∧ v = true := by
 unfold fF at h
 obtain ⟨a, ha, e⟩ := List.mem_map.1 h
 cases e
 exact ⟨ha, rfl⟩
theorem GK (h : nT s n t now) (h0 : (0 : Int) < ((fF now).length : Int)) : ∃ t', t = t' + 1 := by
 rw [BE] at h0
 obtain ⟨c, hc⟩ := List.exists_mem_of_length_pos (l := now) (by omega)
 exact ⟨_, ((h c).1 hc).2.symm⟩
theorem Em {l : List Cb} (h0 : ¬ (0 : Int) < ((fF l).length : Int)) : l = [] := by
 rw [BE] at h0
 exact List.eq_nil_of_length_eq_zero (by omega)
theorem xh (h : nT s n t now) (h8 : n ≤ 8) {c : Cb} (hc : c ∈ now) : c.m < 256 ∧ c.v < 256 := by
 have h1 := js (gn.1 ((h c).1 hc).1).1
 have := eT h8
 omega
theorem En : ∀ d, d ∈ ([] : List Cb) ↔ jG now n [] d := fun d => by simp [jG]
theorem zH : ∀ d, d ∈ ([] : List Cb) ↔ gt now n [] d := fun d => by simp [gt]
theorem Hk {kk : Cb} (h : ∀ d, d ∈ nl ↔ jG now n seen d) : ∀ d, d ∈ nl ↔ jG now n seen d ∨ ∃ q, q < 0 ∧ jb now kk q ∧ d = iR kk q := fun d => by rw [h]; simp
theorem AU {kk : Cb} (h : ∀ d, d ∈ ml ↔ gt now n seen d) : ∀ d, d ∈ ml ↔ gt now n seen d ∨ (d = kk ∧ ∃ q, q < 0 ∧ jb now kk q) := fun d => by rw [h]; simp
theorem JN {kk : Cb} {i : Nat} (h : ∀ d, d ∈ nl ↔ jG now n seen d ∨ ∃ q, q < i ∧ jb now kk q ∧ d = iR kk q) (hp : jb now kk i) :
  ∀ d, d ∈ iJ nl (iR kk i) ↔ jG now n seen d ∨ ∃ q, q < i + 1 ∧ jb now kk q ∧ d = iR kk q := fun d => by
 rw [gv, h]
 constructor
 ·rintro ((h1 | ⟨q, h1, h2, h3⟩) | h1)
  ·exact .inl h1
  ·exact .inr ⟨q, by omega, h2, h3⟩
  ·exact .inr ⟨i, by omega, hp, h1⟩
 ·rintro (h1 | ⟨q, h1, h2, h3⟩)
  ·exact .inl (.inl h1)
  ·rcases Nat.lt_succ_iff_lt_or_eq.1 h1 with h1 | rfl
   ·exact .inl (.inr ⟨q, h1, h2, h3⟩)
   ·exact .inr h3
theorem yH {kk : Cb} {i : Nat} (h : ∀ d, d ∈ nl ↔ jG now n seen d ∨ ∃ q, q < i ∧ jb now kk q ∧ d = iR kk q) (hp : ¬ jb now kk i) :
  ∀ d, d ∈ nl ↔ jG now n seen d ∨ ∃ q, q < i + 1 ∧ jb now kk q ∧ d = iR kk q := fun d => by
 rw [h]
 constructor
 ·rintro (h1 | ⟨q, h1, h2, h3⟩)
  ·exact .inl h1
  ·exact .inr ⟨q, by omega, h2, h3⟩
 ·rintro (h1 | ⟨q, h1, h2, h3⟩)
  ·exact .inl h1
  ·rcases Nat.lt_succ_iff_lt_or_eq.1 h1 with h1 | rfl
   ·exact .inr ⟨q, h1, h2, h3⟩
   ·exact absurd h2 hp
theorem DS {kk : Cb} {i : Nat} (h : ∀ d, d ∈ ml ↔ gt now n seen d ∨ (d = kk ∧ ∃ q, q < i ∧ jb now kk q)) (hp : jb now kk i) :
  ∀ d, d ∈ iJ ml kk ↔ gt now n seen d ∨ (d = kk ∧ ∃ q, q < i + 1 ∧ jb now kk q) := fun d => by
 rw [gv, h]
 constructor
 ·rintro ((h1 | ⟨h1, q, h2, h3⟩) | h1)
  ·exact .inl h1
  ·exact .inr ⟨h1, q, by omega, h3⟩
  ·exact .inr ⟨h1, i, by omega, hp⟩
 ·rintro (h1 | ⟨h1, q, h2, h3⟩)
  ·exact .inl (.inl h1)
  ·exact .inr h1
theorem uf {kk : Cb} {i : Nat} (h : ∀ d, d ∈ ml ↔ gt now n seen d ∨ (d = kk ∧ ∃ q, q < i ∧ jb now kk q)) (hp : ¬ jb now kk i) :
  ∀ d, d ∈ ml ↔ gt now n seen d ∨ (d = kk ∧ ∃ q, q < i + 1 ∧ jb now kk q) := fun d => by
 rw [h]
 constructor
 ·rintro (h1 | ⟨h1, q, h2, h3⟩)
  ·exact .inl h1
  ·exact .inr ⟨h1, q, by omega, h3⟩
 ·rintro (h1 | ⟨h1, q, h2, h3⟩)
  ·exact .inl h1
  ·rcases Nat.lt_succ_iff_lt_or_eq.1 h2 with h2 | rfl
   ·exact .inr ⟨h1, q, h2, h3⟩
   ·exact absurd h3 hp
theorem Im {kk : Cb} {i : Nat} (h : ∀ d, d ∈ nl ↔ jG now n seen d ∨ ∃ q, q < i ∧ jb now kk q ∧ d = iR kk q) (hi : i = n.toNat) : ∀ d, d ∈ nl ↔ jG now n (kk :: seen) d := fun d => by
 subst hi
 rw [h]
 unfold jG
 constructor
 ·rintro (⟨c, hc, r⟩ | ⟨q, h1, h2, h3⟩)
  ·exact ⟨c, List.mem_cons_of_mem _ hc, r⟩
  ·exact ⟨kk, List.mem_cons_self, q, h1, h2, h3⟩
 ·rintro ⟨c, hc, i, hi, r⟩
  rcases List.mem_cons.1 hc with rfl | hc
  ·exact .inr ⟨i, hi, r⟩
  ·exact .inl ⟨c, hc, i, hi, r⟩
theorem C3 {kk : Cb} {i : Nat} (h : ∀ d, d ∈ ml ↔ gt now n seen d ∨ (d = kk ∧ ∃ q, q < i ∧ jb now kk q)) (hi : i = n.toNat) : ∀ d, d ∈ ml ↔ gt now n (kk :: seen) d := fun d => by
 subst hi
 rw [h]
 unfold gt
 constructor
 ·rintro (⟨h1, r⟩ | ⟨rfl, r⟩)
  ·exact ⟨List.mem_cons_of_mem _ h1, r⟩
  ·exact ⟨List.mem_cons_self, r⟩
 ·rintro ⟨h1, r⟩
  rcases List.mem_cons.1 h1 with rfl | h1
  ·exact .inr ⟨rfl, r⟩
  ·exact .inl ⟨h1, r⟩
theorem yG {m v i : Nat} (h1 : ((m / 2 ^ ((i : Nat) : Int).toNat &&& 1 : Nat) : Int) = 1) (h2 : (ic (fF now) ⟨m, v ^^^ 1 * 2 ^ ((i : Nat) : Int).toNat⟩).getD false = true) : jb now ⟨m, v⟩ i := by
 rw [Int.toNat_natCast] at h1 h2
 rw [lI, decide_eq_true_eq, Nat.one_mul] at h2
 exact ⟨lr.1 h1, h2⟩
theorem yz {m v i : Nat} (h1 : ¬ ((m / 2 ^ ((i : Nat) : Int).toNat &&& 1 : Nat) : Int) = 1) : ¬ jb now ⟨m, v⟩ i := by
 rw [Int.toNat_natCast] at h1
 exact fun h => h1 (lr.2 h.1)
theorem yq {m v i : Nat} (h2 : (ic (fF now) ⟨m, v ^^^ 1 * 2 ^ ((i : Nat) : Int).toNat⟩).getD false = false) : ¬ jb now ⟨m, v⟩ i := by
 rw [Int.toNat_natCast] at h2
 rw [lI, decide_eq_false_iff_not, Nat.one_mul] at h2
 exact fun h => h2 h.2
theorem Hg (h : ∀ d, d ∈ nl ↔ jG now n seen d) (hs : ∀ c, c ∈ seen ↔ c ∈ now) : ∀ d, d ∈ nl ↔ jG now n now d := fun d => by
 rw [h]; unfold jG; simp only [hs]
theorem Bf (h : ∀ d, d ∈ ml ↔ gt now n seen d) (hs : ∀ c, c ∈ seen ↔ c ∈ now) : ∀ d, d ∈ ml ↔ gt now n now d := fun d => by
 rw [h]; unfold gt; simp only [hs]
theorem AZ {w : World} {it b : Nat} (h : eL iN Value.bool w it b (fF now) seen) : ∀ c ∈ seen, c ∈ now := fun c hc => by
 have := h.sub c hc
 rwa [ya] at this
theorem CB {w : World} {it b : Nat} (h : eL iN Value.bool w it b (fF now) seen) (hd : ∀ p ∈ fF now, p.1 ∈ seen) : ∀ c, c ∈ seen ↔ c ∈ now := fun c =>
 ⟨AZ h c, fun hc => hd (c, true) (List.mem_map.2 ⟨c, hc, rfl⟩)⟩
theorem eL.len_le {α β : Type} [DecidableEq α] {enc : α → Value} {encV : β → Value} {w : World} {it b : Nat} {l : List (α × β)} {seen : List α} (h : eL enc encV w it b l seen) : seen.length ≤ l.length := by
 have := Bw h.nodup h.sub
 simpa using this
theorem OU : ∀ c, c ∈ out ↔ c ∈ out ∨ (c ∈ ([] : List Cb) ∧ c ∉ ml) := fun c => by simp
theorem Mc {out2 : List Cb} {kk : Cb} (h : ∀ c, c ∈ out2 ↔ c ∈ out ∨ (c ∈ seen ∧ c ∉ ml)) (hk : kk ∉ ml) : ∀ c, c ∈ Aq out2 kk ↔ c ∈ out ∨ (c ∈ kk :: seen ∧ c ∉ ml) := fun c => by
 rw [Ic, h, List.mem_cons]
 constructor
 ·rintro (rfl | h1 | ⟨h1, h2⟩)
  ·exact .inr ⟨.inl rfl, hk⟩
  ·exact .inl h1
  ·exact .inr ⟨.inr h1, h2⟩
 ·rintro (h1 | ⟨rfl | h1, h2⟩)
  ·exact .inr (.inl h1)
  ·exact .inl rfl
  ·exact .inr (.inr ⟨h1, h2⟩)
theorem MG {out2 : List Cb} {kk : Cb} (h : ∀ c, c ∈ out2 ↔ c ∈ out ∨ (c ∈ seen ∧ c ∉ ml)) (hk : kk ∈ ml) : ∀ c, c ∈ out2 ↔ c ∈ out ∨ (c ∈ kk :: seen ∧ c ∉ ml) := fun c => by
 rw [h, List.mem_cons]
 constructor
 ·rintro (h1 | ⟨h1, h2⟩)
  ·exact .inl h1
  ·exact .inr ⟨.inr h1, h2⟩
 ·rintro (h1 | ⟨rfl | h1, h2⟩)
  ·exact .inl h1
  ·exact absurd hk h2
  ·exact .inr ⟨h1, h2⟩
theorem Lm {out2 : List Cb} (h : ∀ c, c ∈ out2 ↔ c ∈ out ∨ (c ∈ seen ∧ c ∉ ml)) (hs : ∀ c, c ∈ seen ↔ c ∈ now) : ∀ c, c ∈ out2 ↔ c ∈ out ∨ (c ∈ now ∧ c ∉ ml) := fun c => by rw [h, hs]
theorem Qd {out2 : List Cb} {kk : Cb} (hL : nT s n (t + 1) now) (hO : xF s n (t + 1) out) (h : ∀ c, c ∈ out2 ↔ c ∈ out ∨ (c ∈ seen ∧ c ∉ ml)) (hk : kk ∈ now) (hs : kk ∉ seen) : kk ∉ out2 := fun hm => by
 rcases (h kk).1 hm with h1 | h1
 ·have h2 := ((hO kk).1 h1).2
  have h3 := ((hL kk).1 hk).2
  omega
 ·exact hs h1.1
theorem Ip {out2 : List Cb} (hL : nT s n (t + 1) now) (h8 : n ≤ 8) (hO : xF s n (t + 1) out) (h : ∀ c, c ∈ out2 ↔ c ∈ out ∨ (c ∈ seen ∧ c ∉ ml)) (hs : ∀ c ∈ seen, c ∈ now) (hR : i5 out2) : out2.length ≤ 65536 :=
 z4 hR fun c hc => by
  rcases (h c).1 hc with h1 | h1
  ·have h2 := js (km ((hO c).1 h1).1)
   have := eT h8
   omega
  ·exact xh hL h8 (hs c h1.1)
theorem D7 {kk : Cb} (h : (!(ic (fF ml) ⟨kk.m, kk.v⟩).getD false) = true) : kk ∉ ml := by
 rw [lI] at h
 simpa using h
theorem Cc {kk : Cb} (h : (!(ic (fF ml) ⟨kk.m, kk.v⟩).getD false) = false) : kk ∈ ml := by
 rw [lI] at h
 simpa using h
end
theorem Mj {s : Nat} {n : Int} {v : Value} {w' : World} {N : Nat} {T : TypeId} (h : if uP s n = true then ∃ x, v = .tuple #[x, .int .i64 0] ∧ dh ib 2 T w' N x (eE s n) else v = .tuple #[.slice none 0 0, .int .i64 1]) :
  ∃ (x : Value) (er : Int) (l : List Cb), v = .tuple #[x, .int .i64 er] ∧ dh ib 2 T w' N x l ∧ ((uP s n = true ∧ er = 0 ∧ l = eE s n) ∨ (uP s n = false ∧ er = 1 ∧ l = [])) := by
 by_cases ho : uP s n = true
 ·rw [if_pos ho] at h
  obtain ⟨x, h1, h2⟩ := h
  exact ⟨x, 0, _, h1, h2, .inl ⟨ho, rfl, rfl⟩⟩
 ·rw [if_neg ho] at h
  exact ⟨_, 1, [], h, dh.nil, .inr ⟨by simpa using ho, rfl, rfl⟩⟩
theorem um {s : Nat} {n : Int} (h : n ≤ 8) : (eE s n).length ≤ 65536 := by
 have h1 := uc s n (2 ^ n.toNat)
 have h2 := eT h
 have h3 : 2 ^ n.toNat * 2 ^ n.toNat ≤ 256 * 256 := Nat.mul_le_mul h2 h2
 unfold eE
 omega
end
section
open Go Go.RowKit
theorem ke {a b : Cb} : iH a b = true ↔ ∀ j, a.m.testBit j = true → b.m.testBit j = true ∧ a.v.testBit j = b.v.testBit j := by
 unfold iH
 rw [Bool.and_eq_true, decide_eq_true_eq, decide_eq_true_eq]
 constructor
 ·rintro ⟨h1, h2⟩ j hj
  have e1 := congrArg (fun x => x.testBit j) h1
  have e2 := congrArg (fun x => x.testBit j) h2
  simp only [ey, Nat.testBit_and, Nat.testBit_xor, Nat.zero_testBit, hj, Bool.true_and, Bool.and_true] at e1 e2
  exact ⟨by simpa using e1, by simpa using e2⟩
 ·intro h
  constructor
  ·refine Nat.eq_of_testBit_eq fun j => ?_
   rw [ey, Nat.zero_testBit]
   cases hj : a.m.testBit j with
   | false => rfl
   | true => rw [(h j hj).1]; rfl
  ·refine Nat.eq_of_testBit_eq fun j => ?_
   rw [Nat.testBit_and, Nat.testBit_xor, Nat.zero_testBit]
   cases hj : a.m.testBit j with
   | false => simp
   | true => rw [(h j hj).2]; simp
theorem w9 (a : Cb) : iH a a = true := ke.2 fun _ h => ⟨h, rfl⟩
theorem CI {a b c : Cb} (h : iH a b = true) (k : iH b c = true) : iH a c = true := by
 rw [ke] at *
 exact fun j hj => ⟨(k j (h j hj).1).1, (h j hj).2.trans (k j (h j hj).1).2⟩
theorem BT {c : Cb} {i : Nat} (hi : i < 8) : iH (iR c i) c = true := ke.2 fun j hj => by
 have hj' : (jr c.m (i : Int)).testBit j = true := hj
 have hv : (iR c i).v.testBit j = (c.v &&& jr c.m (i : Int)).testBit j := rfl
 rw [eN hi, Bool.and_eq_true] at hj'
 refine ⟨hj'.1, ?_⟩
 rw [hv, Nat.testBit_and, eN hi, hj'.1, hj'.2]
 simp
theorem lD {a b : Cb} {p : Nat} (ha : a.v &&& a.m = a.v) (h : iH a b = true) (hp : p &&& b.m = b.v) : p &&& a.m = a.v := by
 rw [ke] at h
 refine Nat.eq_of_testBit_eq fun j => ?_
 have e := congrArg (fun x => x.testBit j) hp
 simp only [Nat.testBit_and] at e
 rw [Nat.testBit_and, eM ha j]
 cases hj : a.m.testBit j with
 | false => simp
 | true =>
  obtain ⟨h1, h2⟩ := h j hj
  rw [h2, ← e, h1]
  simp
def kW (l : List Cb) (n : Nat) : Nat → Nat
 | 0 => 0
 | k + 1 => kW l n k ||| oQ (l.getD k ⟨0, 0⟩).m (l.getD k ⟨0, 0⟩).v n
theorem sT {l : List Cb} {n : Nat} (hn : n ≤ 8) (p : Nat) : ∀ k, (kW l n k).testBit p = true ↔ ∃ j, j < k ∧ p < 2 ^ n ∧ p &&& (l.getD j ⟨0, 0⟩).m = (l.getD j ⟨0, 0⟩).v
 | 0 => by simp [kW]
 | k + 1 => by
  simp only [kW, Nat.testBit_or, Bool.or_eq_true, sT hn p k, iV hn, Bool.and_eq_true, decide_eq_true_eq]
  constructor
  ·rintro (⟨j, hj, h⟩ | h)
   ·exact ⟨j, by omega, h⟩
   ·exact ⟨k, by omega, h⟩
  ·rintro ⟨j, hj, h⟩
   rcases Nat.lt_succ_iff_lt_or_eq.1 hj with hj | rfl
   ·exact .inl ⟨j, hj, h⟩
   ·exact .inr h
theorem fh {α : Type} {l : List α} {a d : α} (h : a ∈ l) : ∃ j, j < l.length ∧ l.getD j d = a := by
 obtain ⟨j, hj, rfl⟩ := List.mem_iff_getElem.1 h
 exact ⟨j, hj, by simp [hj]⟩
theorem IB {s : Nat} {n : Int} {i : Nat} (h : i < (eE s n).length) : gS ((eE s n).getD i ⟨0, 0⟩).m ((eE s n).getD i ⟨0, 0⟩).v s n = true := nG.1 (dU h)
end
section
open Go Go.RowKit
def rm (p i : Nat) (one : Bool) : Nat := if p.testBit i = one then p else p ^^^ 2 ^ i
theorem nA (p i j : Nat) : (p ^^^ 2 ^ i).testBit j = if j = i then !p.testBit j else p.testBit j := by
 rw [Nat.testBit_xor, Nat.testBit_two_pow]
 by_cases e : i = j
 ·subst e; simp
 ·have : ¬ j = i := fun h => e h.symm
  simp [e, this]
theorem iS (p i j : Nat) (one : Bool) : (rm p i one).testBit j = if j = i then one else p.testBit j := by
 unfold rm
 split
 ·rename_i h
  split
  ·rename_i e; subst e; exact h
  ·rfl
 ·rename_i h
  rw [nA]
  split
  ·rename_i e; subst e; cases hp : p.testBit j <;> cases one <;> simp_all
  ·rfl
theorem kO {p i : Nat} {one : Bool} (h : p.testBit i = one) : rm p i one = p := if_pos h
theorem fZ {p n : Nat} : p < 2 ^ n ↔ ∀ j, n ≤ j → p.testBit j = false := by
 constructor
 ·intro h j hj
  exact Nat.testBit_lt_two_pow (Nat.lt_of_lt_of_le h (Nat.pow_le_pow_right (by decide) hj))
 ·exact Nat.lt_pow_two_of_testBit p
theorem kH {p i n : Nat} {one : Bool} (hi : i < n) : rm p i one < 2 ^ n ↔ p < 2 ^ n := by
 rw [fZ, fZ]
 constructor
 ·intro h j hj
  have := h j hj
  rwa [iS, if_neg (by omega)] at this
 ·intro h j hj
  rw [iS, if_neg (by omega)]
  exact h j hj
theorem zS {p i n : Nat} (hi : i < n) (h : p < 2 ^ n) : p ^^^ 2 ^ i < 2 ^ n := Nat.xor_lt_two_pow h (Nat.pow_lt_pow_right (by decide) hi)
theorem pH (p i j : Nat) (one : Bool) : rm (p ^^^ 2 ^ j) i one = if j = i then rm p i one else rm p i one ^^^ 2 ^ j := by
 refine Nat.eq_of_testBit_eq fun q => ?_
 split
 ·rename_i e
  subst e
  rw [iS, iS, nA]
  split <;> rfl
 ·rename_i e
  rw [iS, nA, nA, iS]
  by_cases h1 : q = i
  ·subst h1
   have : ¬ q = j := fun h => e h.symm
   simp [this]
  ·simp [h1]
theorem Bm (i : Nat) (h : i < 8) (p : Nat) (hp : p < 256) : p ^^^ 2 ^ i < 256 := zS (n := 8) h hp
theorem sm {l : List Int} {F : Nat → Int → Nat} {hit : Int → Nat → Prop} (hF : ∀ o p, p ∈ l → ∀ q, ((F o p).testBit q = true ↔ o.testBit q = true ∨ hit p q)) :
  ∀ (z q : Nat), ((l.foldl F z).testBit q = true ↔ z.testBit q = true ∨ ∃ p, p ∈ l ∧ hit p q) := by
 induction l with
 | nil => intro z q; simp
 | cons a l ih =>
  intro z q
  rw [List.foldl_cons, ih (fun o p hp => hF o p (List.mem_cons_of_mem _ hp)), hF z a (List.mem_cons_self ..)]
  constructor
  ·rintro ((h | h) | ⟨p, h1, h2⟩)
   ·exact .inl h
   ·exact .inr ⟨a, List.mem_cons_self .., h⟩
   ·exact .inr ⟨p, List.mem_cons_of_mem _ h1, h2⟩
  ·rintro (h | ⟨p, h1, h2⟩)
   ·exact .inl (.inl h)
   ·rcases List.mem_cons.1 h1 with rfl | h1
    ·exact .inl (.inr h2)
    ·exact .inr ⟨p, h1, h2⟩
theorem nQ {s i q : Nat} {one : Bool} : (pn s i one).testBit q = true ↔ q < 256 ∧ s.testBit q = true ∧ q.testBit i = one := by
 unfold pn
 rw [sm (hit := fun p q => p.toNat.testBit i = one ∧ q = p.toNat)]
 ·simp only [Nat.zero_testBit, Bool.false_eq_true, false_or]
  constructor
  ·rintro ⟨p, hp, h1, h2⟩
   obtain ⟨k, h3, h4, rfl⟩ := jh.1 hp
   rw [Int.toNat_natCast] at h1 h2
   subst h2
   exact ⟨h3, h4, h1⟩
  ·rintro ⟨h1, h2, h3⟩
   exact ⟨(q : Int), jh.2 ⟨q, h1, h2, rfl⟩, by simpa using h3, by simp⟩
 ·intro o p hp q
  obtain ⟨k, h3, h4, rfl⟩ := jh.1 hp
  have e : (decide ((k : Int).toNat / 2 ^ i % 2 = 1) == one) = true ↔ k.testBit i = one := by
   rw [Int.toNat_natCast, ← hU]
   cases k.testBit i <;> cases one <;> simp
  rw [Int.toNat_natCast] at e ⊢
  by_cases hk : k.testBit i = one
  ·rw [if_pos (e.2 hk), ls h3]
   simp [hk, or_comm]
  ·rw [if_neg (fun h => hk (e.1 h))]
   simp [hk]
def kb (l : List Int) (h i k : Nat) : Nat := (l.take k).foldl (fun o p => kZ o ((p.toNat ^^^ 2 ^ i : Nat) : Int)) h
def dq (s i : Nat) (one : Bool) : Nat := kb (eo (pn s i one)) (pn s i one) i (eo (pn s i one)).length
theorem uo {l : List Int} {h i k : Nat} (hk : k < l.length) : kb l h i (k + 1) = kZ (kb l h i k) (((l.getD k 0).toNat ^^^ 2 ^ i : Nat) : Int) := by
 unfold kb
 rw [List.take_succ_eq_append_getElem hk, List.foldl_append]
 simp [List.getD_eq_getElem?_getD, List.getElem?_eq_getElem hk]
theorem fV {s i p : Nat} {one : Bool} (hi : i < 8) : (dq s i one).testBit p = true ↔ p < 256 ∧ s.testBit (rm p i one) = true := by
 unfold dq kb
 rw [List.take_length, sm (hit := fun x q => q = x.toNat ^^^ 2 ^ i)]
 ·rw [nQ]
  constructor
  ·rintro (⟨h1, h2, h3⟩ | ⟨x, hx, rfl⟩)
   ·exact ⟨h1, by rw [kO h3]; exact h2⟩
   ·obtain ⟨k, h3, h4, rfl⟩ := jh.1 hx
    obtain ⟨_, h5, h6⟩ := nQ.1 h4
    rw [Int.toNat_natCast]
    exact ⟨Bm i hi k h3, by rw [pH, if_pos rfl, kO h6]; exact h5⟩
  ·rintro ⟨h1, h2⟩
   by_cases h3 : p.testBit i = one
   ·exact .inl ⟨h1, by rwa [kO h3] at h2, h3⟩
   ·refine .inr ⟨((p ^^^ 2 ^ i : Nat) : Int), jh.2 ⟨p ^^^ 2 ^ i, Bm i hi p h1, ?_, rfl⟩, ?_⟩
    ·have e : rm p i one = p ^^^ 2 ^ i := if_neg h3
     rw [e] at h2
     refine nQ.2 ⟨Bm i hi p h1, h2, ?_⟩
     rw [nA, if_pos rfl]
     cases hp : p.testBit i <;> cases one <;> simp_all
    ·rw [Int.toNat_natCast, Nat.xor_assoc, Nat.xor_self, Nat.xor_zero]
 ·intro o x hx q
  obtain ⟨k, h3, h4, rfl⟩ := jh.1 hx
  rw [Int.toNat_natCast, ls (Bm i hi k h3)]
  simp [or_comm]
theorem gy {s i p : Nat} {one : Bool} (hi : i < 8) (hp : p < 256) : (dq s i one).testBit p = s.testBit (rm p i one) := by
 rw [Bool.eq_iff_iff, fV hi]
 simp [hp]
def xJ (s t : Nat) : Bool := decide (wd s 0 = wd t 0 ∧ wd s 1 = wd t 1 ∧ wd s 2 = wd t 2 ∧ wd s 3 = wd t 3)
theorem qK {s t : Nat} : xJ s t = true ↔ ∀ p, p < 256 → s.testBit p = t.testBit p := by
 unfold xJ
 rw [decide_eq_true_eq]
 constructor
 ·rintro ⟨h0, h1, h2, h3⟩ p hp
  have key : ∀ i, wd s i = wd t i → p / 64 = i → s.testBit p = t.testBit p := fun i h e => by
   have h5 := congrArg (fun x => x.testBit (p % 64)) h
   simp only [iu] at h5
   have e2 : 64 * i + p % 64 = p := by omega
   rw [e2] at h5
   simpa [Nat.mod_lt] using h5
  have : p / 64 = 0 ∨ p / 64 = 1 ∨ p / 64 = 2 ∨ p / 64 = 3 := by omega
  rcases this with e | e | e | e
  ·exact key 0 h0 e
  ·exact key 1 h1 e
  ·exact key 2 h2 e
  ·exact key 3 h3 e
 ·intro h
  exact ⟨lC (by decide) h, lC (by decide) h, lC (by decide) h, lC (by decide) h⟩
def ir (i one : Nat) (c : Cb) : Cb := ⟨c.m ||| 1 * 2 ^ i, c.v ||| one * 2 ^ i⟩
def s7 (n : Nat) (on0 on1 : Nat) (a b : List Cb) : Nat := (0 ||| andNot on0 (kW a n a.length)) ||| andNot on1 (kW b n b.length)
def eK (n : Nat) : Nat → Nat → Nat → Nat → List Cb
 | 0, _, _, _ => []
 | f + 1, on, may, i =>
  if xJ on 0 = true then [] else if xJ may (ft n) = true then [⟨0, 0⟩] else
  let a := eK n f (andNot (dq on i false) (dq may i true)) (dq may i false) (i + 1)
  let b := eK n f (andNot (dq on i true) (dq may i false)) (dq may i true) (i + 1)
  (a.map (ir i 0) ++ b.map (ir i 1)) ++ eK n f (s7 n (dq on i false) (dq on i true) a b) (dq may i false &&& dq may i true) (i + 1)
structure nc (n on may i : Nat) : Prop where
 le : i ≤ n
 sub : ∀ p, p < 256 → on.testBit p = true → may.testBit p = true
 out : ∀ p, p < 256 → may.testBit p = true → p < 2 ^ n
 free : ∀ p j, p < 256 → j < i → on.testBit (p ^^^ 2 ^ j) = on.testBit p
 freeM : ∀ p j, p < 256 → j < i → may.testBit (p ^^^ 2 ^ j) = may.testBit p
theorem Gz {n on may : Nat} (h : ∀ p, p < 256 → on.testBit p = true → may.testBit p = true) (k : ∀ p, p < 256 → may.testBit p = true → p < 2 ^ n) : nc n on may 0 :=
 ⟨Nat.zero_le _, h, k, fun _ j _ hj => absurd hj (Nat.not_lt_zero j), fun _ j _ hj => absurd hj (Nat.not_lt_zero j)⟩
theorem CG {s : Nat} : ∀ (n : Nat), (∀ p j, p < 2 ^ n → j < n → s.testBit (p ^^^ 2 ^ j) = s.testBit p) → ∀ p, p < 2 ^ n → s.testBit p = s.testBit 0
 | 0, _, p, hp => by
  have : p = 0 := by simpa using hp
  rw [this]
 | n + 1, h, p, hp => by
  have hle : 2 ^ n ≤ 2 ^ (n + 1) := Nat.pow_le_pow_right (by decide) (by omega)
  have ih := CG n fun p j hp hj => h p j (Nat.lt_of_lt_of_le hp hle) (by omega)
  by_cases hb : p.testBit n = true
  ·rw [← h p n hp (by omega)]
   refine ih _ (fZ.2 fun j hj => ?_)
   rw [nA]
   split
   ·rename_i e; subst e; rw [hb]; rfl
   ·exact fZ.1 hp j (by omega)
  ·refine ih p (fZ.2 fun j hj => ?_)
   by_cases e : j = n
   ·subst e; simpa using hb
   ·exact fZ.1 hp j (by omega)
theorem f6 {n : Nat} (h : n ≤ 8) : 2 ^ n ≤ 256 := by
 have : 2 ^ n ≤ 2 ^ 8 := Nat.pow_le_pow_right (by decide) h
 simpa using this
theorem nc.end {n on may : Nat} (h8 : n ≤ 8) (h : nc n on may n) : xJ on 0 = true ∨ xJ may (ft n) = true := by
 have hp := f6 h8
 have h1 := CG n fun p j hq hj => h.freeM p j (by omega) hj
 by_cases h0 : may.testBit 0 = true
 ·right
  rw [qK]
  intro p hp2
  rw [fY]
  by_cases hpn : p < 2 ^ n
  ·rw [h1 p hpn, h0]; simp [hpn]
  ·cases hm : may.testBit p with
   | false => simp [hpn]
   | true => exact absurd (h.out p hp2 hm) hpn
 ·left
  rw [qK]
  intro p hp2
  rw [Nat.zero_testBit]
  refine Bool.eq_false_iff.2 fun ho => ?_
  have hm := h.sub p hp2 ho
  exact h0 (by rw [← h1 p (h.out p hp2 hm)]; exact hm)
def hold (c : Cb) (p : Nat) : Prop := p &&& c.m = c.v
theorem sA {c : Cb} {p : Nat} : hold c p ↔ ∀ j, (p.testBit j && c.m.testBit j) = c.v.testBit j := by
 unfold hold
 constructor
 ·intro h j; rw [← h, Nat.testBit_and]
 ·intro h; exact Nat.eq_of_testBit_eq fun j => by rw [Nat.testBit_and]; exact h j
theorem wD {c : Cb} {p j : Nat} (h : c.m.testBit j = false) : hold c (p ^^^ 2 ^ j) ↔ hold c p := by
 rw [sA, sA]
 have : ∀ q, ((p ^^^ 2 ^ j).testBit q && c.m.testBit q) = (p.testBit q && c.m.testBit q) := fun q => by
  rw [nA]
  split
  ·rename_i e; subst e; simp [h]
  ·rfl
 simp only [this]
theorem wI {c : Cb} {p i : Nat} {one : Bool} (h : c.m.testBit i = false) : hold c (rm p i one) ↔ hold c p := by
 unfold rm
 split
 ·exact Iff.rfl
 ·exact wD h
theorem jA (c : Cb) (i one j : Nat) : (ir i one c).m.testBit j = (c.m.testBit j || decide (j = i)) := by
 show (c.m ||| 1 * 2 ^ i).testBit j = _
 rw [Nat.one_mul, Nat.testBit_or, Nat.testBit_two_pow]
 by_cases e : i = j
 ·subst e; simp
 ·have : ¬ j = i := fun h => e h.symm
  simp [e, this]
theorem nx (c : Cb) (i j : Nat) : (ir i 0 c).v.testBit j = c.v.testBit j := by
 show (c.v ||| 0 * 2 ^ i).testBit j = _
 rw [Nat.zero_mul, Nat.or_zero]
theorem ni (c : Cb) (i j : Nat) : (ir i 1 c).v.testBit j = (c.v.testBit j || decide (j = i)) := by
 show (c.v ||| 1 * 2 ^ i).testBit j = _
 rw [Nat.one_mul, Nat.testBit_or, Nat.testBit_two_pow]
 by_cases e : i = j
 ·subst e; simp
 ·have : ¬ j = i := fun h => e h.symm
  simp [e, this]
theorem sB {c : Cb} {i p one : Nat} (h1 : one = 0 ∨ one = 1) (hv : c.v &&& c.m = c.v) (h : c.m.testBit i = false) : hold (ir i one c) p ↔ p.testBit i = decide (one = 1) ∧ hold c p := by
 have hvi : c.v.testBit i = false := by rw [eM hv, h, Bool.and_false]
 rw [sA, sA]
 rcases h1 with rfl | rfl
 ·simp only [jA, nx]
  constructor
  ·intro k
   have hi : p.testBit i = false := by have := k i; simpa [h, hvi] using this
   refine ⟨by simpa using hi, fun j => ?_⟩
   have := k j
   by_cases e : j = i
   ·subst e; simp [h, hvi]
   ·simpa [e] using this
  ·rintro ⟨k0, k⟩ j
   have := k j
   by_cases e : j = i
   ·subst e; simp [hvi]; simpa using k0
   ·simpa [e] using this
 ·simp only [jA, ni]
  constructor
  ·intro k
   have hi : p.testBit i = true := by have := k i; simpa [h, hvi] using this
   refine ⟨by simpa using hi, fun j => ?_⟩
   have := k j
   by_cases e : j = i
   ·subst e; simp [h, hvi]
   ·simpa [e] using this
  ·rintro ⟨k0, k⟩ j
   have := k j
   by_cases e : j = i
   ·subst e; simp [hvi]; simpa using k0
   ·simpa [e] using this
def jl (n may i : Nat) (l : List Cb) : Prop := ∀ c, c ∈ l → c.m < 2 ^ n ∧ c.v &&& c.m = c.v ∧ (∀ j, j < i → c.m.testBit j = false) ∧ ∀ p, p < 2 ^ n → hold c p → may.testBit p = true
def EM (n on : Nat) (l : List Cb) : Prop := ∀ p, p < 2 ^ n → on.testBit p = true → ∃ c, c ∈ l ∧ hold c p
theorem qu {l : List Cb} {n : Nat} (hn : n ≤ 8) (p : Nat) : (kW l n l.length).testBit p = true ↔ p < 2 ^ n ∧ ∃ c, c ∈ l ∧ hold c p := by
 rw [sT hn]
 constructor
 ·rintro ⟨j, hj, h1, h2⟩
  exact ⟨h1, _, dU hj, h2⟩
 ·rintro ⟨h1, c, hc, h2⟩
  obtain ⟨j, hj, rfl⟩ := fh (d := ⟨0, 0⟩) hc
  exact ⟨j, hj, h1, h2⟩
section
variable {n on may i : Nat}
theorem nc.side (h8 : n ≤ 8) (h : nc n on may i) (hi : i < n) (x : Bool) : nc n (andNot (dq on i x) (dq may i (!x))) (dq may i x) (i + 1) := by
 have hi8 : i < 8 := by omega
 refine ⟨hi, fun p hp hq => ?_, fun p hp hq => ?_, fun p j hp hj => ?_, fun p j hp hj => ?_⟩
 ·rw [ey, Bool.and_eq_true] at hq
  obtain ⟨h1, h2⟩ := (fV hi8).1 hq.1
  exact (fV hi8).2 ⟨hp, h.sub _ ((kH (n := 8) hi8).2 hp) h2⟩
 ·obtain ⟨h1, h2⟩ := (fV hi8).1 hq
  exact (kH hi).1 (h.out _ ((kH (n := 8) hi8).2 hp) h2)
 ·have hpj : p ^^^ 2 ^ j < 256 := Bm j (by omega) p hp
  simp only [ey, gy hi8 hp, gy hi8 hpj, pH]
  split
  ·rfl
  ·rename_i hne
   have hlt : ∀ y, rm p i y < 256 := fun y => (kH (n := 8) hi8).2 hp
   rw [h.free _ j (hlt _) (by omega), h.freeM _ j (hlt _) (by omega)]
 ·have hpj : p ^^^ 2 ^ j < 256 := Bm j (by omega) p hp
  simp only [gy hi8 hp, gy hi8 hpj, pH]
  split
  ·rfl
  ·rename_i hne
   have hlt : ∀ y, rm p i y < 256 := fun y => (kH (n := 8) hi8).2 hp
   rw [h.freeM _ j (hlt _) (by omega)]
theorem jR {on0 on1 : Nat} {a b : List Cb} {p : Nat} : (s7 n on0 on1 a b).testBit p = ((on0.testBit p && !(kW a n a.length).testBit p) || (on1.testBit p && !(kW b n b.length).testBit p)) := by
 unfold s7
 rw [Nat.zero_or, Nat.testBit_or, ey, ey]
theorem BQ {l : List Cb} {j p : Nat} (h8 : n ≤ 8) (hj : j < n) (h : ∀ c, c ∈ l → c.m.testBit j = false) : (kW l n l.length).testBit (p ^^^ 2 ^ j) = (kW l n l.length).testBit p := by
 rw [Bool.eq_iff_iff, qu h8, qu h8]
 have hlt : p ^^^ 2 ^ j < 2 ^ n ↔ p < 2 ^ n := by
  constructor
  ·intro h2
   have := zS hj h2
   rwa [Nat.xor_assoc, Nat.xor_self, Nat.xor_zero] at this
  ·exact zS hj
 rw [hlt]
 constructor
 ·rintro ⟨h1, c, hc, h2⟩; exact ⟨h1, c, hc, (wD (h c hc)).1 h2⟩
 ·rintro ⟨h1, c, hc, h2⟩; exact ⟨h1, c, hc, (wD (h c hc)).2 h2⟩
theorem nc.rest (h8 : n ≤ 8) (h : nc n on may i) (hi : i < n) {a b : List Cb} (ha : jl n (dq may i false) (i + 1) a) (hb : jl n (dq may i true) (i + 1) b)
  (ca : EM n (andNot (dq on i false) (dq may i true)) a) (cb : EM n (andNot (dq on i true) (dq may i false)) b) :
  nc n (s7 n (dq on i false) (dq on i true) a b) (dq may i false &&& dq may i true) (i + 1) := by
 have hi8 : i < 8 := by omega
 have hlt : ∀ p y, p < 256 → rm p i y < 256 := fun p y hp => (kH (n := 8) hi8).2 hp
 refine ⟨hi, fun p hp hq => ?_, fun p hp hq => ?_, fun p j hp hj => ?_, fun p j hp hj => ?_⟩
 ·rw [jR, Bool.or_eq_true, Bool.and_eq_true, Bool.and_eq_true] at hq
  rw [Nat.testBit_and, Bool.and_eq_true]
  have one : ∀ (x : Bool) (l : List Cb), (dq on i x).testBit p = true → (!(kW l n l.length).testBit p) = true → EM n (andNot (dq on i x) (dq may i (!x))) l → (dq may i x).testBit p = true ∧ (dq may i (!x)).testBit p = true := by
   intro x l h1 h2 hc
   have hm : (dq may i x).testBit p = true := by
    rw [gy hi8 hp] at h1 ⊢
    exact h.sub _ (hlt p x hp) h1
   refine ⟨hm, Classical.byContradiction fun hn => ?_⟩
   have hpn : p < 2 ^ n := by
    rw [gy hi8 hp] at hm
    exact (kH hi).1 (h.out _ (hlt p x hp) hm)
   have := hc p hpn (by rw [ey, h1, Bool.eq_false_iff.2 hn]; rfl)
   rw [(qu h8 p).2 ⟨hpn, this⟩] at h2
   cases h2
  rcases hq with ⟨h1, h2⟩ | ⟨h1, h2⟩
  ·exact one false a h1 h2 ca
  ·exact (one true b h1 h2 cb).symm
 ·rw [Nat.testBit_and, Bool.and_eq_true] at hq
  obtain ⟨h1, h2⟩ := (fV hi8).1 hq.1
  exact (kH hi).1 (h.out _ (hlt p _ hp) h2)
 ·have hpj : p ^^^ 2 ^ j < 256 := Bm j (by omega) p hp
  rw [jR, jR, BQ h8 (by omega) (fun c hc => (ha c hc).2.2.1 j hj), BQ h8 (by omega) (fun c hc => (hb c hc).2.2.1 j hj)]
  simp only [gy hi8 hp, gy hi8 hpj, pH]
  split
  ·rfl
  ·rename_i hne
   rw [h.free _ j (hlt p _ hp) (by omega), h.free _ j (hlt p _ hp) (by omega)]
 ·have hpj : p ^^^ 2 ^ j < 256 := Bm j (by omega) p hp
  simp only [Nat.testBit_and, gy hi8 hp, gy hi8 hpj, pH]
  split
  ·rfl
  ·rename_i hne
   rw [h.freeM _ j (hlt p _ hp) (by omega), h.freeM _ j (hlt p _ hp) (by omega)]
theorem AW {a : List Cb} {one : Nat} {c : Cb} : c ∈ a.map (ir i one) ↔ ∃ d, d ∈ a ∧ ir i one d = c := List.mem_map
theorem Ga (h8 : n ≤ 8) (hi : i < n) {a : List Cb} {one : Nat} {x : Bool} (h1 : (one = 0 ∧ x = false) ∨ (one = 1 ∧ x = true)) (ha : jl n (dq may i x) (i + 1) a) (_hf : ∀ p j, p < 256 → j < i → may.testBit (p ^^^ 2 ^ j) = may.testBit p) :
  jl n may i (a.map (ir i one)) := by
 intro c hc
 obtain ⟨d, hd, rfl⟩ := AW.1 hc
 obtain ⟨k1, k2, k3, k4⟩ := ha d hd
 have ho : one = 0 ∨ one = 1 := h1.elim (fun h => .inl h.1) (fun h => .inr h.1)
 have hx : x = decide (one = 1) := by rcases h1 with ⟨rfl, rfl⟩ | ⟨rfl, rfl⟩ <;> rfl
 refine ⟨fZ.2 fun j hj => ?_, Nat.eq_of_testBit_eq fun j => ?_, fun j hj => ?_, fun p hp hh => ?_⟩
 ·rw [jA, fZ.1 k1 j hj, decide_eq_false (by omega)]; rfl
 ·rw [Nat.testBit_and, jA]
  have hvb := eM k2 j
  rcases ho with rfl | rfl
  ·rw [nx, hvb]; cases d.v.testBit j <;> cases d.m.testBit j <;> simp
  ·rw [ni, hvb]; cases d.v.testBit j <;> cases d.m.testBit j <;> simp
 ·rw [jA, k3 j (by omega), decide_eq_false (by omega)]; rfl
 ·obtain ⟨g1, g2⟩ := (sB ho k2 (k3 i (by omega))).1 hh
  have := k4 p hp g2
  have hp8 : p < 256 := Nat.lt_of_lt_of_le hp (f6 h8)
  rwa [gy (by omega) hp8, hx, kO g1] at this
theorem jl.app {a b : List Cb} (ha : jl n may i a) (hb : jl n may i b) : jl n may i (a ++ b) := fun c hc => (List.mem_append.1 hc).elim (ha c) (hb c)
theorem kA (h8 : n ≤ 8) : ∀ (f on may i : Nat), nc n on may i → n + 1 - i ≤ f → jl n may i (eK n f on may i) ∧ EM n on (eK n f on may i)
 | 0, on, may, i, h, hf => by have := h.le; omega
 | f + 1, on, may, i, h, hf => by
  rw [eK]
  split
  ·rename_i h0
   rw [qK] at h0
   refine ⟨fun c hc => (nomatch hc), fun p hp ho => ?_⟩
   rw [h0 p (Nat.lt_of_lt_of_le hp (f6 h8)), Nat.zero_testBit] at ho
   cases ho
  ·rename_i h0
   split
   ·rename_i h1
    rw [qK] at h1
    refine ⟨fun c hc => ?_, fun p hp ho => ⟨⟨0, 0⟩, by simp, by simp [hold]⟩⟩
    rw [List.mem_singleton] at hc
    subst hc
    refine ⟨Nat.two_pow_pos n, rfl, fun j _ => Nat.zero_testBit j, fun p hp _ => ?_⟩
    rw [h1 p (Nat.lt_of_lt_of_le hp (f6 h8)), fY]
    simp [hp]
   ·rename_i h1
    have hi : i < n := Nat.lt_of_le_of_ne h.le fun e => by
     subst e
     rcases h.end h8 with h2 | h2
     ·exact h0 h2
     ·exact h1 h2
    have hi8 : i < 8 := by omega
    dsimp only
    obtain ⟨a1, a2⟩ := kA h8 f _ _ _ (h.side h8 hi false) (by omega)
    obtain ⟨b1, b2⟩ := kA h8 f _ _ _ (h.side h8 hi true) (by omega)
    simp only [Bool.not_false, Bool.not_true] at a1 a2 b1 b2
    generalize eK n f (andNot (dq on i false) (dq may i true)) (dq may i false) (i + 1) = a at *
    generalize eK n f (andNot (dq on i true) (dq may i false)) (dq may i true) (i + 1) = b at *
    obtain ⟨c1, c2⟩ := kA h8 f _ _ _ (h.rest h8 hi a1 b1 a2 b2) (by omega)
    generalize eK n f (s7 n (dq on i false) (dq on i true) a b) (dq may i false &&& dq may i true) (i + 1) = c at *
    refine ⟨jl.app (jl.app (Ga h8 hi (.inl ⟨rfl, rfl⟩) a1 h.freeM) (Ga h8 hi (.inr ⟨rfl, rfl⟩) b1 h.freeM)) fun d hd => ?_, fun p hp ho => ?_⟩
    ·obtain ⟨k1, k2, k3, k4⟩ := c1 d hd
     refine ⟨k1, k2, fun j hj => k3 j (by omega), fun p hp hh => ?_⟩
     have hp8 : p < 256 := Nat.lt_of_lt_of_le hp (f6 h8)
     have := k4 p hp hh
     rw [Nat.testBit_and, gy hi8 hp8, gy hi8 hp8, Bool.and_eq_true] at this
     cases hb : p.testBit i with
     | false => rw [kO hb] at this; exact this.1
     | true => rw [kO hb] at this; exact this.2
    ·have hp8 : p < 256 := Nat.lt_of_lt_of_le hp (f6 h8)
     have key : ∀ (x : Bool) (one : Nat) (l : List Cb), p.testBit i = x → ((one = 0 ∧ x = false) ∨ (one = 1 ∧ x = true)) → jl n (dq may i x) (i + 1) l →
       ((kW l n l.length).testBit p = true → ∃ d, d ∈ l.map (ir i one) ∧ hold d p) := by
      intro x one l hb h1 hl hpt
      obtain ⟨_, d, hd, hh⟩ := (qu h8 p).1 hpt
      have ho : one = 0 ∨ one = 1 := h1.elim (fun h => .inl h.1) (fun h => .inr h.1)
      have hx : x = decide (one = 1) := by rcases h1 with ⟨rfl, rfl⟩ | ⟨rfl, rfl⟩ <;> rfl
      obtain ⟨k1, k2, k3, k4⟩ := hl d hd
      exact ⟨_, AW.2 ⟨d, hd, rfl⟩, (sB ho k2 (k3 i (by omega))).2 ⟨by rw [hb, hx], hh⟩⟩
     cases hb : p.testBit i with
     | false =>
      have hon : (dq on i false).testBit p = true := by rw [gy hi8 hp8, kO hb]; exact ho
      by_cases hpt : (kW a n a.length).testBit p = true
      ·obtain ⟨d, hd, hh⟩ := key false 0 a hb (.inl ⟨rfl, rfl⟩) a1 hpt
       exact ⟨d, by simp only [List.mem_append]; exact .inl (.inl hd), hh⟩
      ·obtain ⟨d, hd, hh⟩ := c2 p hp (by rw [jR, hon, Bool.eq_false_iff.2 hpt]; rfl)
       exact ⟨d, by simp only [List.mem_append]; exact .inr hd, hh⟩
     | true =>
      have hon : (dq on i true).testBit p = true := by rw [gy hi8 hp8, kO hb]; exact ho
      by_cases hpt : (kW b n b.length).testBit p = true
      ·obtain ⟨d, hd, hh⟩ := key true 1 b hb (.inr ⟨rfl, rfl⟩) b1 hpt
       exact ⟨d, by simp only [List.mem_append]; exact .inl (.inr hd), hh⟩
      ·obtain ⟨d, hd, hh⟩ := c2 p hp (by rw [jR, hon, Bool.eq_false_iff.2 hpt]; simp)
       exact ⟨d, by simp only [List.mem_append]; exact .inr hd, hh⟩
theorem i6 : ∀ (f on may i : Nat), (eK n f on may i).length ≤ 3 ^ f
 | 0, _, _, _ => by simp [eK]
 | f + 1, on, may, i => by
  rw [eK]
  have h3 : 3 ^ (f + 1) = 3 ^ f + 3 ^ f + 3 ^ f := by rw [Nat.pow_succ]; omega
  have h0 : 0 < 3 ^ f := Nat.pow_pos (by decide)
  split
  ·simp
  ·split
   ·simp; omega
   ·have h4 := i6 f (andNot (dq on i false) (dq may i true)) (dq may i false) (i + 1)
    have h5 := i6 f (andNot (dq on i true) (dq may i false)) (dq may i true) (i + 1)
    simp only [List.length_append, List.length_map]
    generalize eK n f (andNot (dq on i false) (dq may i true)) (dq may i false) (i + 1) = a at *
    generalize eK n f (andNot (dq on i true) (dq may i false)) (dq may i true) (i + 1) = b at *
    have h6 := i6 f (s7 n (dq on i false) (dq on i true) a b) (dq may i false &&& dq may i true) (i + 1)
    omega
end
def m4 (x y : Nat) : Array Value := #[wv x 0, wv x 1, wv x 2, wv x 3, wv y 0, wv y 1, wv y 2, wv y 3]
def nR (s i k : Nat) : Array Value := m4 (if 0 < k then dq s i false else 0) (if 1 < k then dq s i true else 0)
theorem Bb (s i : Nat) : (#[.int .u64 0, .int .u64 0, .int .u64 0, .int .u64 0, .int .u64 0, .int .u64 0, .int .u64 0, .int .u64 0] : Array Value) = nR s i 0 := by
 simp [nR, m4, wd]
theorem tF {w : World} {b s i : Nat} {T : TypeId} (h : At w b #[.int .u64 0, .int .u64 0, .int .u64 0, .int .u64 0, .int .u64 0, .int .u64 0, .int .u64 0, .int .u64 0] T) : At w b (nR s i 0) T := by
 rw [← Bb]; exact h
theorem pD (s i k : Nat) : (nR s i k).size = 8 := rfl
theorem rH {s i k : Nat} (hk : k < 2) :
  ((nR s i k).toList.take (0 + k * 4) ++ (#[wv (dq s i (decide ((k : Int) = 1))) 0, wv (dq s i (decide ((k : Int) = 1))) 1, wv (dq s i (decide ((k : Int) = 1))) 2, wv (dq s i (decide ((k : Int) = 1))) 3] : Array Value).toList ++
   (nR s i k).toList.drop (0 + k * 4 + (#[wv (dq s i (decide ((k : Int) = 1))) 0, wv (dq s i (decide ((k : Int) = 1))) 1, wv (dq s i (decide ((k : Int) = 1))) 2, wv (dq s i (decide ((k : Int) = 1))) 3] : Array Value).toList.length)).toArray = nR s i (k + 1) := by
 have : k = 0 ∨ k = 1 := by omega
 rcases this with rfl | rfl <;> rfl
theorem uY {s t : Nat} (h : ((wd s 0 : Nat) : Int) = ((wd t 0 : Nat) : Int) ∧ ((wd s 1 : Nat) : Int) = ((wd t 1 : Nat) : Int) ∧ ((wd s 2 : Nat) : Int) = ((wd t 2 : Nat) : Int) ∧ ((wd s 3 : Nat) : Int) = ((wd t 3 : Nat) : Int)) : xJ s t = true := by
 unfold xJ
 rw [decide_eq_true_eq]
 obtain ⟨h0, h1, h2, h3⟩ := h
 exact ⟨Int.ofNat_inj.1 h0, Int.ofNat_inj.1 h1, Int.ofNat_inj.1 h2, Int.ofNat_inj.1 h3⟩
theorem sx {s t : Nat} (h : xJ s t = true) : ((wd s 0 : Nat) : Int) = ((wd t 0 : Nat) : Int) ∧ ((wd s 1 : Nat) : Int) = ((wd t 1 : Nat) : Int) ∧ ((wd s 2 : Nat) : Int) = ((wd t 2 : Nat) : Int) ∧ ((wd s 3 : Nat) : Int) = ((wd t 3 : Nat) : Int) := by
 unfold xJ at h
 rw [decide_eq_true_eq] at h
 obtain ⟨h0, h1, h2, h3⟩ := h
 exact ⟨by rw [h0], by rw [h1], by rw [h2], by rw [h3]⟩
theorem MA {n on may i : Nat} (h8 : n ≤ 8) (h : nc n on may i) (h0 : ¬ xJ on 0 = true) (h1 : ¬ xJ may (ft n) = true) : i < n := Nat.lt_of_le_of_ne h.le fun e => by
 subst e
 rcases h.end h8 with h2 | h2
 ·exact h0 h2
 ·exact h1 h2
theorem BH {l : List Cb} {i q k : Nat} (h : k < l.length) : (l.take (k + 1)).map (ir i q) = (l.take k).map (ir i q) ++ [ir i q (l.getD k ⟨0, 0⟩)] := by
 rw [List.take_succ_eq_append_getElem h, List.map_append]
 simp [List.getD_eq_getElem?_getD, List.getElem?_eq_getElem h]
theorem Mg {s k : Nat} {i : Int} {one : Bool} {H : Nat} (h : (if 0 ≤ i ∧ i < 8 then pn s i.toNat one else 0) = H) (hk : (k : Int) < ((eo H).length : Int)) : 0 ≤ i ∧ i < 8 := by
 refine Classical.byContradiction fun hn => ?_
 rw [if_neg hn] at h
 subst h
 have e : eo 0 = [] := by simp [eo]
 rw [e] at hk
 simp at hk
 omega
theorem IH {s : Nat} {i : Int} {one : Bool} {H : Nat} (h : (if 0 ≤ i ∧ i < 8 then pn s i.toNat one else 0) = H) : kb (eo H) H i.toNat (eo H).length = if 0 ≤ i ∧ i < 8 then dq s i.toNat one else 0 := by
 split at h
 ·rename_i hi
  rw [if_pos hi, dq, h]
 ·rename_i hi
  rw [if_neg hi]
  subst h
  have e : eo 0 = [] := by simp [eo]
  rw [e]; rfl
theorem tJ {s : Nat} {n : Int} {c d : Cb} (h : imp s n d) (hr : dZ c.m c.v n = true) (hh : iH d c = true) : imp s n c := by
 rw [gn] at h ⊢
 refine ⟨hr, fun p hp hc => h.2 p hp ?_⟩
 exact lD (dV.1 h.1).2.2.2 hh hc
theorem Gx {c d : Cb} {i : Nat} (hi : i < 8) (h : iH c d = true) : iH (iR c i) (iR d i) = true := by
 rw [ke] at h ⊢
 intro j hj
 have hj' : (jr c.m (i : Int)).testBit j = true := hj
 rw [eN hi, Bool.and_eq_true] at hj'
 obtain ⟨h1, h2⟩ := h j hj'.1
 have hm : (iR d i).m.testBit j = true := by
  show (jr d.m (i : Int)).testBit j = true
  rw [eN hi, h1, hj'.2]; rfl
 refine ⟨hm, ?_⟩
 show (c.v &&& jr c.m (i : Int)).testBit j = (d.v &&& jr d.m (i : Int)).testBit j
 rw [Nat.testBit_and, Nat.testBit_and, eN hi, eN hi, h1, hj'.1, hj'.2, h2]
theorem CA {s : Nat} {n : Int} {c : Cb} (h : imp s n c) : ∀ i : Nat, (i : Int) ≤ n → imp s n (e7 s n c i) ∧ iH (e7 s n c i) c = true ∧ ∀ j, j < i → (e7 s n c i).m.testBit j = true → ¬ imp s n (iR (e7 s n c i) j)
 | 0, _ => ⟨h, w9 c, fun j hj => absurd hj (Nat.not_lt_zero j)⟩
 | i + 1, hi => by
  obtain ⟨h1, h2, h3⟩ := CA h i (by omega)
  obtain ⟨h0, h8, _, _⟩ := dV.1 (gn.1 h).1
  by_cases hw : imp s n (iR (e7 s n c i) i)
  ·have e : e7 s n c (i + 1) = iR (e7 s n c i) i := vL hw
   rw [e]
   have hho : iH (iR (e7 s n c i) i) (e7 s n c i) = true := BT (by omega)
   refine ⟨hw, CI hho h2, fun j hj hm => ?_⟩
   have hm' : (jr (e7 s n c i).m (i : Int)).testBit j = true := hm
   rw [eN (by omega), Bool.and_eq_true, decide_eq_true_eq] at hm'
   intro hn
   refine h3 j (by omega) hm'.1 (tJ hn (wb (gn.1 h1).1) (Gx (by omega) hho))
  ·have e : e7 s n c (i + 1) = e7 s n c i := wQ (Bool.eq_false_iff.2 hw)
   rw [e]
   refine ⟨h1, h2, fun j hj hm => ?_⟩
   rcases Nat.lt_succ_iff_lt_or_eq.1 hj with hj | rfl
   ·exact h3 j hj hm
   ·exact hw
theorem ri {s : Nat} {n : Int} {c : Cb} (h : imp s n c) : gS (jM s n c).m (jM s n c).v s n = true ∧ iH (jM s n c) c = true := by
 obtain ⟨h0, h8, _, _⟩ := dV.1 (gn.1 h).1
 obtain ⟨h1, h2, h3⟩ := CA h n.toNat (by omega)
 refine ⟨fR.2 ⟨h1, fun i hi => ?_⟩, h2⟩
 unfold jK
 rw [Bool.and_eq_false_iff]
 by_cases hm : (jM s n c).m.testBit i = true
 ·exact .inr (Bool.eq_false_iff.2 (h3 i hi hm))
 ·exact .inl (Bool.eq_false_iff.2 hm)
def iU (s : Nat) (n : Int) (l : List Cb) : Nat → List Cb
 | 0 => []
 | k + 1 => iJ (iU s n l k) (jM s n (l.getD k ⟨0, 0⟩))
abbrev Ea (s : Nat) (n : Int) (l : List Cb) : List Cb := iU s n l l.length
theorem p6 (s : Nat) (n : Int) (l : List Cb) : ∀ k, (iU s n l k).length ≤ k
 | 0 => by simp [iU]
 | k + 1 => Nat.le_trans (qn _ _) (by have := p6 s n l k; omega)
theorem pK {s : Nat} {n : Int} {l : List Cb} {c : Cb} : ∀ k, c ∈ iU s n l k ↔ ∃ j, j < k ∧ c = jM s n (l.getD j ⟨0, 0⟩)
 | 0 => by simp [iU]
 | k + 1 => by
  rw [iU, gv, pK k]
  constructor
  ·rintro (⟨j, hj, h⟩ | h)
   ·exact ⟨j, by omega, h⟩
   ·exact ⟨k, by omega, h⟩
  ·rintro ⟨j, hj, h⟩
   rcases Nat.lt_succ_iff_lt_or_eq.1 hj with hj | rfl
   ·exact .inl ⟨j, hj, h⟩
   ·exact .inr h
end
section
open Go Go.RowKit
def Q3 (f : Nat → Bool) (k : Nat) : List Bool := (List.range 256).map fun p => decide (p < k) && f p
theorem de (f : Nat → Bool) (k : Nat) : (Q3 f k).length = 256 := by simp [Q3]
theorem y7 {s k : Nat} (h : k < 256) : (p0 s).getD (k : Int).toNat false = s.testBit k := by
 rw [Int.toNat_natCast]; exact iP h
theorem EE {α : Type} {enc : α → List Value} {sz : Nat} {T : TypeId} {ok : Bool} {e1 : Int} {L : List α} {v : Value} {w' : World} {N : Nat} (h : if ok = true then ∃ x, v = .tuple #[x, .int .i64 0] ∧ dh enc sz T w' N x L else v = .tuple #[.slice none 0 0, .int .i64 e1]) :
  ∃ (x : Value) (er : Int) (l : List α), v = .tuple #[x, .int .i64 er] ∧ dh enc sz T w' N x l ∧ ((ok = true ∧ er = 0 ∧ l = L) ∨ (ok = false ∧ er = e1 ∧ l = [])) := by
 by_cases ho : ok = true
 ·rw [if_pos ho] at h
  obtain ⟨x, h1, h2⟩ := h
  exact ⟨x, 0, _, h1, h2, .inl ⟨ho, rfl, rfl⟩⟩
 ·rw [if_neg ho] at h
  exact ⟨_, e1, [], h, dh.nil, .inr ⟨by simpa using ho, rfl, rfl⟩⟩
def yW (on may : Nat) (n : Int) : Bool := uP may n && ep on may
theorem jX {on may : Nat} {n : Int} : yW on may n = true ↔ uP may n = true ∧ ep on may = true := by unfold yW; rw [Bool.and_eq_true]
theorem Mt {on may sa : Nat} {n er : Int} (h : (0 ≤ n ∧ n ≤ 8 ∧ sa = ft n.toNat ∧ er = 0) ∨ (¬ (0 ≤ n ∧ n ≤ 8) ∧ er = 1)) (h0 : ¬ er = 0) : ¬ yW on may n = true := fun hk => E0 h h0 (jX.1 hk).1
theorem Lj {on may : Nat} {n : Int} (h : (!ep on may) = true) : ¬ yW on may n = true := fun hk => by
 rw [(jX.1 hk).2] at h; cases h
theorem Lh {on may sa : Nat} {n er : Int} (h : (0 ≤ n ∧ n ≤ 8 ∧ sa = ft n.toNat ∧ er = 0) ∨ (¬ (0 ≤ n ∧ n ≤ 8) ∧ er = 1)) (h0 : ¬ ¬ er = 0) (hw : (!ep may sa) = true) : ¬ yW on may n = true := fun hk => E4 h h0 hw (jX.1 hk).1
theorem O5 {on may sa : Nat} {n er : Int} (h : (0 ≤ n ∧ n ≤ 8 ∧ sa = ft n.toNat ∧ er = 0) ∨ (¬ (0 ≤ n ∧ n ≤ 8) ∧ er = 1)) (h0 : ¬ ¬ er = 0) (h1 : (!ep on may) = false) (hw : (!ep may sa) = false) : yW on may n = true :=
 jX.2 ⟨KL h h0 hw, by simpa using h1⟩
theorem zp {on may : Nat} {n : Nat} (h : yW on may (n : Int) = true) : n ≤ 8 ∧ nc n on may 0 := by
 obtain ⟨h1, h2⟩ := jX.1 h
 obtain ⟨h0, h8⟩ := ko h1
 have hw : ep may (ft n) = true := by
  unfold uP at h1
  rw [decide_eq_true h0, decide_eq_true h8] at h1
  simpa using h1
 refine ⟨by omega, Gz (ea.1 h2) fun p hp hm => ?_⟩
 have := ea.1 hw p hp hm
 rw [fY] at this
 simpa using this
abbrev ji (on may : Nat) (n : Int) : List Cb := eK n.toNat (n.toNat + 1) on may 0
theorem Ot {n : Nat} (h : n ≤ 8) : 3 ^ (n + 1) ≤ 19683 := by
 have : 3 ^ (n + 1) ≤ 3 ^ 9 := Nat.pow_le_pow_right (by decide) (by omega)
 simpa using this
theorem Cm {on may : Nat} {n : Int} (h : n ≤ 8) : (ji on may n).length ≤ 19683 := Nat.le_trans (i6 _ _ _ _) (Ot (by omega))
theorem vq {on may : Nat} {n : Int} (h : yW on may n = true) {c : Cb} (hc : c ∈ ji on may n) : nh c.m c.v may n = true ∧ c.m < 256 ∧ c.v < 256 ∧ c.v &&& c.m = c.v := by
 obtain ⟨h0, h8⟩ := ko (jX.1 h).1
 obtain ⟨n, rfl⟩ := Int.eq_ofNat_of_zero_le h0
 obtain ⟨h8', hg⟩ := zp h
 obtain ⟨k1, k2, k3, k4⟩ := (kA h8' (n + 1) on may 0 hg (by omega)).1 c hc
 have hp := f6 h8'
 have hle : c.v ≤ c.m := by rw [← k2]; exact Nat.and_le_right
 refine ⟨gn.2 ⟨dV.2 ⟨h0, h8, k1, k2⟩, fun p hp hh => k4 p hp hh⟩, by omega, by omega, k2⟩
theorem qr {α : Type} [DecidableEq α] {l : List α} {k : α} (h : k ∈ l) : iJ l k = l := if_pos h
theorem xE {α : Type} [DecidableEq α] {l : List α} {k : α} (h : k ∉ l) : iJ l k = l ++ [k] := if_neg h
theorem Qk {ok : Bool} {er : Int} {l L : List Cb} (h : (ok = true ∧ er = 0 ∧ l = L) ∨ (ok = false ∧ er = 1 ∧ l = [])) (h0 : ¬ er = 0) : ¬ ok = true ∧ er = 1 := by
 rcases h with ⟨_, h2, _⟩ | ⟨h1, h2, _⟩
 ·exact absurd h2 h0
 ·exact ⟨by rw [h1]; decide, h2⟩
theorem IG {ok : Bool} {er : Int} {l L : List Cb} (h : (ok = true ∧ er = 0 ∧ l = L) ∨ (ok = false ∧ er = 1 ∧ l = [])) (h0 : ¬ ¬ er = 0) : ok = true ∧ l = L := by
 rcases h with ⟨h1, _, h2⟩ | ⟨_, h2, _⟩
 ·exact ⟨h1, h2⟩
 ·exact absurd (fun e => by rw [h2] at e; cases e) h0
end
section
open Go Go.RowKit
structure Sp where
 n : Int
 on : List Nat
 may : List Nat
def AO (S : Sp) (k : Nat) : Nat := S.on.getD k 0
def iM (S : Sp) (k : Nat) : Nat := S.may.getD k 0
def dL (S : Sp) : Bool :=
 decide (0 ≤ S.n) && (decide (S.n ≤ 8) && (decide (1 ≤ S.on.length) && (decide (S.on.length ≤ 4) && (decide (S.on.length = S.may.length) &&
  (List.range S.on.length).all fun k => ep (AO S k) (iM S k) && ep (iM S k) (ft S.n.toNat)))))
theorem dX {S : Sp} : dL S = true ↔ 0 ≤ S.n ∧ S.n ≤ 8 ∧ 1 ≤ S.on.length ∧ S.on.length ≤ 4 ∧ S.on.length = S.may.length ∧ ∀ k, k < S.on.length → ep (AO S k) (iM S k) = true ∧ ep (iM S k) (ft S.n.toNat) = true := by
 unfold dL
 simp only [Bool.and_eq_true, decide_eq_true_eq, List.all_eq_true, List.mem_range]
theorem mq {S : Sp} (h : ¬ (0 ≤ S.n ∧ S.n ≤ 8 ∧ 1 ≤ S.on.length ∧ S.on.length ≤ 4 ∧ S.on.length = S.may.length)) : Value.bool false = .bool (dL S) :=
 congrArg Value.bool (Bool.eq_false_iff.2 fun hr => h (by
  obtain ⟨h1, h2, h3, h4, h5, _⟩ := dX.1 hr
  exact ⟨h1, h2, h3, h4, h5⟩)).symm
theorem vm {S : Sp} {k : Nat} (hk : k < S.on.length) (h : ¬ (ep (AO S k) (iM S k) = true ∧ ep (iM S k) (ft S.n.toNat) = true)) : Value.bool false = .bool (dL S) :=
 congrArg Value.bool (Bool.eq_false_iff.2 fun hr => h ((dX.1 hr).2.2.2.2.2 k hk)).symm
theorem FI {S : Sp} (h : 0 ≤ S.n ∧ S.n ≤ 8 ∧ 1 ≤ S.on.length ∧ S.on.length ≤ 4 ∧ S.on.length = S.may.length) (hk : ∀ k, k < S.on.length → ep (AO S k) (iM S k) = true ∧ ep (iM S k) (ft S.n.toNat) = true) : Value.bool true = .bool (dL S) :=
 congrArg Value.bool (dX.2 ⟨h.1, h.2.1, h.2.2.1, h.2.2.2.1, h.2.2.2.2, hk⟩).symm
def k8 (S : Sp) (c : Cb) : Nat → Nat
 | 0 => 0
 | k + 1 => if nh c.m c.v (iM S k) S.n = true then k8 S c k ||| 1 * 2 ^ k else k8 S c k
abbrev jT (S : Sp) (c : Cb) : Nat := k8 S c S.may.length
theorem IA {S : Sp} {c : Cb} {k : Nat} (h : nh c.m c.v (iM S k) S.n = true) : k8 S c k ||| 1 * 2 ^ k = k8 S c (k + 1) := (if_pos h).symm
theorem HP {S : Sp} {c : Cb} {k : Nat} (h : nh c.m c.v (iM S k) S.n = false) : k8 S c k = k8 S c (k + 1) := (if_neg (by rw [h]; decide)).symm
theorem fw {S : Sp} {c : Cb} {j : Nat} : ∀ k, (k8 S c k).testBit j = true ↔ j < k ∧ nh c.m c.v (iM S j) S.n = true
 | 0 => by simp [k8]
 | k + 1 => by
  rw [k8]
  split
  ·rename_i h
   rw [Nat.one_mul, Nat.testBit_or, Nat.testBit_two_pow, Bool.or_eq_true, fw k, decide_eq_true_eq]
   constructor
   ·rintro (⟨h1, h2⟩ | rfl)
    ·exact ⟨by omega, h2⟩
    ·exact ⟨by omega, h⟩
   ·rintro ⟨h1, h2⟩
    rcases Nat.lt_succ_iff_lt_or_eq.1 h1 with h1 | h1
    ·exact .inl ⟨h1, h2⟩
    ·exact .inr h1.symm
  ·rename_i h
   rw [fw k]
   constructor
   ·rintro ⟨h1, h2⟩; exact ⟨by omega, h2⟩
   ·rintro ⟨h1, h2⟩
    rcases Nat.lt_succ_iff_lt_or_eq.1 h1 with h1 | rfl
    ·exact ⟨h1, h2⟩
    ·exact absurd h2 h
theorem qC (S : Sp) (c : Cb) (k : Nat) : k8 S c k < 2 ^ k := fZ.2 fun j hj => Bool.eq_false_iff.2 fun h => by
 have := ((fw k).1 h).1
 omega
theorem DR {k : Nat} (h : k ≤ 4) : 2 ^ k ≤ 16 := by
 have h2 : 2 ^ k ≤ 2 ^ 4 := Nat.pow_le_pow_right (by decide) h
 simpa using h2
def lY (S : Sp) (x : Rw) : Bool := dL S && (decide (0 < x.o) && decide (andNot x.o (jT S x.c) = 0))
theorem xB {a b : Nat} : andNot a b = 0 ↔ ∀ j, a.testBit j = true → b.testBit j = true := by
 constructor
 ·intro h j hj
  have h2 := congrArg (fun x => x.testBit j) h
  simp only [ey, Nat.zero_testBit, hj, Bool.true_and] at h2
  simpa using h2
 ·intro h
  refine Nat.eq_of_testBit_eq fun j => ?_
  rw [ey, Nat.zero_testBit]
  cases ha : a.testBit j with
  | false => rfl
  | true => rw [h j ha]; rfl
theorem fz {S : Sp} {x : Rw} : lY S x = true ↔ dL S = true ∧ 0 < x.o ∧ ∀ j, x.o.testBit j = true → j < S.may.length ∧ nh x.c.m x.c.v (iM S j) S.n = true := by
 unfold lY
 rw [Bool.and_eq_true, Bool.and_eq_true, decide_eq_true_eq, decide_eq_true_eq, xB]
 simp only [fw]
theorem lS {S : Sp} {x : Rw} (h : lY S x = true) : x.o < 2 ^ S.may.length ∧ x.o < 16 := by
 obtain ⟨h1, _, h3⟩ := fz.1 h
 obtain ⟨_, _, _, h4, h5, _⟩ := dX.1 h1
 have : x.o < 2 ^ S.may.length := fZ.2 fun j hj => Bool.eq_false_iff.2 fun hb => by have := (h3 j hb).1; omega
 have := DR (k := S.may.length) (by omega)
 omega
theorem mO {a : Nat} (h : 0 < a) : ∃ j, a.testBit j = true := Classical.byContradiction fun hn => by
 have : a = 0 := Nat.eq_of_testBit_eq fun j => by rw [Nat.zero_testBit]; exact Bool.eq_false_iff.2 fun hb => hn ⟨j, hb⟩
 omega
theorem rT {a j : Nat} (h : a.testBit j = true) : 0 < a := Nat.pos_of_ne_zero fun e => by
 rw [e, Nat.zero_testBit] at h; cases h
theorem fk {S : Sp} {x : Rw} (h : lY S x = true) : dZ x.c.m x.c.v S.n = true := by
 obtain ⟨_, h2, h3⟩ := fz.1 h
 obtain ⟨j, hj⟩ := mO h2
 exact tq (h3 j hj).2
def m3 (a b : Rw) : Bool := iH a.c b.c && decide (andNot b.o a.o = 0)
theorem kg {a b : Rw} : m3 a b = true ↔ iH a.c b.c = true ∧ ∀ j, b.o.testBit j = true → a.o.testBit j = true := by
 unfold m3
 rw [Bool.and_eq_true, decide_eq_true_eq, xB]
def kX (S : Sp) (o : Nat) : Nat → Nat
 | 0 => ft S.n.toNat
 | k + 1 => if o.testBit k = true then kX S o k &&& iM S k else kX S o k
abbrev f4 (S : Sp) (o : Nat) : Nat := kX S o S.may.length
theorem Fz {S : Sp} {o k : Nat} (h : o.testBit k = true) : kX S o k &&& iM S k = kX S o (k + 1) := (if_pos h).symm
theorem F4 {S : Sp} {o k : Nat} (h : ¬ o.testBit k = true) : kX S o k = kX S o (k + 1) := (if_neg h).symm
theorem iw {S : Sp} {o p : Nat} : ∀ k, (kX S o k).testBit p = true ↔ p < 2 ^ S.n.toNat ∧ ∀ j, j < k → o.testBit j = true → (iM S j).testBit p = true
 | 0 => by simp [kX, fY]
 | k + 1 => by
  rw [kX]
  split
  ·rename_i h
   rw [Nat.testBit_and, Bool.and_eq_true, iw k]
   constructor
   ·rintro ⟨⟨h1, h2⟩, h3⟩
    refine ⟨h1, fun j hj ho => ?_⟩
    rcases Nat.lt_succ_iff_lt_or_eq.1 hj with hj | rfl
    ·exact h2 j hj ho
    ·exact h3
   ·rintro ⟨h1, h2⟩
    exact ⟨⟨h1, fun j hj ho => h2 j (by omega) ho⟩, h2 k (by omega) h⟩
  ·rename_i h
   rw [iw k]
   constructor
   ·rintro ⟨h1, h2⟩
    refine ⟨h1, fun j hj ho => ?_⟩
    rcases Nat.lt_succ_iff_lt_or_eq.1 hj with hj | rfl
    ·exact h2 j hj ho
    ·exact absurd ho h
   ·rintro ⟨h1, h2⟩
    exact ⟨h1, fun j hj ho => h2 j (by omega) ho⟩
theorem Jm {S : Sp} (hr : dL S = true) (o : Nat) : uP (f4 S o) S.n = true := by
 obtain ⟨h0, h8, _⟩ := dX.1 hr
 unfold uP
 rw [decide_eq_true h0, decide_eq_true h8, Bool.true_and, Bool.true_and, ea]
 intro p _ h
 rw [fY]
 simpa using ((iw _).1 h).1
theorem tI {S : Sp} {c : Cb} {o : Nat} : nh c.m c.v (f4 S o) S.n = true ↔ dZ c.m c.v S.n = true ∧ ∀ j, j < S.may.length → o.testBit j = true → nh c.m c.v (iM S j) S.n = true := by
 have e1 := gn (s := f4 S o) (n := S.n) (c := c)
 have e2 := fun j => gn (s := iM S j) (n := S.n) (c := c)
 unfold imp at e1 e2
 rw [e1]
 constructor
 ·rintro ⟨h1, h2⟩
  exact ⟨h1, fun j hj ho => (e2 j).2 ⟨h1, fun p hp hc => ((iw _).1 (h2 p hp hc)).2 j hj ho⟩⟩
 ·rintro ⟨h1, h2⟩
  exact ⟨h1, fun p hp hc => (iw _).2 ⟨hp, fun j hj ho => ((e2 j).1 (h2 j hj ho)).2 p hp hc⟩⟩
theorem iC {S : Sp} {x : Rw} : lY S x = true ↔ dL S = true ∧ 0 < x.o ∧ x.o < 2 ^ S.may.length ∧ nh x.c.m x.c.v (f4 S x.o) S.n = true := by
 constructor
 ·intro h
  obtain ⟨h1, h2, h3⟩ := fz.1 h
  exact ⟨h1, h2, (lS h).1, tI.2 ⟨fk h, fun j _ hj => (h3 j hj).2⟩⟩
 ·rintro ⟨h1, h2, h3, h4⟩
  refine fz.2 ⟨h1, h2, fun j hj => ?_⟩
  have hlt : j < S.may.length := Classical.byContradiction fun hn => by
   rw [fZ.1 h3 j (by omega)] at hj; cases hj
  exact ⟨hlt, (tI.1 h4).2 j hlt hj⟩
def tN (S : Sp) (x : Rw) : Nat → List Cb
 | 0 => []
 | k + 1 => if ¬ iR x.c k = x.c ∧ lY S ⟨iR x.c k, x.o⟩ = true then tN S x k ++ [iR x.c k] else tN S x k
theorem yt {S : Sp} {x : Rw} : ∀ k, (tN S x k).length = 0 ↔ ∀ i, i < k → ¬ (¬ iR x.c i = x.c ∧ lY S ⟨iR x.c i, x.o⟩ = true)
 | 0 => by simp [tN]
 | k + 1 => by
  have ih := yt (S := S) (x := x) k
  rw [tN]
  split
  ·rename_i h
   simp only [List.length_append, List.length_cons, List.length_nil]
   constructor
   ·intro h2; omega
   ·intro h2; exact absurd h (h2 k (by omega))
  ·rename_i h
   rw [ih]
   constructor
   ·intro h2 i hi
    rcases Nat.lt_succ_iff_lt_or_eq.1 hi with hi | rfl
    ·exact h2 i hi
    ·exact h
   ·intro h2 i hi; exact h2 i (by omega)
def mS (S : Sp) (x : Rw) : Bool := lY S x && (decide (jT S x.c = x.o) && decide ((tN S x S.n.toNat).length = 0))
theorem Ag {c : Cb} {i : Nat} (hi : i < 8) (hv : c.v &&& c.m = c.v) : iR c i = c ↔ c.m.testBit i = false := by
 have hw := fun j => eN (m := c.m) hi j
 constructor
 ·intro h
  have h1 : jr c.m (i : Int) = c.m := congrArg Cb.m h
  have := hw i
  rw [h1] at this
  cases hb : c.m.testBit i with
  | false => rfl
  | true => rw [hb] at this; simp at this
 ·intro h
  have h1 : jr c.m (i : Int) = c.m := Nat.eq_of_testBit_eq fun j => by
   rw [hw]
   by_cases e : j = i
   ·subst e; rw [h]; rfl
   ·simp [e]
  unfold iR
  rw [h1, hv]
theorem fe {S : Sp} {x : Rw} : mS S x = true ↔ lY S x = true ∧ jT S x.c = x.o ∧ gS x.c.m x.c.v (f4 S x.o) S.n = true := by
 unfold mS
 rw [Bool.and_eq_true, Bool.and_eq_true, decide_eq_true_eq, decide_eq_true_eq, yt]
 constructor
 ·rintro ⟨h1, h2, h3⟩
  refine ⟨h1, h2, fR.2 ⟨(iC.1 h1).2.2.2, fun i hi => Bool.eq_false_iff.2 fun hs => ?_⟩⟩
  obtain ⟨h0, h8, hm, hv⟩ := dV.1 (fk h1)
  unfold jK at hs
  rw [Bool.and_eq_true] at hs
  refine h3 i hi ⟨fun he => ?_, iC.2 ⟨(iC.1 h1).1, (iC.1 h1).2.1, (iC.1 h1).2.2.1, hs.2⟩⟩
  rw [(Ag (by omega) hv).1 he] at hs
  cases hs.1
 ·rintro ⟨h1, h2, h3⟩
  refine ⟨h1, h2, fun i hi ⟨g1, g2⟩ => ?_⟩
  obtain ⟨h0, h8, hm, hv⟩ := dV.1 (fk h1)
  have hs := (fR.1 h3).2 i hi
  unfold jK at hs
  have hb : x.c.m.testBit i = true := Classical.byContradiction fun hn => g1 ((Ag (by omega) hv).2 (Bool.eq_false_iff.2 hn))
  have hw : nh (jr x.c.m (i : Int)) (x.c.v &&& jr x.c.m (i : Int)) (f4 S x.o) S.n = true := (iC.1 g2).2.2.2
  rw [hb, hw] at hs
  cases hs
theorem DE {n : Int} {c d : Cb} (hc : dZ c.m c.v n = true) (hd : dZ d.m d.v n = true) (h : iH d c = true) (hne : d ≠ c) : ∃ i, i < n.toNat ∧ c.m.testBit i = true ∧ iH d (iR c i) = true := by
 obtain ⟨_, h8, hm, hv⟩ := dV.1 hc
 obtain ⟨_, _, hdm, hdv⟩ := dV.1 hd
 rw [ke] at h
 have : ∃ i, c.m.testBit i = true ∧ d.m.testBit i = false := Classical.byContradiction fun hn => by
  have hmm : d.m = c.m := Nat.eq_of_testBit_eq fun j => by
   cases hj : d.m.testBit j with
   | true => rw [(h j hj).1]
   | false => cases hk : c.m.testBit j with
    | false => rfl
    | true => exact absurd ⟨j, hk, hj⟩ hn
  have hvv : d.v = c.v := Nat.eq_of_testBit_eq fun j => by
   cases hj : d.m.testBit j with
   | true => exact (h j hj).2
   | false =>
    rw [eM hdv j, eM hv j, ← hmm, hj, Bool.and_false, Bool.and_false]
  exact hne (by
   obtain ⟨dm, dv⟩ := d
   obtain ⟨cm, cv⟩ := c
   simp only [Cb.mk.injEq]
   exact ⟨hmm, hvv⟩)
 obtain ⟨i, h1, h2⟩ := this
 have hi : i < n.toNat := Classical.byContradiction fun hn => by
  rw [fZ.1 hm i (by omega)] at h1; cases h1
 refine ⟨i, hi, h1, ke.2 fun j hj => ?_⟩
 have hji : j ≠ i := fun e => by subst e; rw [h2] at hj; cases hj
 obtain ⟨g1, g2⟩ := h j hj
 have hm' : (iR c i).m.testBit j = true := by
  show (jr c.m (i : Int)).testBit j = true
  rw [eN (by omega), g1]; simp [hji]
 refine ⟨hm', ?_⟩
 show d.v.testBit j = (c.v &&& jr c.m (i : Int)).testBit j
 have hm2 : (jr c.m (i : Int)).testBit j = true := hm'
 rw [Nat.testBit_and, hm2, Bool.and_true, g2]
theorem GY {S : Sp} {x y : Rw} (hx : mS S x = true) (hy : lY S y = true) (h : m3 y x = true) : y = x := by
 obtain ⟨h1, h2, h3⟩ := fe.1 hx
 obtain ⟨g1, g2⟩ := kg.1 h
 obtain ⟨k1, k2, k3⟩ := fz.1 hy
 have hrx := fk h1
 have ho : y.o = x.o := Nat.eq_of_testBit_eq fun j => by
  rw [Bool.eq_iff_iff]
  refine ⟨fun hj => ?_, g2 j⟩
  rw [← h2, fw]
  exact ⟨(k3 j hj).1, tJ (k3 j hj).2 hrx g1⟩
 have hc : y.c = x.c := Classical.byContradiction fun hne => by
  obtain ⟨i, hi, hb, hh⟩ := DE hrx (fk hy) g1 hne
  have hs := (fR.1 h3).2 i hi
  unfold jK at hs
  have hw : imp (f4 S x.o) S.n (iR x.c i) := tJ (ho ▸ (iC.1 hy).2.2.2) (wb hrx) hh
  have hw' : nh (jr x.c.m (i : Int)) (x.c.v &&& jr x.c.m (i : Int)) (f4 S x.o) S.n = true := hw
  rw [hb, hw'] at hs
  cases hs
 obtain ⟨xc, xo⟩ := x
 obtain ⟨yc, yo⟩ := y
 simp only [Rw.mk.injEq]
 exact ⟨hc, ho⟩
theorem Gj {S : Sp} {x : Rw} (hx : lY S x = true) (h : ∀ y, lY S y = true → m3 y x = true → y = x) : mS S x = true := by
 obtain ⟨k1, k2, k3⟩ := fz.1 hx
 have hr := fk hx
 obtain ⟨h0, h8, hm, hv⟩ := dV.1 hr
 have ho : jT S x.c = x.o := by
  have hy : lY S ⟨x.c, jT S x.c⟩ = true := fz.2 ⟨k1, (mO k2).elim fun j hj => rT ((fw (S := S) (c := x.c) (j := j) S.may.length).2 (k3 j hj)), fun j hj => (fw _).1 hj⟩
  exact congrArg Rw.o (h _ hy (kg.2 ⟨w9 _, fun j hj => (fw _).2 (k3 j hj)⟩))
 refine fe.2 ⟨hx, ho, fR.2 ⟨(iC.1 hx).2.2.2, fun i hi => Bool.eq_false_iff.2 fun hs => ?_⟩⟩
 unfold jK at hs
 rw [Bool.and_eq_true] at hs
 have hy : lY S ⟨iR x.c i, x.o⟩ = true := iC.2 ⟨k1, k2, (iC.1 hx).2.2.1, hs.2⟩
 have e := congrArg Rw.c (h _ hy (kg.2 ⟨BT (by omega), fun _ h => h⟩))
 have e' : iR x.c i = x.c := e
 rw [(Ag (by omega) hv).1 e'] at hs
 cases hs.1
def eA (S : Sp) (x : Rw) : Nat → Cb
 | 0 => x.c
 | i + 1 => if lY S ⟨iR (eA S x i) i, x.o⟩ = true then iR (eA S x i) i else eA S x i
def ua (S : Sp) (x : Rw) : Rw := ⟨eA S x S.n.toNat, jT S (eA S x S.n.toNat)⟩
theorem uV {S : Sp} {x : Rw} {i : Nat} (h : lY S ⟨iR (eA S x i) i, x.o⟩ = true) : iR (eA S x i) i = eA S x (i + 1) := (if_pos h).symm
theorem uX {S : Sp} {x : Rw} {i : Nat} (h : lY S ⟨iR (eA S x i) i, x.o⟩ = false) : eA S x i = eA S x (i + 1) := (if_neg (by rw [h]; decide)).symm
theorem yb {S : Sp} {x : Rw} (h : lY S x = true) : ∀ i, eA S x i = e7 (f4 S x.o) S.n x.c i
 | 0 => rfl
 | i + 1 => by
  have ih := yb h i
  obtain ⟨h1, h2, h3, _⟩ := iC.1 h
  have e : lY S ⟨iR (e7 (f4 S x.o) S.n x.c i) i, x.o⟩ = nh (iR (e7 (f4 S x.o) S.n x.c i) i).m (iR (e7 (f4 S x.o) S.n x.c i) i).v (f4 S x.o) S.n := by
   rw [Bool.eq_iff_iff]
   exact ⟨fun k => (iC.1 k).2.2.2, fun k => iC.2 ⟨h1, h2, h3, k⟩⟩
  rw [eA, ih, e]
  rfl
theorem su {S : Sp} {x : Rw} (h : x.c.m < 256 ∧ x.c.v < 256) : ∀ i, (eA S x i).m < 256 ∧ (eA S x i).v < 256
 | 0 => h
 | i + 1 => by
  have ih := su (S := S) h i
  rw [eA]
  split
  ·exact ⟨Nat.lt_of_le_of_lt (vB _ _) ih.1, Nat.lt_of_le_of_lt Nat.and_le_left ih.2⟩
  ·exact ih
theorem nq {S : Sp} {x : Rw} (h : lY S x = true) : mS S (ua S x) = true ∧ m3 (ua S x) x = true := by
 obtain ⟨h1, h2, h3, h4⟩ := iC.1 h
 have hg := ri (s := f4 S x.o) (n := S.n) (c := x.c) h4
 have e : eA S x S.n.toNat = jM (f4 S x.o) S.n x.c := yb h S.n.toNat
 have hsub : ∀ j, x.o.testBit j = true → (jT S (eA S x S.n.toNat)).testBit j = true := fun j hj => by
  have hlt : j < S.may.length := Classical.byContradiction fun hn => by
   rw [fZ.1 h3 j (by omega)] at hj; cases hj
  rw [fw, e]
  exact ⟨hlt, (tI.1 (fR.1 hg.1).1).2 j hlt hj⟩
 have hin : lY S (ua S x) = true := fz.2 ⟨h1, (mO h2).elim fun j hj => rT (hsub j hj), fun j hj => (fw _).1 hj⟩
 refine ⟨fe.2 ⟨hin, rfl, fR.2 ⟨(iC.1 hin).2.2.2, fun i hi => Bool.eq_false_iff.2 fun hs => ?_⟩⟩, kg.2 ⟨by show iH (eA S x S.n.toNat) x.c = true; rw [e]; exact hg.2, hsub⟩⟩
 unfold jK at hs
 rw [Bool.and_eq_true] at hs
 have hk := (fR.1 hg.1).2 i hi
 unfold jK at hk
 rw [← e] at hk
 have hw : nh (jr (eA S x S.n.toNat).m (i : Int)) ((eA S x S.n.toNat).v &&& jr (eA S x S.n.toNat).m (i : Int)) (f4 S x.o) S.n = true := by
  have := (tI (S := S) (c := iR (eA S x S.n.toNat) i) (o := jT S (eA S x S.n.toNat))).1 hs.2
  exact (tI (S := S) (c := iR (eA S x S.n.toNat) i) (o := x.o)).2 ⟨this.1, fun j hj ho => this.2 j hj (hsub j ho)⟩
 have hb : (eA S x S.n.toNat).m.testBit i = true := hs.1
 rw [hb, hw] at hk
 cases hk
def ze (a b : Rw) : Bool := decide (a.o < b.o) || (decide (a.o = b.o) && wj a.c b.c)
theorem mh {a b : Rw} : ze a b = true ↔ a.o < b.o ∨ a.o = b.o ∧ (a.c.m < b.c.m ∨ a.c.m = b.c.m ∧ a.c.v < b.c.v) := by
 unfold ze
 rw [Bool.or_eq_true, Bool.and_eq_true, decide_eq_true_eq, decide_eq_true_eq, kB]
def gD (l : List Rw) : Prop := l.Pairwise fun a b => ze a b = true
theorem j9 (a : Rw) : ze a a = false := Bool.eq_false_iff.2 fun h => by rw [mh] at h; omega
theorem yu {a b c : Rw} (h : ze a b = true) (k : ze b c = true) : ze a c = true := by
 rw [mh] at *; omega
theorem t5 : ∀ {l l' : List Rw}, gD l → gD l' → (∀ c, c ∈ l ↔ c ∈ l') → l = l'
 | [], [], _, _, _ => rfl
 | [], b :: r, _, _, h => by have := (h b).2 (by simp); simp at this
 | a :: l, [], _, _, h => by have := (h a).1 (by simp); simp at this
 | a :: l, b :: r, h1, h2, h => by
  obtain ⟨p1, q1⟩ := List.pairwise_cons.1 h1
  obtain ⟨p2, q2⟩ := List.pairwise_cons.1 h2
  have hab : a = b := by
   refine Decidable.byContradiction fun hne => ?_
   have ha : a ∈ r := ((List.mem_cons.1 ((h a).1 (by simp))).resolve_left hne)
   have hb : b ∈ l := ((List.mem_cons.1 ((h b).2 (by simp))).resolve_left (fun e => hne e.symm))
   have := yu (p1 b hb) (p2 a ha)
   rw [j9] at this
   cases this
  subst hab
  congr 1
  refine t5 q1 q2 fun c => ?_
  constructor
  ·intro hc
   rcases List.mem_cons.1 ((h c).1 (by simp [hc])) with e | hc'
   ·subst e; have := p1 c hc; rw [j9] at this; cases this
   ·exact hc'
  ·intro hc
   rcases List.mem_cons.1 ((h c).2 (by simp [hc])) with e | hc'
   ·subst e; have := p2 c hc; rw [j9] at this; cases this
   ·exact hc'
def i4 (S : Sp) (o : Nat) : Nat → List Rw
 | 0 => []
 | k + 1 => if jT S ((eE (f4 S o) S.n).getD k ⟨0, 0⟩) = o then i4 S o k ++ [⟨(eE (f4 S o) S.n).getD k ⟨0, 0⟩, o⟩] else i4 S o k
abbrev yU (S : Sp) (o : Nat) : List Rw := i4 S o (eE (f4 S o) S.n).length
def jH (S : Sp) : Nat → List Rw
 | 0 => []
 | o + 1 => if o = 0 then [] else jH S o ++ yU S o
abbrev eV (S : Sp) : List Rw := jH S (2 ^ S.may.length)
theorem CP {S : Sp} {o k : Nat} (h : jT S ((eE (f4 S o) S.n).getD k ⟨0, 0⟩) = o) : i4 S o k ++ [⟨(eE (f4 S o) S.n).getD k ⟨0, 0⟩, o⟩] = i4 S o (k + 1) := (if_pos h).symm
theorem BV {S : Sp} {o k : Nat} (h : ¬ jT S ((eE (f4 S o) S.n).getD k ⟨0, 0⟩) = o) : i4 S o k = i4 S o (k + 1) := (if_neg h).symm
theorem xn {S : Sp} {o : Nat} (h : 0 < o) : jH S o ++ yU S o = jH S (o + 1) := (if_neg (by omega)).symm
theorem oR (S : Sp) (o : Nat) : ∀ k, (i4 S o k).length ≤ k
 | 0 => by simp [i4]
 | k + 1 => by
  have := oR S o k
  rw [i4]
  split <;> simp <;> omega
theorem tx {S : Sp} (h8 : S.n ≤ 8) : ∀ o, (jH S o).length ≤ o * 65536
 | 0 => by simp [jH]
 | o + 1 => by
  have ih := tx h8 o
  have h1 := oR S o (eE (f4 S o) S.n).length
  have h2 := um (s := f4 S o) h8
  rw [jH]
  split
  ·simp
  ·simp only [List.length_append]; show (jH S o).length + (i4 S o (eE (f4 S o) S.n).length).length ≤ _; omega
theorem mK {S : Sp} {o : Nat} {x : Rw} : ∀ k, x ∈ i4 S o k ↔ ∃ j, j < k ∧ x = ⟨(eE (f4 S o) S.n).getD j ⟨0, 0⟩, o⟩ ∧ jT S x.c = o
 | 0 => by simp [i4]
 | k + 1 => by
  rw [i4]
  split
  ·rename_i h
   rw [List.mem_append, List.mem_singleton, mK k]
   constructor
   ·rintro (⟨j, hj, r⟩ | rfl)
    ·exact ⟨j, by omega, r⟩
    ·exact ⟨k, by omega, rfl, h⟩
   ·rintro ⟨j, hj, r, r2⟩
    rcases Nat.lt_succ_iff_lt_or_eq.1 hj with hj | rfl
    ·exact .inl ⟨j, hj, r, r2⟩
    ·exact .inr r
  ·rename_i h
   rw [mK k]
   constructor
   ·rintro ⟨j, hj, r⟩; exact ⟨j, by omega, r⟩
   ·rintro ⟨j, hj, r, r2⟩
    rcases Nat.lt_succ_iff_lt_or_eq.1 hj with hj | rfl
    ·exact ⟨j, hj, r, r2⟩
    ·subst r; exact absurd r2 h
theorem Gr {S : Sp} {o : Nat} {x : Rw} (hr : dL S = true) (h0 : 0 < o) (ho : o < 2 ^ S.may.length) : x ∈ yU S o ↔ mS S x = true ∧ x.o = o := by
 unfold yU
 rw [mK]
 constructor
 ·rintro ⟨j, hj, rfl, h2⟩
  have hp := nG.1 (dU (d := ⟨0, 0⟩) hj)
  have hin : lY S ⟨(eE (f4 S o) S.n).getD j ⟨0, 0⟩, o⟩ = true := iC.2 ⟨hr, h0, ho, (fR.1 hp).1⟩
  exact ⟨fe.2 ⟨hin, h2, hp⟩, rfl⟩
 ·rintro ⟨h1, rfl⟩
  obtain ⟨g1, g2, g3⟩ := fe.1 h1
  obtain ⟨j, hj, he⟩ := fh (d := ⟨0, 0⟩) (nG.2 g3)
  have he' : (eE (f4 S x.o) S.n).getD j ⟨0, 0⟩ = x.c := he
  exact ⟨j, hj, by rw [he'], g2⟩
theorem yi {S : Sp} {x : Rw} (hr : dL S = true) : ∀ o, o ≤ 2 ^ S.may.length → (x ∈ jH S o ↔ mS S x = true ∧ x.o < o)
 | 0, _ => by simp [jH]
 | o + 1, ho => by
  rw [jH]
  split
  ·rename_i h
   subst h
   constructor
   ·intro h; cases h
   ·rintro ⟨h1, h2⟩
    have := (fz.1 (fe.1 h1).1).2.1
    omega
  ·rename_i h
   rw [List.mem_append, yi hr o (by omega), Gr hr (by omega) (by omega)]
   constructor
   ·rintro (⟨h1, h2⟩ | ⟨h1, h2⟩)
    ·exact ⟨h1, by omega⟩
    ·exact ⟨h1, by omega⟩
   ·rintro ⟨h1, h2⟩
    rcases Nat.lt_succ_iff_lt_or_eq.1 h2 with h2 | h2
    ·exact .inl ⟨h1, h2⟩
    ·exact .inr ⟨h1, h2⟩
theorem m6 {S : Sp} {x : Rw} (hr : dL S = true) : x ∈ eV S ↔ mS S x = true := by
 rw [yi hr _ (Nat.le_refl _)]
 exact ⟨fun h => h.1, fun h => ⟨h, (lS (fe.1 h).1).1⟩⟩
theorem DU {l : List Cb} (h : i5 l) {i j : Nat} (hij : i < j) (hj : j < l.length) : wj (l.getD i ⟨0, 0⟩) (l.getD j ⟨0, 0⟩) = true := by
 have := List.pairwise_iff_getElem.1 h i j (by omega) hj hij
 simpa [List.getD_eq_getElem?_getD, List.getElem?_eq_getElem hj, List.getElem?_eq_getElem (show i < l.length by omega)] using this
theorem ra (S : Sp) (o : Nat) : ∀ k, k ≤ (eE (f4 S o) S.n).length → gD (i4 S o k)
 | 0, _ => by simp [i4, gD]
 | k + 1, hk => by
  have ih := ra S o k (by omega)
  rw [i4]
  split
  ·refine List.pairwise_append.2 ⟨ih, by simp, fun a ha b hb => ?_⟩
   rw [List.mem_singleton] at hb
   subst hb
   obtain ⟨j, hj, rfl, _⟩ := (mK k).1 ha
   have := DU (pA (f4 S o) S.n) hj (by omega)
   unfold ze
   rw [this]
   simp
  ·exact ih
theorem F2 {S : Sp} {o : Nat} {x : Rw} (h : x ∈ yU S o) : x.o = o := by
 obtain ⟨_, _, rfl, _⟩ := (mK _).1 h
 rfl
theorem Fx {S : Sp} {x : Rw} : ∀ o, x ∈ jH S o → x.o < o
 | 0, h => by simp [jH] at h
 | o + 1, h => by
  rw [jH] at h
  split at h
  ·cases h
  ·rcases List.mem_append.1 h with h | h
   ·have := Fx o h; omega
   ·have := F2 h; omega
theorem mp (S : Sp) : ∀ o, gD (jH S o)
 | 0 => by simp [jH, gD]
 | o + 1 => by
  have ih := mp S o
  rw [jH]
  split
  ·simp [gD]
  ·refine List.pairwise_append.2 ⟨ih, ra S o _ (Nat.le_refl _), fun a ha b hb => ?_⟩
   have h1 := Fx o ha
   have h2 := F2 hb
   rw [mh]
   omega
def oN (l : List Rw) (x : Rw) : Nat → Nat
 | 0 => 0
 | i + 1 => if ze x (l.getD i ⟨⟨0, 0⟩, 0⟩) = true then oN l x i else i + 1
def GQ (l : List Rw) (x : Rw) : List Rw := l.take (oN l x l.length) ++ x :: l.drop (oN l x l.length)
def fy (l : List Rw) : Nat → List Rw
 | 0 => []
 | k + 1 => GQ (fy l k) (l.getD k ⟨⟨0, 0⟩, 0⟩)
theorem FC (l : List Rw) (x : Rw) : ∀ k, oN l x k ≤ k
 | 0 => by simp [oN]
 | k + 1 => by
  have := FC l x k
  rw [oN]
  split <;> omega
theorem Gk {l : List Rw} {x : Rw} {i : Nat} (h0 : 0 < i) (h : ze x (l.getD (i - 1) ⟨⟨0, 0⟩, 0⟩) = true) : oN l x i = oN l x (i - 1) := by
 obtain ⟨j, rfl⟩ : ∃ j, i = j + 1 := ⟨i - 1, by omega⟩
 rw [oN, if_pos (by simpa using h)]; rfl
theorem B8 {l : List Rw} {x : Rw} {i : Nat} (h : i = 0 ∨ ze x (l.getD (i - 1) ⟨⟨0, 0⟩, 0⟩) = false) : oN l x i = i := by
 rcases h with rfl | h
 ·rfl
 ·cases i with
  | zero => rfl
  | succ j => rw [oN, if_neg (by simp at h; simp [h])]
theorem Jx (l : List Rw) (x : Rw) : (GQ l x).length = l.length + 1 := by
 have := FC l x l.length
 simp [GQ]; omega
theorem oT (l : List Rw) : ∀ k, (fy l k).length = k
 | 0 => rfl
 | k + 1 => by rw [fy, Jx, oT l k]
theorem t4 {l : List Rw} (h : gD l) : ∀ k, k ≤ l.length → fy l k = l.take k
 | 0, _ => rfl
 | k + 1, hk => by
  have ih := t4 h k (by omega)
  have e : l.getD k ⟨⟨0, 0⟩, 0⟩ = l[k] := by simp [show k < l.length by omega]
  have hp : oN (l.take k) l[k] (l.take k).length = (l.take k).length := B8 (by
   by_cases h0 : (l.take k).length = 0
   ·exact .inl h0
   ·right
    have hl : (l.take k).length = k := by simp; omega
    rw [hl] at h0 ⊢
    have hlt := List.pairwise_iff_getElem.1 h (k - 1) k (by omega) (by omega) (by omega)
    have e2 : (l.take k).getD (k - 1) ⟨⟨0, 0⟩, 0⟩ = l[k - 1] := by
     simp [List.getD_eq_getElem?_getD, List.getElem?_take, show k - 1 < k by omega, List.getElem?_eq_getElem (show k - 1 < l.length by omega)]
    rw [e2]
    refine Bool.eq_false_iff.2 fun hb => ?_
    have := yu hlt hb
    rw [j9] at this
    cases this)
  rw [fy, ih, e, GQ, hp, List.take_length, List.drop_length, List.take_succ_eq_append_getElem (by omega)]
theorem GC (S : Sp) : fy (eV S) (eV S).length = eV S := by
 rw [t4 (mp S _) _ (Nat.le_refl _), List.take_length]
def m5 (l : List Rw) (n o : Nat) : Nat → Nat
 | 0 => 0
 | k + 1 => if (l.getD k ⟨⟨0, 0⟩, 0⟩).o.testBit o = true then m5 l n o k ||| oQ (l.getD k ⟨⟨0, 0⟩, 0⟩).c.m (l.getD k ⟨⟨0, 0⟩, 0⟩).c.v n else m5 l n o k
theorem Ks {l : List Rw} {n o k : Nat} (h : (l.getD k ⟨⟨0, 0⟩, 0⟩).o.testBit o = true) : m5 l n o k ||| oQ (l.getD k ⟨⟨0, 0⟩, 0⟩).c.m (l.getD k ⟨⟨0, 0⟩, 0⟩).c.v n = m5 l n o (k + 1) := (if_pos h).symm
theorem IU {l : List Rw} {n o k : Nat} (h : ¬ (l.getD k ⟨⟨0, 0⟩, 0⟩).o.testBit o = true) : m5 l n o k = m5 l n o (k + 1) := (if_neg h).symm
def Px (x : Rw) (o p : Nat) : Prop := x.o.testBit o = true ∧ hold x.c p
theorem kG {l : List Rw} {n o : Nat} (hn : n ≤ 8) (p : Nat) : ∀ k, k ≤ l.length → ((m5 l n o k).testBit p = true ↔ p < 2 ^ n ∧ ∃ j, j < k ∧ Px (l.getD j ⟨⟨0, 0⟩, 0⟩) o p)
 | 0, _ => by simp [m5]
 | k + 1, hk => by
  have ih := kG (l := l) (o := o) hn p k (by omega)
  rw [m5]
  split
  ·rename_i h
   rw [Nat.testBit_or, Bool.or_eq_true, ih, iV hn, Bool.and_eq_true, decide_eq_true_eq, decide_eq_true_eq]
   constructor
   ·rintro (⟨h1, j, hj, r⟩ | ⟨h1, h2⟩)
    ·exact ⟨h1, j, by omega, r⟩
    ·exact ⟨h1, k, by omega, h, h2⟩
   ·rintro ⟨h1, j, hj, r⟩
    rcases Nat.lt_succ_iff_lt_or_eq.1 hj with hj | rfl
    ·exact .inl ⟨h1, j, hj, r⟩
    ·exact .inr ⟨h1, r.2⟩
  ·rename_i h
   rw [ih]
   constructor
   ·rintro ⟨h1, j, hj, r⟩; exact ⟨h1, j, by omega, r⟩
   ·rintro ⟨h1, j, hj, r⟩
    rcases Nat.lt_succ_iff_lt_or_eq.1 hj with hj | rfl
    ·exact ⟨h1, j, hj, r⟩
    ·exact absurd r.1 h
def EW (S : Sp) (x : Rw) : Bool := dZ x.c.m x.c.v S.n && (decide (0 < x.o) && decide (x.o < 2 ^ S.on.length))
def oX (S : Sp) (l : List Rw) : Bool := l.all (EW S)
def xR (S : Sp) (l : List Rw) (o : Nat) : Bool := ep (AO S o) (m5 l S.n.toNat o l.length) && ep (m5 l S.n.toNat o l.length) (iM S o)
def jy (S : Sp) (l : List Rw) : Bool := dL S && (oX S l && (List.range S.on.length).all (xR S l))
theorem gY {S : Sp} {l : List Rw} : jy S l = true ↔ dL S = true ∧ oX S l = true ∧ ∀ o, o < S.on.length → xR S l o = true := by
 unfold jy
 rw [Bool.and_eq_true, Bool.and_eq_true, List.all_eq_true]
 simp only [List.mem_range]
theorem kP {S : Sp} {l : List Rw} : oX S l = true ↔ ∀ k, k < l.length → EW S (l.getD k ⟨⟨0, 0⟩, 0⟩) = true := by
 unfold oX
 rw [List.all_eq_true]
 constructor
 ·intro h k hk; exact h _ (dU hk)
 ·intro h x hx
  obtain ⟨k, hk, rfl⟩ := fh (d := ⟨⟨0, 0⟩, 0⟩) hx
  exact h k hk
theorem jn {S : Sp} {x : Rw} : EW S x = true ↔ dZ x.c.m x.c.v S.n = true ∧ 0 < x.o ∧ x.o < 2 ^ S.on.length := by
 unfold EW
 rw [Bool.and_eq_true, Bool.and_eq_true, decide_eq_true_eq, decide_eq_true_eq]
end
section
open Go Go.RowKit
theorem ig {b : Bool} (h : (!b) = false) : b = true := by cases b <;> simp_all
theorem iI {b : Bool} (h : (!b) = true) : b = false := by cases b <;> simp_all
theorem tV {b : Bool} (h : b = true) : Value.bool true = .bool b := by rw [h]
theorem lW {b : Bool} (h : ¬ b = true) : Value.bool false = .bool b := by rw [Bool.eq_false_iff.2 h]
theorem wa {n er : Int} {sa : Nat} (h : (0 ≤ n ∧ n ≤ 8 ∧ sa = ft n.toNat ∧ er = 0) ∨ (¬ (0 ≤ n ∧ n ≤ 8) ∧ er = 1)) (h0 : ¬ ¬ er = 0) : 0 ≤ n ∧ n ≤ 8 ∧ sa = ft n.toNat := by
 rcases h with ⟨h1, h2, h3, _⟩ | ⟨_, h2⟩
 ·exact ⟨h1, h2, h3⟩
 ·omega
theorem N8 {n er : Int} {sa : Nat} (h : (0 ≤ n ∧ n ≤ 8 ∧ sa = ft n.toNat ∧ er = 0) ∨ (¬ (0 ≤ n ∧ n ≤ 8) ∧ er = 1)) (h0 : ¬ er = 0) : ¬ (0 ≤ n ∧ n ≤ 8) := by
 rcases h with ⟨_, _, _, h2⟩ | ⟨h1, _⟩
 ·exact absurd h2 h0
 ·exact h1
theorem Kj {o i : Nat} : decide (((o / 2 ^ i % 2 : Nat) : Int) = 1) = o.testBit i := by
 rw [hU, wW]
def mR (o : Nat) : Nat → Bool
 | 0 => false
 | k + 1 => mR o k || o.testBit k
theorem H4 {o k : Nat} (h : o.testBit k = true) : true = mR o (k + 1) := by rw [mR, h, Bool.or_true]
theorem J5 {o k : Nat} (h : o.testBit k = false) : mR o k = mR o (k + 1) := by rw [mR, h, Bool.or_false]
theorem v5 {o : Nat} : ∀ k, mR o k = true ↔ ∃ j, j < k ∧ o.testBit j = true
 | 0 => by simp [mR]
 | k + 1 => by
  rw [mR, Bool.or_eq_true, v5 k]
  constructor
  ·rintro (⟨j, hj, h⟩ | h)
   ·exact ⟨j, by omega, h⟩
   ·exact ⟨k, by omega, h⟩
  ·rintro ⟨j, hj, h⟩
   rcases Nat.lt_succ_iff_lt_or_eq.1 hj with hj | rfl
   ·exact .inl ⟨j, hj, h⟩
   ·exact .inr h
def Nw (o outs : Nat) : Bool := decide (0 < o) && decide (o < 2 ^ outs)
theorem rV {o outs : Nat} : Nw o outs = true ↔ 0 < o ∧ o < 2 ^ outs := by unfold Nw; rw [Bool.and_eq_true, decide_eq_true_eq, decide_eq_true_eq]
theorem O6 {o outs k : Nat} (h : o.testBit k = true) (hk : outs ≤ k) : Nw o outs = false := Bool.eq_false_iff.2 fun hh => by
 rw [fZ.1 (rV.1 hh).2 k hk] at h; cases h
theorem FY {o outs : Nat} (h8 : o < 256) (h : ∀ j, j < 8 → o.testBit j = true → j < outs) : Nw o outs = mR o 8 := by
 have hz : ∀ j, 8 ≤ j → o.testBit j = false := (fZ (n := 8)).1 h8
 rw [Bool.eq_iff_iff, rV, v5]
 constructor
 ·rintro ⟨h1, _⟩
  obtain ⟨j, hj⟩ := mO h1
  by_cases h8 : j < 8
  ·exact ⟨j, h8, hj⟩
  ·rw [hz j (by omega)] at hj; cases hj
 ·rintro ⟨j, hj, hb⟩
  refine ⟨rT hb, fZ.2 fun i hi => Bool.eq_false_iff.2 fun hb2 => ?_⟩
  by_cases h8 : i < 8
  ·have := h i h8 hb2; omega
  ·rw [hz i (by omega)] at hb2; cases hb2
theorem Ji {S : Sp} {m u o : Nat} (h : (Nw o S.on.length && dZ m u S.n) = false) : Value.bool false = .bool (lY S ⟨⟨m, u⟩, o⟩) := lW fun hi => by
 have hr := (fz.1 hi).1
 obtain ⟨_, _, _, _, h5, _⟩ := dX.1 hr
 rw [rV.2 ⟨(fz.1 hi).2.1, h5 ▸ (lS hi).1⟩, fk hi] at h
 cases h
theorem Lf {S : Sp} {m u o k : Nat} (hb : o.testBit k = true) (h : nh m u (iM S k) S.n = false) : Value.bool false = .bool (lY S ⟨⟨m, u⟩, o⟩) := lW fun hi => by
 have := ((fz.1 hi).2.2 k hb).2
 rw [show nh m u (iM S k) S.n = true from this] at h
 cases h
theorem MI {S : Sp} {m u o : Nat} (hr : dL S = true) (h : (Nw o S.on.length && dZ m u S.n) = true) (hk : ∀ k, k < S.may.length → o.testBit k = true → nh m u (iM S k) S.n = true) : Value.bool true = .bool (lY S ⟨⟨m, u⟩, o⟩) := tV (by
 obtain ⟨_, _, _, _, h5, _⟩ := dX.1 hr
 rw [Bool.and_eq_true, rV] at h
 refine fz.2 ⟨hr, h.1.1, fun j hj => ?_⟩
 have hlt : j < S.may.length := Classical.byContradiction fun hn => by
  rw [fZ.1 h.1.2 j (by omega)] at hj; cases hj
 exact ⟨hlt, hk j hlt hj⟩)
theorem IK {S : Sp} {m u o : Nat} (h1 : dL S = true) (h2 : (0 : Int) < (o : Int)) : decide (((andNot o (jT S ⟨m, u⟩) : Nat) : Int) = 0) = lY S ⟨⟨m, u⟩, o⟩ := by
 unfold lY
 rw [h1, decide_eq_true (show 0 < o by omega), Bool.true_and, Bool.true_and, Bool.eq_iff_iff, decide_eq_true_eq, decide_eq_true_eq]
 exact Int.ofNat_inj
theorem Jj {S : Sp} {m u o : Nat} (h2 : ¬ (0 : Int) < (o : Int)) : ¬ lY S ⟨⟨m, u⟩, o⟩ = true := fun hi => by
 have h3 : 0 < o := (fz.1 hi).2.1
 omega
theorem Ja {S : Sp} {x : Rw} (h2 : dL S = false) : ¬ lY S x = true := fun hi => by
 have := (fz.1 hi).1
 rw [h2] at this; cases this
theorem MM {a b k : Nat} (ha : a < 2 ^ k) : a + 2 ^ k = a ||| 2 ^ k := by
 have h := Nat.two_pow_add_eq_or_of_lt ha 1
 rw [Nat.mul_one] at h
 rw [Nat.add_comm, h, Nat.or_comm]
theorem MR {a k : Nat} (h : a.testBit k = false) : a + 2 ^ k = a ||| 2 ^ k := by
 have e : a = 2 ^ (k + 1) * (a / 2 ^ (k + 1)) + a % 2 ^ (k + 1) := (Nat.div_add_mod a _).symm
 have hlow : a % 2 ^ (k + 1) < 2 ^ k := by
  refine fZ.2 fun j hj => ?_
  rw [Nat.testBit_mod_two_pow]
  by_cases hjk : j = k
  ·subst hjk; rw [h, Bool.and_false]
  ·rw [decide_eq_false (by omega), Bool.false_and]
 have hlt : a % 2 ^ (k + 1) + 2 ^ k < 2 ^ (k + 1) := by have := Nat.pow_succ 2 k; omega
 have e2 : a + 2 ^ k = 2 ^ (k + 1) * (a / 2 ^ (k + 1)) + (a % 2 ^ (k + 1) + 2 ^ k) := by omega
 rw [e2, Nat.two_pow_add_eq_or_of_lt hlt, MM (b := 0) hlow, ← Nat.or_assoc, ← Nat.two_pow_add_eq_or_of_lt (Nat.mod_lt _ (Nat.two_pow_pos _)), ← e]
theorem Rq {m u o m2 u2 o2 : Nat} (h : ¬ (o : Int) = (o2 : Int)) : decide ((o : Int) < (o2 : Int)) = ze ⟨⟨m, u⟩, o⟩ ⟨⟨m2, u2⟩, o2⟩ := by
 rw [Bool.eq_iff_iff, mh, decide_eq_true_eq]
 simp only
 omega
theorem QA {m u o m2 u2 o2 : Nat} (h : ¬ ¬ (o : Int) = (o2 : Int)) (h2 : ¬ (m : Int) = (m2 : Int)) : decide ((m : Int) < (m2 : Int)) = ze ⟨⟨m, u⟩, o⟩ ⟨⟨m2, u2⟩, o2⟩ := by
 rw [Bool.eq_iff_iff, mh, decide_eq_true_eq]
 simp only
 omega
theorem Rb {m u o m2 u2 o2 : Nat} (h : ¬ ¬ (o : Int) = (o2 : Int)) (h2 : ¬ ¬ (m : Int) = (m2 : Int)) : decide ((u : Int) < (u2 : Int)) = ze ⟨⟨m, u⟩, o⟩ ⟨⟨m2, u2⟩, o2⟩ := by
 rw [Bool.eq_iff_iff, mh, decide_eq_true_eq]
 simp only
 omega
theorem D1 {l : List Rw} {x : Rw} {i : Nat} (h0 : 0 < i) (h : ze x (l.getD ((i : Int) - 1).toNat ⟨⟨0, 0⟩, 0⟩) = true) : oN l x i = oN l x (i - 1) :=
 Gk h0 (by rwa [show ((i : Int) - 1).toNat = i - 1 by omega] at h)
theorem y8 {l : List Rw} {x : Rw} {i : Nat} (h : i = 0 ∨ ze x (l.getD ((i : Int) - 1).toNat ⟨⟨0, 0⟩, 0⟩) = false) : oN l x i = i :=
 B8 (by rwa [show ((i : Int) - 1).toNat = i - 1 by omega] at h)
theorem xA {sz : Nat} {v : Value} {h : Nat} {α : Type} {l : List α} (e : ((l.drop 0).take (h - 0)).length = h - 0) : jf (gg sz v 0 h h) = ((l.drop 0).take (h - 0)).length := e.symm
theorem Hw {s : Nat} {n : Int} (h8 : n ≤ 8) {i : Nat} (hi : i < (eE s n).length) : ((eE s n).getD i ⟨0, 0⟩).m < 256 ∧ ((eE s n).getD i ⟨0, 0⟩).v < 256 := by
 have := js (km (IB hi))
 have h2 := eT h8
 omega
theorem uW {o i : Nat} (h : ((o / 2 ^ ((i : Nat) : Int).toNat &&& 1 : Nat) : Int) = 1) : o.testBit i = true := lr.1 h
theorem vz {o i : Nat} (h : ¬ ((o / 2 ^ ((i : Nat) : Int).toNat &&& 1 : Nat) : Int) = 1) : ¬ o.testBit i = true := fun k => h (lr.2 k)
theorem Eo {a b : Nat} (h : (a : Int) = (b : Int)) : a = b := Int.ofNat_inj.1 h
end
section
open Go Go.RowKit Go.ChangeShapes Go.WideShapes Go.ChangeAt Go.Joins Go.Deep
section
variable {H : Type} {encH : TypeId × Value → H} {P : Program} {w : World} {base : Nat} {held : Bool} {r : Reach} {b0 : Nat} {t e : TypeId}
theorem H6 {u : TypeId} (ht : P.underlying t = some (.array 4 u)) (hu : P.underlying u = some (.int .u64)) (hc : P.cellsOf u = 1) {n : Nat} {cs : List Value} {y : DataW H × List MemPlace} (hl : cs.length = 4) (h : DataW.trod encH P w base (fun _ => true) held n t cs = some y) : ∃ s : Nat, cs = fQ s ∧ s < 2 ^ 256 := by
 match cs, hl with
 | [c0, c1, c2, c3], _ =>
  obtain ⟨y0, y1, y2, y3, n, hx, h0, h1, h2, h3⟩ := trod_array4 ht hc h
  obtain ⟨n0, e0, _, w0⟩ := DataW.trod_int hu h0
  obtain ⟨n1, e1, _, w1⟩ := DataW.trod_int hu h1
  obtain ⟨n2, e2, _, w2⟩ := DataW.trod_int hu h2
  obtain ⟨n3, e3, _, w3⟩ := DataW.trod_int hu h3
  simp only [List.cons.injEq, and_true] at e0 e1 e2 e3
  subst e0 e1 e2 e3
  obtain ⟨k0, rfl, l0⟩ := zq w0
  obtain ⟨k1, rfl, l1⟩ := zq w1
  obtain ⟨k2, rfl, l2⟩ := zq w2
  obtain ⟨k3, rfl, l3⟩ := zq w3
  obtain ⟨s, hs, hv⟩ := zm l0 l1 l2 l3
  refine ⟨s, ?_, hs⟩
  have := congrArg (fun v : Value => v.cells.toList) hv
  exact this
theorem open_spec {v : Value} {d : DataW H} {p : List MemPlace} {f0 f1 f2 : Field} {u eS : TypeId} (hs : P.underlying t = some (.struct #[f0, f1, f2])) (hone : oneCellFields P #[f0, f1, f2] = true) (hC : P.cellsOf t = 3) (h0 : P.underlying f0.type = some (.int .i64)) (h1 : P.underlying f1.type = some (.slice eS)) (h2 : P.underlying f2.type = some (.slice eS))
  (hc : P.cellsOf eS = 4) (hS : P.underlying eS = some (.array 4 u)) (hu : P.underlying u = some (.int .u64)) (hcu : P.cellsOf u = 1) (hv : Value.okWide P w r b0 t v) (h : DataW.Trod encH P w base (fun _ => true) held t v d p) :
  ∃ (S : Sp) (onV mayV : Value), v = .agg #[.int .i64 S.n, onV, mayV] ∧ dO fQ 4 w onV S.on ∧ dO fQ 4 w mayV S.may ∧ (-9223372036854775808 ≤ S.n ∧ S.n ≤ 9223372036854775807) ∧ (∀ s ∈ S.on, s < 2 ^ 256) ∧ ∀ s ∈ S.may, s < 2 ^ 256 := by
 obtain ⟨v0, v1, v2, y0, y1, y2, n, rfl, _, _, g0, g1, g2⟩ := open_agg3 hs hone hC hv h
 obtain ⟨z, e0, _, w0⟩ := DataW.trod_int h0 g0
 simp only [List.cons.injEq, and_true] at e0
 subst e0
 obtain ⟨l1, k1, q1⟩ := open_sl (α := Nat) h1 hc (by decide) dF (fun n cs y hl hh => H6 hS hu hcu hl hh) g1
 obtain ⟨l2, k2, q2⟩ := open_sl (α := Nat) h2 hc (by decide) dF (fun n cs y hl hh => H6 hS hu hcu hl hh) g2
 exact ⟨⟨z, l1, l2⟩, v1, v2, rfl, k1, k2, Oa w0, q1, q2⟩
instance : Inhabited Rw := ⟨⟨⟨0, 0⟩, 0⟩⟩
instance : Inhabited Cb := ⟨⟨0, 0⟩⟩
end
end
end Go.Proofs.YteimkklmmanncaaGreat
