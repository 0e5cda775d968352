/- Primes out of cubes of one literal less, again and again. No program in it. Each cube within a set is held by a prime; the primes' points are the set's. No program in it. Plain words for covers without a search: sides of sets, the cover by the sides, its points, that no cube of it is too much. No pr -/
import Derived.Test.YteimkklmmanncaaGreatPrime
namespace Go.Proofs.YteimkklmmanncaaGreat
set_option linter.unusedVariables false
set_option linter.unusedSimpArgs false
section
open Go Go.RowKit
theorem tj {m u : Nat} {n : Int} {v : Value} (h : v = if dY m u n = true then .tuple #[eP (qI m u n.toNat), .int .i64 0] else .tuple #[eP 0, .int .i64 1]) :
  ∃ (sa : Nat) (er : Int), v = .tuple #[eP sa, .int .i64 er] ∧ ((dY m u n = true ∧ sa = qI m u n.toNat ∧ er = 0) ∨ (dY m u n = false ∧ er = 1)) := by
 by_cases hr : dY m u n = true
 ·rw [if_pos hr] at h
  exact ⟨_, _, h, .inl ⟨hr, rfl, rfl⟩⟩
 ·rw [if_neg hr] at h
  exact ⟨_, _, h, .inr ⟨by simpa using hr, rfl⟩⟩
theorem It {m u s sa : Nat} {n er : Int} (h : (dY m u n = true ∧ sa = qI m u n.toNat ∧ er = 0) ∨ (dY m u n = false ∧ er = 1)) (h0 : er = 0) : ep sa s = o0 m u s n := by
 rcases h with ⟨h1, rfl, _⟩ | ⟨_, h2⟩
 ·exact O3 h1
 ·omega
theorem E5 {m u s sa : Nat} {n er : Int} (h : (dY m u n = true ∧ sa = qI m u n.toNat ∧ er = 0) ∨ (dY m u n = false ∧ er = 1)) (h0 : ¬ er = 0) : false = o0 m u s n := by
 rcases h with ⟨_, _, h2⟩ | ⟨h1, _⟩
 ·exact absurd h2 h0
 ·exact P0 h1
theorem Gu {m u m2 u2 : Nat} (h : (m : Int) < (m2 : Int)) : true = wu ⟨m, u⟩ ⟨m2, u2⟩ := (kx.2 (.inl (by simp only; omega))).symm
theorem GH {m u m2 u2 : Nat} (_h : ¬ (m : Int) < (m2 : Int)) (h2 : (m : Int) = (m2 : Int)) : decide ((u : Int) < (u2 : Int)) = wu ⟨m, u⟩ ⟨m2, u2⟩ := by
 rw [Bool.eq_iff_iff, kx, decide_eq_true_eq]
 simp only
 omega
theorem GA {m u m2 u2 : Nat} (h : ¬ (m : Int) < (m2 : Int)) (h2 : ¬ (m : Int) = (m2 : Int)) : false = wu ⟨m, u⟩ ⟨m2, u2⟩ := by
 symm
 refine Bool.eq_false_iff.2 fun h3 => ?_
 rw [kx] at h3
 simp only at h3
 omega
theorem Hz {l : List Cb} {c : Cb} {i : Nat} (hi : 0 < i) (h : (!wu (l.getD ((i : Int) - 1).toNat ⟨0, 0⟩) c) = true) : mR l c i = mR l c (i - 1) := by
 obtain ⟨j, rfl⟩ : ∃ j, i = j + 1 := ⟨i - 1, by omega⟩
 have e : ((j + 1 : Nat) : Int) - 1 = (j : Int) := by omega
 rw [e, Int.toNat_natCast] at h
 simp only [mR]
 rw [if_neg (by simpa using h)]
 rfl
theorem Ee {l : List Cb} {c : Cb} {i : Nat} (h : i = 0 ∨ (!wu (l.getD ((i : Int) - 1).toNat ⟨0, 0⟩) c) = false) : mR l c i = i := by
 rcases h with rfl | h
 ·rfl
 ·cases i with
  | zero => rfl
  | succ j =>
   have e : ((j + 1 : Nat) : Int) - 1 = (j : Int) := by omega
   rw [e, Int.toNat_natCast] at h
   simp only [mR]
   rw [if_pos (by simpa using h)]
theorem qu {sz : Nat} {v : Value} {h : Nat} {α : Type} {l : List α} (e : ((l.drop 0).take (h - 0)).length = h - 0) : iU (fV sz v 0 h h) = ((l.drop 0).take (h - 0)).length := e.symm
def i6 (c : Cb) (i : Nat) : Cb := ⟨jx c.m (i : Int), c.v &&& jx c.m (i : Int)⟩
def D6 (c : Cb) (i : Nat) : Cb := ⟨c.m, c.v ^^^ 2 ^ i⟩
def imp (s : Nat) (n : Int) (c : Cb) : Prop := o0 c.m c.v s n = true
theorem f6 {s : Nat} {n : Int} {c : Cb} : imp s n c ↔ dY c.m c.v n = true ∧ ∀ p, p < 2 ^ n.toNat → p &&& c.m = c.v → s.testBit p = true := by
 unfold imp o0
 rw [Bool.and_eq_true]
 constructor
 ·rintro ⟨h1, h2⟩
  obtain ⟨h0, h8, hm, hv⟩ := dW.1 h1
  refine ⟨h1, fun p hp hpm => ?_⟩
  have := fh h8
  exact d6.1 h2 p (by omega) (by rw [jq (by omega)]; simp [hp, hpm])
 ·rintro ⟨h1, h2⟩
  obtain ⟨h0, h8, hm, hv⟩ := dW.1 h1
  refine ⟨h1, d6.2 fun p _ hp => ?_⟩
  rw [jq (by omega)] at hp
  simp at hp
  exact h2 p hp.1 hp.2
theorem eU {m v : Nat} (h : v &&& m = v) (j : Nat) : v.testBit j = (v.testBit j && m.testBit j) := by
 conv => lhs; rw [← h, Nat.testBit_and]
theorem xL {m v i p : Nat} (hi : i < 8) (hb : m.testBit i = true) (hv : v &&& m = v) : p &&& jx m (i : Int) = v &&& jx m (i : Int) ↔ (p &&& m = v ∨ p &&& m = v ^^^ 2 ^ i) := by
 have hw := fun j => eN (m := m) hi j
 have hvb := eU hv
 constructor
 ·intro h
  have hj : ∀ j, j ≠ i → (p.testBit j && m.testBit j) = (v.testBit j && m.testBit j) := fun j hj => by
   have := congrArg (fun x => x.testBit j) h
   simp only [Nat.testBit_and, hw, decide_eq_true hj, Bool.and_true] at this
   exact this
  by_cases e : p.testBit i = v.testBit i
  ·left
   refine Nat.eq_of_testBit_eq fun j => ?_
   rw [Nat.testBit_and, hvb j]
   by_cases hji : j = i
   ·subst hji; rw [e]
   ·exact hj j hji
  ·right
   refine Nat.eq_of_testBit_eq fun j => ?_
   rw [Nat.testBit_and, Nat.testBit_xor, Nat.testBit_two_pow]
   by_cases hji : j = i
   ·subst hji
    rw [hb]
    cases hp : p.testBit j <;> cases hq : v.testBit j <;> simp_all
   ·have : ¬ i = j := fun h => hji h.symm
    rw [hj j hji, ← hvb j]
    simp [this]
 ·rintro (h | h)
  ·refine Nat.eq_of_testBit_eq fun j => ?_
   have := congrArg (fun x => x.testBit j) h
   simp only [Nat.testBit_and] at this
   rw [Nat.testBit_and, Nat.testBit_and, hw, ← Bool.and_assoc, this, ← Bool.and_assoc, ← hvb j]
  ·refine Nat.eq_of_testBit_eq fun j => ?_
   have := congrArg (fun x => x.testBit j) h
   simp only [Nat.testBit_and, Nat.testBit_xor, Nat.testBit_two_pow] at this
   rw [Nat.testBit_and, Nat.testBit_and, hw, ← Bool.and_assoc, this, ← Bool.and_assoc, ← hvb j]
   by_cases hji : j = i
   ·subst hji; simp
   ·have : ¬ i = j := fun h => hji h.symm
    simp [this]
theorem Az {m v i : Nat} {n : Int} (h : dY m v n = true) : dY (jx m (i : Int)) (v &&& jx m (i : Int)) n = true := by
 obtain ⟨h0, h8, hm, hv⟩ := dW.1 h
 have := uT m (i : Int)
 exact dW.2 ⟨h0, h8, by omega, by rw [Nat.and_assoc, Nat.and_self]⟩
theorem CZ {m v i : Nat} {n : Int} (h : dY m v n = true) (hb : m.testBit i = true) : dY m (v ^^^ 2 ^ i) n = true := by
 obtain ⟨h0, h8, hm, hv⟩ := dW.1 h
 refine dW.2 ⟨h0, h8, hm, Nat.eq_of_testBit_eq fun j => ?_⟩
 have hvb := eU hv j
 rw [Nat.testBit_and, Nat.testBit_xor, Nat.testBit_two_pow]
 by_cases hji : i = j
 ·subst hji; simp [hb]
 ·simp only [hji, decide_false, Bool.xor_false]
  exact hvb.symm
theorem yW {s i : Nat} {n : Int} {c : Cb} (hr : dY c.m c.v n = true) (hi : i < n.toNat) (hb : c.m.testBit i = true) : imp s n (i6 c i) ↔ imp s n c ∧ imp s n (D6 c i) := by
 obtain ⟨h0, h8, hm, hv⟩ := dW.1 hr
 have hw := fun p => xL (p := p) (i := i) (by omega) hb hv
 rw [f6, f6, f6]
 constructor
 ·rintro ⟨h1, h2⟩
  exact ⟨⟨hr, fun p hp hpm => h2 p hp ((hw p).2 (.inl hpm))⟩, ⟨CZ hr hb, fun p hp hpm => h2 p hp ((hw p).2 (.inr hpm))⟩⟩
 ·rintro ⟨⟨_, h1⟩, ⟨_, h2⟩⟩
  refine ⟨Az hr, fun p hp hpm => ?_⟩
  rcases (hw p).1 hpm with h | h
  ·exact h1 p hp h
  ·exact h2 p hp h
def nK (m : Nat) : Nat → Nat
 | 0 => 0
 | k + 1 => nK m k + if m.testBit k = true then 1 else 0
theorem wx (m : Nat) : ∀ k, nK m k ≤ k
 | 0 => Nat.le_refl _
 | k + 1 => by
  have := wx m k
  simp only [nK]
  split <;> omega
theorem Au {m i : Nat} (hi : i < 8) (hb : m.testBit i = true) : ∀ k, nK (jx m (i : Int)) k + (if i < k then 1 else 0) = nK m k
 | 0 => by simp [nK]
 | k + 1 => by
  have ih := Au hi hb k
  simp only [nK, eN hi]
  by_cases e : k = i
  ·subst e
   rw [if_neg (Nat.lt_irrefl _)] at ih
   simp [hb, ← ih]
  ·rw [decide_eq_true e, Bool.and_true]
   by_cases h2 : i < k
   ·rw [if_pos h2] at ih
    simp only [show i < k + 1 from by omega, if_true]
    omega
   ·rw [if_neg h2] at ih
    simp only [show ¬ i < k + 1 from by omega, if_false]
    omega
theorem xY {m : Nat} : ∀ k, nK m k = k → ∀ i, i < k → m.testBit i = true
 | 0, _, i, hi => absurd hi (Nat.not_lt_zero _)
 | k + 1, h, i, hi => by
  have := wx m k
  simp only [nK] at h
  split at h
  ·rename_i hk
   rcases Nat.lt_succ_iff_lt_or_eq.1 hi with h2 | rfl
   ·exact xY k (by omega) i h2
   ·exact hk
  ·omega
theorem ri {m : Nat} : ∀ k, (∀ i, i < k → m.testBit i = true) → nK m k = k
 | 0, _ => rfl
 | k + 1, h => by
  have := ri k (fun i hi => h i (by omega))
  simp only [nK, this, h k (Nat.lt_succ_self _), if_true]
theorem FP {m k : Nat} (h : nK m k < k) : ∃ i, i < k ∧ m.testBit i = false := by
 refine Decidable.byContradiction fun hn => ?_
 have := ri (m := m) k (fun i hi => by
  refine Decidable.byContradiction fun h2 => hn ⟨i, hi, by simpa using h2⟩)
 omega
def rn (n : Int) (c : Cb) : Nat := nK c.m n.toNat
theorem Hd {n : Int} {c : Cb} {i : Nat} (h8 : n ≤ 8) (hi : i < n.toNat) (hb : c.m.testBit i = true) : rn n (i6 c i) + 1 = rn n c := by
 have h := Au (m := c.m) (i := i) (by omega) hb n.toNat
 rwa [if_pos hi] at h
theorem xO {s : Nat} {n : Int} {d : Cb} (h : imp s n d) (hc : rn n d < n.toNat) : ∃ c i, i < n.toNat ∧ c.m.testBit i = true ∧ imp s n c ∧ imp s n (D6 c i) ∧ d = i6 c i ∧ rn n c = rn n d + 1 := by
 obtain ⟨i, hi, hb⟩ := FP hc
 have hr := (f6.1 h).1
 obtain ⟨h0, h8, hm, hv⟩ := dW.1 hr
 have hvb := eU hv
 have hi8 : i < 8 := by omega
 have hb2 : (d.m ||| 2 ^ i).testBit i = true := by simp
 have e1 : jx (d.m ||| 2 ^ i) (i : Int) = d.m := Nat.eq_of_testBit_eq fun j => by
  rw [eN hi8, Nat.testBit_or, Nat.testBit_two_pow]
  by_cases e : j = i
  ·subst e; simp [hb]
  ·have : ¬ i = j := fun h => e h.symm
   simp [this, e]
 have hrc : dY (d.m ||| 2 ^ i) d.v n = true := by
  refine dW.2 ⟨h0, h8, Nat.or_lt_two_pow hm (Nat.pow_lt_pow_right (by decide) hi), Nat.eq_of_testBit_eq fun j => ?_⟩
  rw [Nat.testBit_and, Nat.testBit_or, hvb j]
  cases d.v.testBit j <;> cases d.m.testBit j <;> simp
 have hd : d = i6 ⟨d.m ||| 2 ^ i, d.v⟩ i := by
  unfold i6
  simp only [e1, hv]
 have hw := (yW (s := s) (c := ⟨d.m ||| 2 ^ i, d.v⟩) hrc hi hb2).1 (hd ▸ h)
 refine ⟨⟨d.m ||| 2 ^ i, d.v⟩, i, hi, hb2, hw.1, hw.2, hd, ?_⟩
 have := Hd (c := ⟨d.m ||| 2 ^ i, d.v⟩) h8 hi hb2
 rw [← hd] at this
 exact this.symm
def iR (now : List Cb) (c : Cb) (i : Nat) : Prop := c.m.testBit i = true ∧ D6 c i ∈ now
def jk (now : List Cb) (n : Int) (seen : List Cb) (d : Cb) : Prop := ∃ c, c ∈ seen ∧ ∃ i, i < n.toNat ∧ iR now c i ∧ d = i6 c i
def gk (now : List Cb) (n : Int) (seen : List Cb) (d : Cb) : Prop := d ∈ seen ∧ ∃ i, i < n.toNat ∧ iR now d i
def nu (s : Nat) (n : Int) (t : Nat) (now : List Cb) : Prop := ∀ c, c ∈ now ↔ imp s n c ∧ rn n c + 1 = t
section
variable {s t : Nat} {n : Int} {now : List Cb}
theorem H9 (c : Cb) (i : Nat) : rn n (D6 c i) = rn n c := rfl
theorem xo (h : nu s n t now) {c : Cb} (hc : c ∈ now) {i : Nat} (hi : i < n.toNat) : iR now c i ↔ ke c.m c.v s n i = true := by
 obtain ⟨h1, h2⟩ := (h c).1 hc
 have hr := (f6.1 h1).1
 unfold iR ke
 rw [Bool.and_eq_true]
 constructor
 ·rintro ⟨hb, hf⟩
  exact ⟨hb, (yW hr hi hb).2 ⟨h1, ((h _).1 hf).1⟩⟩
 ·rintro ⟨hb, hw⟩
  exact ⟨hb, (h _).2 ⟨((yW hr hi hb).1 hw).2, h2⟩⟩
theorem vt (h : nu s n t now) {c : Cb} (hc : c ∈ now) : gk now n now c ↔ gK c.m c.v s n = false := by
 have h1 := ((h c).1 hc).1
 rw [← Bool.not_eq_true, fY]
 constructor
 ·rintro ⟨_, i, hi, hp⟩ ⟨_, h3⟩
  have := h3 i hi
  rw [(xo h hc hi).1 hp] at this
  cases this
 ·intro h2
  refine ⟨hc, Classical.byContradiction fun hn => h2 ⟨h1, fun i hi => ?_⟩⟩
  refine Bool.eq_false_iff.2 fun hs => hn ⟨i, hi, (xo h hc hi).2 hs⟩
theorem C9 (h8 : n ≤ 8) (h : nu s n (t + 1) now) (ht : t ≤ n.toNat) {nl : List Cb} (hn : ∀ d, d ∈ nl ↔ jk now n now d) : nu s n t nl := by
 intro d
 rw [hn]
 constructor
 ·rintro ⟨c, hc, i, hi, hp, rfl⟩
  obtain ⟨h1, h2⟩ := (h c).1 hc
  have hr := (f6.1 h1).1
  refine ⟨(yW hr hi hp.1).2 ⟨h1, ((h _).1 hp.2).1⟩, ?_⟩
  have := Hd (c := c) h8 hi hp.1
  omega
 ·rintro ⟨h1, h2⟩
  obtain ⟨c, i, hi, hb, hc, hf, hd, hcnt⟩ := xO h1 (by omega)
  exact ⟨c, (h c).2 ⟨hc, by omega⟩, i, hi, ⟨hb, (h _).2 ⟨hf, by rw [H9]; omega⟩⟩, hd⟩
def uY (s : Nat) (n : Int) (t : Nat) (out : List Cb) : Prop := ∀ c, c ∈ out ↔ gK c.m c.v s n = true ∧ t ≤ rn n c
theorem IC {out out2 ml : List Cb} (h : nu s n (t + 1) now) (ho : uY s n (t + 1) out) (hm : ∀ d, d ∈ ml ↔ gk now n now d) (h2 : ∀ c, c ∈ out2 ↔ c ∈ out ∨ (c ∈ now ∧ c ∉ ml)) : uY s n t out2 := by
 intro c
 rw [h2, ho, hm]
 constructor
 ·rintro (⟨h3, h4⟩ | ⟨h3, h4⟩)
  ·exact ⟨h3, by omega⟩
  ·rw [vt h h3, Bool.not_eq_false] at h4
   exact ⟨h4, by have := ((h c).1 h3).2; omega⟩
 ·rintro ⟨h3, h4⟩
  by_cases e : t + 1 ≤ rn n c
  ·exact .inl ⟨h3, e⟩
  ·have hc : c ∈ now := (h c).2 ⟨(fY.1 h3).1, by omega⟩
   exact .inr ⟨hc, by rw [vt h hc, Bool.not_eq_false]; exact h3⟩
theorem vk (ht : t ≤ n.toNat + 1) (h : nu s n t []) : ∀ (k : Nat) (c : Cb), imp s n c → rn n c + 1 + k = t → False
 | 0, c, hc, e => by have := (h c).2 ⟨hc, e⟩; simp at this
 | k + 1, c, hc, e => by
  obtain ⟨c', i, hi, hb, hc', hf, hd, hcnt⟩ := xO hc (by omega)
  exact vk ht h k c' hc' (by omega)
theorem LU {out : List Cb} (ht : t ≤ n.toNat + 1) (h : nu s n t []) (ho : uY s n t out) (hr : iM out) : out = eH s n := by
 refine vU hr (p7 s n) fun c => ?_
 rw [ho, mV]
 constructor
 ·exact fun h => h.1
 ·intro hp
  refine ⟨hp, Decidable.byContradiction fun hlt => ?_⟩
  exact vk ht h (t - (rn n c + 1)) c (fY.1 hp).1 (by omega)
theorem Jb : uY s n (n.toNat + 1) [] := by
 intro c
 constructor
 ·intro h; simp at h
 ·rintro ⟨_, h⟩
  have := wx c.m n.toNat
  unfold rn at h
  omega
theorem Am (hs : uA s n = true) {ks : List Cb} (hk : ∀ c, c ∈ ks ↔ ∃ x ∈ eg s, c = ⟨2 ^ n.toNat - 1, x.toNat⟩) : nu s n (n.toNat + 1) ks := by
 unfold uA at hs
 simp only [Bool.and_eq_true, decide_eq_true_eq] at hs
 obtain ⟨h0, h8, hw⟩ := hs
 have hp8 := fh h8
 have hpt : ∀ p, p < 256 → s.testBit p = true → p < 2 ^ n.toNat := fun p hp h => by
  have := d6.1 hw p hp h
  rw [fP] at this
  simpa using this
 intro c
 rw [hk]
 constructor
 ·rintro ⟨x, hx, rfl⟩
  obtain ⟨p, hp, hb, rfl⟩ := iZ.1 hx
  have hlt := hpt p hp hb
  have e : ∀ q, q < 2 ^ n.toNat → q &&& (2 ^ n.toNat - 1) = q := fun q hq => by rw [Nat.and_two_pow_sub_one_eq_mod, Nat.mod_eq_of_lt hq]
  refine ⟨f6.2 ⟨dW.2 ⟨h0, h8, by have := Nat.two_pow_pos n.toNat; simp only; omega, e p hlt⟩, fun q hq h => ?_⟩, ?_⟩
  ·simp only [Int.toNat_natCast] at h
   rw [e q hq] at h
   rw [h]; exact hb
  ·unfold rn
   rw [ri n.toNat (fun i hi => by rw [Nat.testBit_two_pow_sub_one]; simpa using hi)]
 ·rintro ⟨h1, h2⟩
  have h3 := f6.1 h1
  obtain ⟨_, _, hm, hv⟩ := dW.1 h3.1
  have hm2 : c.m = 2 ^ n.toNat - 1 := Nat.eq_of_testBit_eq fun j => by
   rw [Nat.testBit_two_pow_sub_one]
   by_cases hj : j < n.toNat
   ·rw [xY n.toNat (by unfold rn at h2; omega) j hj]; simp [hj]
   ·rw [Nat.testBit_lt_two_pow (Nat.lt_of_lt_of_le hm (Nat.pow_le_pow_right (by decide) (by omega)))]; simp [hj]
  have hlt := (ly h3.1).2
  refine ⟨(c.v : Int), iZ.2 ⟨c.v, by omega, h3.2 c.v hlt hv, rfl⟩, ?_⟩
  cases c
  simp only [Int.toNat_natCast, Cb.mk.injEq, and_true]
  exact hm2
end
theorem Ak {α : Type} [DecidableEq α] : ∀ {l l' : List α}, l.Nodup → (∀ a ∈ l, a ∈ l') → l.length ≤ l'.length
 | [], _, _, _ => by simp
 | a :: l, l', h, hs => by
  obtain ⟨h1, h2⟩ := List.nodup_cons.1 h
  have ha := hs a (by simp)
  have := Ak (l := l) (l' := l'.erase a) h2 (fun b hb => by
   have hne : b ≠ a := fun e => h1 (e ▸ hb)
   exact (List.mem_erase_of_ne hne).2 (hs b (by simp [hb])))
  rw [List.length_erase_of_mem ha] at this
  have := List.length_pos_of_mem ha
  simp only [List.length_cons]
  omega
theorem qi {n : Int} {v : Value} (h : v = if 0 ≤ n ∧ n ≤ 8 then .tuple #[eP (fj n.toNat), .int .i64 0] else .tuple #[eP 0, .int .i64 1]) :
  ∃ (sa : Nat) (er : Int), v = .tuple #[eP sa, .int .i64 er] ∧ ((0 ≤ n ∧ n ≤ 8 ∧ sa = fj n.toNat ∧ er = 0) ∨ (¬ (0 ≤ n ∧ n ≤ 8) ∧ er = 1)) := by
 by_cases hr : 0 ≤ n ∧ n ≤ 8
 ·rw [if_pos hr] at h
  exact ⟨_, _, h, .inl ⟨hr.1, hr.2, rfl, rfl⟩⟩
 ·rw [if_neg hr] at h
  exact ⟨_, _, h, .inr ⟨hr, rfl⟩⟩
theorem EK {s sa : Nat} {n er : Int} (h : (0 ≤ n ∧ n ≤ 8 ∧ sa = fj n.toNat ∧ er = 0) ∨ (¬ (0 ≤ n ∧ n ≤ 8) ∧ er = 1)) (h0 : ¬ er = 0) : ¬ uA s n = true := by
 rcases h with ⟨_, _, _, h2⟩ | ⟨h1, _⟩
 ·exact absurd h2 h0
 ·unfold uA
  simp only [Bool.and_eq_true, decide_eq_true_eq]
  exact fun h2 => h1 ⟨h2.1, h2.2.1⟩
theorem Ez {s sa : Nat} {n er : Int} (h : (0 ≤ n ∧ n ≤ 8 ∧ sa = fj n.toNat ∧ er = 0) ∨ (¬ (0 ≤ n ∧ n ≤ 8) ∧ er = 1)) (h0 : ¬ ¬ er = 0) (hw : (!ep s sa) = true) : ¬ uA s n = true := by
 rcases h with ⟨_, _, rfl, _⟩ | ⟨_, h2⟩
 ·unfold uA
  simp only [Bool.and_eq_true, decide_eq_true_eq]
  intro h2
  rw [h2.2.2] at hw
  cases hw
 ·omega
theorem Jw {s sa : Nat} {n er : Int} (h : (0 ≤ n ∧ n ≤ 8 ∧ sa = fj n.toNat ∧ er = 0) ∨ (¬ (0 ≤ n ∧ n ≤ 8) ∧ er = 1)) (h0 : ¬ ¬ er = 0) (hw : (!ep s sa) = false) : uA s n = true := by
 rcases h with ⟨h1, h2, rfl, _⟩ | ⟨_, h2⟩
 ·unfold uA
  rw [decide_eq_true h1, decide_eq_true h2]
  simpa using hw
 ·omega
theorem jY {s : Nat} {n : Int} (h : uA s n = true) : 0 ≤ n ∧ n ≤ 8 := by
 unfold uA at h
 simp only [Bool.and_eq_true, decide_eq_true_eq] at h
 exact ⟨h.1, h.2.1⟩
theorem OV {P : Program} {f : Nat → Value} {w : World} {d : Option Nat} {ty t t2 : TypeId} {ps : String} {af : Array Edge} {g : Option (Nat × Bool)} {x y : Operand} {n : Int}
  (hx : dO f x = .int .u8 (IntKind.u8.wrap (1 * 2 ^ (min n.toNat IntKind.u8.bits)))) (hy : dO f y = .int .u8 1) (h0 : 0 ≤ n) (h8 : n ≤ 8) :
  (execOp (dO f) ⟨d, .binOp .sub t x y t2, ty, ps, af, g⟩).run P w = .ok (.value (.int .u8 ((2 ^ n.toNat - 1 : Nat) : Int))) w := by
 rw [Mt hx hy]
 have : ∀ k : Nat, k ≤ 8 → IntKind.u8.wrap (IntKind.u8.wrap (1 * 2 ^ (min k IntKind.u8.bits)) - 1) = ((2 ^ k - 1 : Nat) : Int) := fun k hk => by
  have : k = 0 ∨ k = 1 ∨ k = 2 ∨ k = 3 ∨ k = 4 ∨ k = 5 ∨ k = 6 ∨ k = 7 ∨ k = 8 := by omega
  rcases this with rfl | rfl | rfl | rfl | rfl | rfl | rfl | rfl | rfl <;> decide
 rw [this n.toNat (by omega)]
theorem Fz {M k p : Nat} {l : List Int} {ks : List Cb} (h : ∀ c, c ∈ ks ↔ ∃ j, j < k ∧ c = ⟨M, (l.getD j 0).toNat⟩) (hp : l.getD k 0 = (p : Int)) : ∀ c, c ∈ iB ks ⟨M, p⟩ ↔ ∃ j, j < k + 1 ∧ c = ⟨M, (l.getD j 0).toNat⟩ := by
 intro c
 rw [gm, h]
 constructor
 ·rintro (⟨j, hj, rfl⟩ | rfl)
  ·exact ⟨j, by omega, rfl⟩
  ·exact ⟨k, by omega, by rw [hp, Int.toNat_natCast]⟩
 ·rintro ⟨j, hj, rfl⟩
  rcases Nat.lt_succ_iff_lt_or_eq.1 hj with hj | rfl
  ·exact .inl ⟨j, hj, rfl⟩
  ·exact .inr (by rw [hp, Int.toNat_natCast])
theorem IP {M k : Nat} {l : List Int} {ks : List Cb} (h : ∀ c, c ∈ ks ↔ ∃ j, j < k ∧ c = ⟨M, (l.getD j 0).toNat⟩) (hk : k = l.length) : ∀ c, c ∈ ks ↔ ∃ x ∈ l, c = ⟨M, x.toNat⟩ := by
 intro c
 rw [h]
 constructor
 ·rintro ⟨j, hj, rfl⟩
  exact ⟨_, dS (by omega), rfl⟩
 ·rintro ⟨x, hx, rfl⟩
  obtain ⟨j, hj, rfl⟩ := List.mem_iff_getElem.1 hx
  exact ⟨j, by omega, by simp [hj]⟩
section
variable {s t : Nat} {n : Int} {now seen nl ml out : List Cb}
theorem Aq {α : Type} (l : List α) : (ft l).length = l.length := by simp [ft]
theorem AB {α : Type} {l : List α} {k : α} {v : Bool} (h : (k, v) ∈ ft l) : k ∈ l ∧ v = true := by
 unfold ft at h
 obtain ⟨a, ha, e⟩ := List.mem_map.1 h
 cases e
 exact ⟨ha, rfl⟩
theorem Fk (h : nu s n t now) (h0 : (0 : Int) < ((ft now).length : Int)) : ∃ t', t = t' + 1 := by
 rw [Aq] at h0
 obtain ⟨c, hc⟩ := List.exists_mem_of_length_pos (l := now) (by omega)
 exact ⟨_, ((h c).1 hc).2.symm⟩
theorem C5 {l : List Cb} (h0 : ¬ (0 : Int) < ((ft l).length : Int)) : l = [] := by
 rw [Aq] at h0
 exact List.eq_nil_of_length_eq_zero (by omega)
theorem vT (h : nu s n t now) (h8 : n ≤ 8) {c : Cb} (hc : c ∈ now) : c.m < 256 ∧ c.v < 256 := by
 have h1 := ly (f6.1 ((h c).1 hc).1).1
 have := fh h8
 omega
theorem Cc : ∀ d, d ∈ ([] : List Cb) ↔ jk now n [] d := fun d => by simp [jk]
theorem zB : ∀ d, d ∈ ([] : List Cb) ↔ gk now n [] d := fun d => by simp [gk]
theorem Fq {kk : Cb} (h : ∀ d, d ∈ nl ↔ jk now n seen d) : ∀ d, d ∈ nl ↔ jk now n seen d ∨ ∃ q, q < 0 ∧ iR now kk q ∧ d = i6 kk q := fun d => by rw [h]; simp
theorem Bm {kk : Cb} (h : ∀ d, d ∈ ml ↔ gk now n seen d) : ∀ d, d ∈ ml ↔ gk now n seen d ∨ (d = kk ∧ ∃ q, q < 0 ∧ iR now kk q) := fun d => by rw [h]; simp
theorem Jk {kk : Cb} {i : Nat} (h : ∀ d, d ∈ nl ↔ jk now n seen d ∨ ∃ q, q < i ∧ iR now kk q ∧ d = i6 kk q) (hp : iR now kk i) :
  ∀ d, d ∈ iB nl (i6 kk i) ↔ jk now n seen d ∨ ∃ q, q < i + 1 ∧ iR now kk q ∧ d = i6 kk q := fun d => by
 rw [gm, h]
 constructor
 ·rintro ((h1 | ⟨q, h1, h2, h3⟩) | h1)
  ·exact .inl h1
  ·exact .inr ⟨q, by omega, h2, h3⟩
  ·exact .inr ⟨i, by omega, hp, h1⟩
 ·rintro (h1 | ⟨q, h1, h2, h3⟩)
  ·exact .inl (.inl h1)
  ·rcases Nat.lt_succ_iff_lt_or_eq.1 h1 with h1 | rfl
   ·exact .inl (.inr ⟨q, h1, h2, h3⟩)
   ·exact .inr h3
theorem xF {kk : Cb} {i : Nat} (h : ∀ d, d ∈ nl ↔ jk now n seen d ∨ ∃ q, q < i ∧ iR now kk q ∧ d = i6 kk q) (hp : ¬ iR now kk i) :
  ∀ d, d ∈ nl ↔ jk now n seen d ∨ ∃ q, q < i + 1 ∧ iR now kk q ∧ d = i6 kk q := fun d => by
 rw [h]
 constructor
 ·rintro (h1 | ⟨q, h1, h2, h3⟩)
  ·exact .inl h1
  ·exact .inr ⟨q, by omega, h2, h3⟩
 ·rintro (h1 | ⟨q, h1, h2, h3⟩)
  ·exact .inl h1
  ·rcases Nat.lt_succ_iff_lt_or_eq.1 h1 with h1 | rfl
   ·exact .inr ⟨q, h1, h2, h3⟩
   ·exact absurd h2 hp
theorem CI {kk : Cb} {i : Nat} (h : ∀ d, d ∈ ml ↔ gk now n seen d ∨ (d = kk ∧ ∃ q, q < i ∧ iR now kk q)) (hp : iR now kk i) :
  ∀ d, d ∈ iB ml kk ↔ gk now n seen d ∨ (d = kk ∧ ∃ q, q < i + 1 ∧ iR now kk q) := fun d => by
 rw [gm, h]
 constructor
 ·rintro ((h1 | ⟨h1, q, h2, h3⟩) | h1)
  ·exact .inl h1
  ·exact .inr ⟨h1, q, by omega, h3⟩
  ·exact .inr ⟨h1, i, by omega, hp⟩
 ·rintro (h1 | ⟨h1, q, h2, h3⟩)
  ·exact .inl (.inl h1)
  ·exact .inr h1
theorem tO {kk : Cb} {i : Nat} (h : ∀ d, d ∈ ml ↔ gk now n seen d ∨ (d = kk ∧ ∃ q, q < i ∧ iR now kk q)) (hp : ¬ iR now kk i) :
  ∀ d, d ∈ ml ↔ gk now n seen d ∨ (d = kk ∧ ∃ q, q < i + 1 ∧ iR now kk q) := fun d => by
 rw [h]
 constructor
 ·rintro (h1 | ⟨h1, q, h2, h3⟩)
  ·exact .inl h1
  ·exact .inr ⟨h1, q, by omega, h3⟩
 ·rintro (h1 | ⟨h1, q, h2, h3⟩)
  ·exact .inl h1
  ·rcases Nat.lt_succ_iff_lt_or_eq.1 h2 with h2 | rfl
   ·exact .inr ⟨h1, q, h2, h3⟩
   ·exact absurd h3 hp
theorem Hn {kk : Cb} {i : Nat} (h : ∀ d, d ∈ nl ↔ jk now n seen d ∨ ∃ q, q < i ∧ iR now kk q ∧ d = i6 kk q) (hi : i = n.toNat) : ∀ d, d ∈ nl ↔ jk now n (kk :: seen) d := fun d => by
 subst hi
 rw [h]
 unfold jk
 constructor
 ·rintro (⟨c, hc, r⟩ | ⟨q, h1, h2, h3⟩)
  ·exact ⟨c, List.mem_cons_of_mem _ hc, r⟩
  ·exact ⟨kk, List.mem_cons_self, q, h1, h2, h3⟩
 ·rintro ⟨c, hc, i, hi, r⟩
  rcases List.mem_cons.1 hc with rfl | hc
  ·exact .inr ⟨i, hi, r⟩
  ·exact .inl ⟨c, hc, i, hi, r⟩
theorem Da {kk : Cb} {i : Nat} (h : ∀ d, d ∈ ml ↔ gk now n seen d ∨ (d = kk ∧ ∃ q, q < i ∧ iR now kk q)) (hi : i = n.toNat) : ∀ d, d ∈ ml ↔ gk now n (kk :: seen) d := fun d => by
 subst hi
 rw [h]
 unfold gk
 constructor
 ·rintro (⟨h1, r⟩ | ⟨rfl, r⟩)
  ·exact ⟨List.mem_cons_of_mem _ h1, r⟩
  ·exact ⟨List.mem_cons_self, r⟩
 ·rintro ⟨h1, r⟩
  rcases List.mem_cons.1 h1 with rfl | h1
  ·exact .inr ⟨rfl, r⟩
  ·exact .inl ⟨h1, r⟩
theorem yf {m v i : Nat} (h1 : ((m / 2 ^ ((i : Nat) : Int).toNat &&& 1 : Nat) : Int) = 1) (h2 : (g6 (ft now) ⟨m, v ^^^ 1 * 2 ^ ((i : Nat) : Int).toNat⟩).getD false = true) : iR now ⟨m, v⟩ i := by
 rw [Int.toNat_natCast] at h1 h2
 rw [ls, decide_eq_true_eq, Nat.one_mul] at h2
 exact ⟨k7.1 h1, h2⟩
theorem x9 {m v i : Nat} (h1 : ¬ ((m / 2 ^ ((i : Nat) : Int).toNat &&& 1 : Nat) : Int) = 1) : ¬ iR now ⟨m, v⟩ i := by
 rw [Int.toNat_natCast] at h1
 exact fun h => h1 (k7.2 h.1)
theorem xZ {m v i : Nat} (h2 : (g6 (ft now) ⟨m, v ^^^ 1 * 2 ^ ((i : Nat) : Int).toNat⟩).getD false = false) : ¬ iR now ⟨m, v⟩ i := by
 rw [Int.toNat_natCast] at h2
 rw [ls, decide_eq_false_iff_not, Nat.one_mul] at h2
 exact fun h => h2 h.2
theorem F3 (h : ∀ d, d ∈ nl ↔ jk now n seen d) (hs : ∀ c, c ∈ seen ↔ c ∈ now) : ∀ d, d ∈ nl ↔ jk now n now d := fun d => by
 rw [h]; unfold jk; simp only [hs]
theorem Bf (h : ∀ d, d ∈ ml ↔ gk now n seen d) (hs : ∀ c, c ∈ seen ↔ c ∈ now) : ∀ d, d ∈ ml ↔ gk now n now d := fun d => by
 rw [h]; unfold gk; simp only [hs]
theorem Ad {w : World} {it b : Nat} (h : eJ iC Value.bool w it b (ft now) seen) : ∀ c ∈ seen, c ∈ now := fun c hc => by
 have := h.sub c hc
 rwa [xJ] at this
theorem BN {w : World} {it b : Nat} (h : eJ iC Value.bool w it b (ft now) seen) (hd : ∀ p ∈ ft now, p.1 ∈ seen) : ∀ c, c ∈ seen ↔ c ∈ now := fun c =>
 ⟨Ad h c, fun hc => hd (c, true) (List.mem_map.2 ⟨c, hc, rfl⟩)⟩
theorem eJ.len_le {α β : Type} [DecidableEq α] {enc : α → Value} {encV : β → Value} {w : World} {it b : Nat} {l : List (α × β)} {seen : List α} (h : eJ enc encV w it b l seen) : seen.length ≤ l.length := by
 have := Ak h.nodup h.sub
 simpa using this
theorem Nx : ∀ c, c ∈ out ↔ c ∈ out ∨ (c ∈ ([] : List Cb) ∧ c ∉ ml) := fun c => by simp
theorem LF {out2 : List Cb} {kk : Cb} (h : ∀ c, c ∈ out2 ↔ c ∈ out ∨ (c ∈ seen ∧ c ∉ ml)) (hk : kk ∉ ml) : ∀ c, c ∈ yC out2 kk ↔ c ∈ out ∨ (c ∈ kk :: seen ∧ c ∉ ml) := fun c => by
 rw [GT, h, List.mem_cons]
 constructor
 ·rintro (rfl | h1 | ⟨h1, h2⟩)
  ·exact .inr ⟨.inl rfl, hk⟩
  ·exact .inl h1
  ·exact .inr ⟨.inr h1, h2⟩
 ·rintro (h1 | ⟨rfl | h1, h2⟩)
  ·exact .inr (.inl h1)
  ·exact .inl rfl
  ·exact .inr (.inr ⟨h1, h2⟩)
theorem Kk {out2 : List Cb} {kk : Cb} (h : ∀ c, c ∈ out2 ↔ c ∈ out ∨ (c ∈ seen ∧ c ∉ ml)) (hk : kk ∈ ml) : ∀ c, c ∈ out2 ↔ c ∈ out ∨ (c ∈ kk :: seen ∧ c ∉ ml) := fun c => by
 rw [h, List.mem_cons]
 constructor
 ·rintro (h1 | ⟨h1, h2⟩)
  ·exact .inl h1
  ·exact .inr ⟨.inr h1, h2⟩
 ·rintro (h1 | ⟨rfl | h1, h2⟩)
  ·exact .inl h1
  ·exact absurd hk h2
  ·exact .inr ⟨h1, h2⟩
theorem Kn {out2 : List Cb} (h : ∀ c, c ∈ out2 ↔ c ∈ out ∨ (c ∈ seen ∧ c ∉ ml)) (hs : ∀ c, c ∈ seen ↔ c ∈ now) : ∀ c, c ∈ out2 ↔ c ∈ out ∨ (c ∈ now ∧ c ∉ ml) := fun c => by rw [h, hs]
theorem MN {out2 : List Cb} {kk : Cb} (hL : nu s n (t + 1) now) (hO : uY s n (t + 1) out) (h : ∀ c, c ∈ out2 ↔ c ∈ out ∨ (c ∈ seen ∧ c ∉ ml)) (hk : kk ∈ now) (hs : kk ∉ seen) : kk ∉ out2 := fun hm => by
 rcases (h kk).1 hm with h1 | h1
 ·have h2 := ((hO kk).1 h1).2
  have h3 := ((hL kk).1 hk).2
  omega
 ·exact hs h1.1
theorem Hb {out2 : List Cb} (hL : nu s n (t + 1) now) (h8 : n ≤ 8) (hO : uY s n (t + 1) out) (h : ∀ c, c ∈ out2 ↔ c ∈ out ∨ (c ∈ seen ∧ c ∉ ml)) (hs : ∀ c ∈ seen, c ∈ now) (hR : iM out2) : out2.length ≤ 65536 :=
 zC hR fun c hc => by
  rcases (h c).1 hc with h1 | h1
  ·have h2 := ly (j1 ((hO c).1 h1).1)
   have := fh h8
   omega
  ·exact vT hL h8 (hs c h1.1)
theorem Df {kk : Cb} (h : (!(g6 (ft ml) ⟨kk.m, kk.v⟩).getD false) = true) : kk ∉ ml := by
 rw [ls] at h
 simpa using h
theorem Bk {kk : Cb} (h : (!(g6 (ft ml) ⟨kk.m, kk.v⟩).getD false) = false) : kk ∈ ml := by
 rw [ls] at h
 simpa using h
end
theorem LD {s : Nat} {n : Int} {v : Value} {w' : World} {N : Nat} {T : TypeId} (h : if uA s n = true then ∃ x, v = .tuple #[x, .int .i64 0] ∧ dh gU 2 T w' N x (eH s n) else v = .tuple #[.slice none 0 0, .int .i64 1]) :
  ∃ (x : Value) (er : Int) (l : List Cb), v = .tuple #[x, .int .i64 er] ∧ dh gU 2 T w' N x l ∧ ((uA s n = true ∧ er = 0 ∧ l = eH s n) ∨ (uA s n = false ∧ er = 1 ∧ l = [])) := by
 by_cases ho : uA s n = true
 ·rw [if_pos ho] at h
  obtain ⟨x, h1, h2⟩ := h
  exact ⟨x, 0, _, h1, h2, .inl ⟨ho, rfl, rfl⟩⟩
 ·rw [if_neg ho] at h
  exact ⟨_, 1, [], h, dh.nil, .inr ⟨by simpa using ho, rfl, rfl⟩⟩
theorem tM {s : Nat} {n : Int} (h : n ≤ 8) : (eH s n).length ≤ 65536 := by
 have h1 := tF s n (2 ^ n.toNat)
 have h2 := fh h
 have h3 : 2 ^ n.toNat * 2 ^ n.toNat ≤ 256 * 256 := Nat.mul_le_mul h2 h2
 unfold eH
 omega
end
section
open Go Go.RowKit
theorem mm {a b : Cb} : i7 a b = true ↔ ∀ j, a.m.testBit j = true → b.m.testBit j = true ∧ a.v.testBit j = b.v.testBit j := by
 unfold i7
 rw [Bool.and_eq_true, decide_eq_true_eq, decide_eq_true_eq]
 constructor
 ·rintro ⟨h1, h2⟩ j hj
  have e1 := congrArg (fun x => x.testBit j) h1
  have e2 := congrArg (fun x => x.testBit j) h2
  simp only [eh, Nat.testBit_and, Nat.testBit_xor, Nat.zero_testBit, hj, Bool.true_and, Bool.and_true] at e1 e2
  exact ⟨by simpa using e1, by simpa using e2⟩
 ·intro h
  constructor
  ·refine Nat.eq_of_testBit_eq fun j => ?_
   rw [eh, Nat.zero_testBit]
   cases hj : a.m.testBit j with
   | false => rfl
   | true => rw [(h j hj).1]; rfl
  ·refine Nat.eq_of_testBit_eq fun j => ?_
   rw [Nat.testBit_and, Nat.testBit_xor, Nat.zero_testBit]
   cases hj : a.m.testBit j with
   | false => simp
   | true => rw [(h j hj).2]; simp
theorem Cz (a : Cb) : i7 a a = true := mm.2 fun _ h => ⟨h, rfl⟩
theorem Bp {a b c : Cb} (h : i7 a b = true) (k : i7 b c = true) : i7 a c = true := by
 rw [mm] at *
 exact fun j hj => ⟨(k j (h j hj).1).1, (h j hj).2.trans (k j (h j hj).1).2⟩
theorem Hf {c : Cb} {i : Nat} (hi : i < 8) : i7 (i6 c i) c = true := mm.2 fun j hj => by
 have hj' : (jx c.m (i : Int)).testBit j = true := hj
 have hv : (i6 c i).v.testBit j = (c.v &&& jx c.m (i : Int)).testBit j := rfl
 rw [eN hi, Bool.and_eq_true] at hj'
 refine ⟨hj'.1, ?_⟩
 rw [hv, Nat.testBit_and, eN hi, hj'.1, hj'.2]
 simp
theorem lh {a b : Cb} {p : Nat} (ha : a.v &&& a.m = a.v) (h : i7 a b = true) (hp : p &&& b.m = b.v) : p &&& a.m = a.v := by
 rw [mm] at h
 refine Nat.eq_of_testBit_eq fun j => ?_
 have e := congrArg (fun x => x.testBit j) hp
 simp only [Nat.testBit_and] at e
 rw [Nat.testBit_and, eU ha j]
 cases hj : a.m.testBit j with
 | false => simp
 | true =>
  obtain ⟨h1, h2⟩ := h j hj
  rw [h2, ← e, h1]
  simp
def kF (l : List Cb) (n : Nat) : Nat → Nat
 | 0 => 0
 | k + 1 => kF l n k ||| qI (l.getD k ⟨0, 0⟩).m (l.getD k ⟨0, 0⟩).v n
theorem sk {l : List Cb} {n : Nat} (hn : n ≤ 8) (p : Nat) : ∀ k, (kF l n k).testBit p = true ↔ ∃ j, j < k ∧ p < 2 ^ n ∧ p &&& (l.getD j ⟨0, 0⟩).m = (l.getD j ⟨0, 0⟩).v
 | 0 => by simp [kF]
 | k + 1 => by
  simp only [kF, Nat.testBit_or, Bool.or_eq_true, sk hn p k, jq hn, Bool.and_eq_true, decide_eq_true_eq]
  constructor
  ·rintro (⟨j, hj, h⟩ | h)
   ·exact ⟨j, by omega, h⟩
   ·exact ⟨k, by omega, h⟩
  ·rintro ⟨j, hj, h⟩
   rcases Nat.lt_succ_iff_lt_or_eq.1 hj with hj | rfl
   ·exact .inl ⟨j, hj, h⟩
   ·exact .inr h
theorem fo {α : Type} {l : List α} {a d : α} (h : a ∈ l) : ∃ j, j < l.length ∧ l.getD j d = a := by
 obtain ⟨j, hj, rfl⟩ := List.mem_iff_getElem.1 h
 exact ⟨j, hj, by simp [hj]⟩
theorem Hw {s : Nat} {n : Int} {i : Nat} (h : i < (eH s n).length) : gK ((eH s n).getD i ⟨0, 0⟩).m ((eH s n).getD i ⟨0, 0⟩).v s n = true := mV.1 (dS h)
end
section
open Go Go.RowKit
def rm (p i : Nat) (one : Bool) : Nat := if p.testBit i = one then p else p ^^^ 2 ^ i
theorem mZ (p i j : Nat) : (p ^^^ 2 ^ i).testBit j = if j = i then !p.testBit j else p.testBit j := by
 rw [Nat.testBit_xor, Nat.testBit_two_pow]
 by_cases e : i = j
 ·subst e; simp
 ·have : ¬ j = i := fun h => e h.symm
  simp [e, this]
theorem iK (p i j : Nat) (one : Bool) : (rm p i one).testBit j = if j = i then one else p.testBit j := by
 unfold rm
 split
 ·rename_i h
  split
  ·rename_i e; subst e; exact h
  ·rfl
 ·rename_i h
  rw [mZ]
  split
  ·rename_i e; subst e; cases hp : p.testBit j <;> cases one <;> simp_all
  ·rfl
theorem kd {p i : Nat} {one : Bool} (h : p.testBit i = one) : rm p i one = p := if_pos h
theorem fZ {p n : Nat} : p < 2 ^ n ↔ ∀ j, n ≤ j → p.testBit j = false := by
 constructor
 ·intro h j hj
  exact Nat.testBit_lt_two_pow (Nat.lt_of_lt_of_le h (Nat.pow_le_pow_right (by decide) hj))
 ·exact Nat.lt_pow_two_of_testBit p
theorem kc {p i n : Nat} {one : Bool} (hi : i < n) : rm p i one < 2 ^ n ↔ p < 2 ^ n := by
 rw [fZ, fZ]
 constructor
 ·intro h j hj
  have := h j hj
  rwa [iK, if_neg (by omega)] at this
 ·intro h j hj
  rw [iK, if_neg (by omega)]
  exact h j hj
theorem yI {p i n : Nat} (hi : i < n) (h : p < 2 ^ n) : p ^^^ 2 ^ i < 2 ^ n := Nat.xor_lt_two_pow h (Nat.pow_lt_pow_right (by decide) hi)
theorem pX (p i j : Nat) (one : Bool) : rm (p ^^^ 2 ^ j) i one = if j = i then rm p i one else rm p i one ^^^ 2 ^ j := by
 refine Nat.eq_of_testBit_eq fun q => ?_
 split
 ·rename_i e
  subst e
  rw [iK, iK, mZ]
  split <;> rfl
 ·rename_i e
  rw [iK, mZ, mZ, iK]
  by_cases h1 : q = i
  ·subst h1
   have : ¬ q = j := fun h => e h.symm
   simp [this]
  ·simp [h1]
theorem BD (i : Nat) (h : i < 8) (p : Nat) (hp : p < 256) : p ^^^ 2 ^ i < 256 := yI (n := 8) h hp
theorem rK {l : List Int} {F : Nat → Int → Nat} {hit : Int → Nat → Prop} (hF : ∀ o p, p ∈ l → ∀ q, ((F o p).testBit q = true ↔ o.testBit q = true ∨ hit p q)) :
  ∀ (z q : Nat), ((l.foldl F z).testBit q = true ↔ z.testBit q = true ∨ ∃ p, p ∈ l ∧ hit p q) := by
 induction l with
 | nil => intro z q; simp
 | cons a l ih =>
  intro z q
  rw [List.foldl_cons, ih (fun o p hp => hF o p (List.mem_cons_of_mem _ hp)), hF z a (List.mem_cons_self ..)]
  constructor
  ·rintro ((h | h) | ⟨p, h1, h2⟩)
   ·exact .inl h
   ·exact .inr ⟨a, List.mem_cons_self .., h⟩
   ·exact .inr ⟨p, List.mem_cons_of_mem _ h1, h2⟩
  ·rintro (h | ⟨p, h1, h2⟩)
   ·exact .inl (.inl h)
   ·rcases List.mem_cons.1 h1 with rfl | h1
    ·exact .inl (.inr h2)
    ·exact .inr ⟨p, h1, h2⟩
theorem nj {s i q : Nat} {one : Bool} : (oV s i one).testBit q = true ↔ q < 256 ∧ s.testBit q = true ∧ q.testBit i = one := by
 unfold oV
 rw [rK (hit := fun p q => p.toNat.testBit i = one ∧ q = p.toNat)]
 ·simp only [Nat.zero_testBit, Bool.false_eq_true, false_or]
  constructor
  ·rintro ⟨p, hp, h1, h2⟩
   obtain ⟨k, h3, h4, rfl⟩ := iZ.1 hp
   rw [Int.toNat_natCast] at h1 h2
   subst h2
   exact ⟨h3, h4, h1⟩
  ·rintro ⟨h1, h2, h3⟩
   exact ⟨(q : Int), iZ.2 ⟨q, h1, h2, rfl⟩, by simpa using h3, by simp⟩
 ·intro o p hp q
  obtain ⟨k, h3, h4, rfl⟩ := iZ.1 hp
  have e : (decide ((k : Int).toNat / 2 ^ i % 2 = 1) == one) = true ↔ k.testBit i = one := by
   rw [Int.toNat_natCast, ← gY]
   cases k.testBit i <;> cases one <;> simp
  rw [Int.toNat_natCast] at e ⊢
  by_cases hk : k.testBit i = one
  ·rw [if_pos (e.2 hk), k9 h3]
   simp [hk, or_comm]
  ·rw [if_neg (fun h => hk (e.1 h))]
   simp [hk]
def jM (l : List Int) (h i k : Nat) : Nat := (l.take k).foldl (fun o p => kI o ((p.toNat ^^^ 2 ^ i : Nat) : Int)) h
def dm (s i : Nat) (one : Bool) : Nat := jM (eg (oV s i one)) (oV s i one) i (eg (oV s i one)).length
theorem tD {l : List Int} {h i k : Nat} (hk : k < l.length) : jM l h i (k + 1) = kI (jM l h i k) (((l.getD k 0).toNat ^^^ 2 ^ i : Nat) : Int) := by
 unfold jM
 rw [List.take_succ_eq_append_getElem hk, List.foldl_append]
 simp [List.getD_eq_getElem?_getD, List.getElem?_eq_getElem hk]
theorem fM {s i p : Nat} {one : Bool} (hi : i < 8) : (dm s i one).testBit p = true ↔ p < 256 ∧ s.testBit (rm p i one) = true := by
 unfold dm jM
 rw [List.take_length, rK (hit := fun x q => q = x.toNat ^^^ 2 ^ i)]
 ·rw [nj]
  constructor
  ·rintro (⟨h1, h2, h3⟩ | ⟨x, hx, rfl⟩)
   ·exact ⟨h1, by rw [kd h3]; exact h2⟩
   ·obtain ⟨k, h3, h4, rfl⟩ := iZ.1 hx
    obtain ⟨_, h5, h6⟩ := nj.1 h4
    rw [Int.toNat_natCast]
    exact ⟨BD i hi k h3, by rw [pX, if_pos rfl, kd h6]; exact h5⟩
  ·rintro ⟨h1, h2⟩
   by_cases h3 : p.testBit i = one
   ·exact .inl ⟨h1, by rwa [kd h3] at h2, h3⟩
   ·refine .inr ⟨((p ^^^ 2 ^ i : Nat) : Int), iZ.2 ⟨p ^^^ 2 ^ i, BD i hi p h1, ?_, rfl⟩, ?_⟩
    ·have e : rm p i one = p ^^^ 2 ^ i := if_neg h3
     rw [e] at h2
     refine nj.2 ⟨BD i hi p h1, h2, ?_⟩
     rw [mZ, if_pos rfl]
     cases hp : p.testBit i <;> cases one <;> simp_all
    ·rw [Int.toNat_natCast, Nat.xor_assoc, Nat.xor_self, Nat.xor_zero]
 ·intro o x hx q
  obtain ⟨k, h3, h4, rfl⟩ := iZ.1 hx
  rw [Int.toNat_natCast, k9 (BD i hi k h3)]
  simp [or_comm]
theorem gq {s i p : Nat} {one : Bool} (hi : i < 8) (hp : p < 256) : (dm s i one).testBit p = s.testBit (rm p i one) := by
 rw [Bool.eq_iff_iff, fM hi]
 simp [hp]
def wR (s t : Nat) : Bool := decide (wd s 0 = wd t 0 ∧ wd s 1 = wd t 1 ∧ wd s 2 = wd t 2 ∧ wd s 3 = wd t 3)
theorem qj {s t : Nat} : wR s t = true ↔ ∀ p, p < 256 → s.testBit p = t.testBit p := by
 unfold wR
 rw [decide_eq_true_eq]
 constructor
 ·rintro ⟨h0, h1, h2, h3⟩ p hp
  have key : ∀ i, wd s i = wd t i → p / 64 = i → s.testBit p = t.testBit p := fun i h e => by
   have h5 := congrArg (fun x => x.testBit (p % 64)) h
   simp only [il] at h5
   have e2 : 64 * i + p % 64 = p := by omega
   rw [e2] at h5
   simpa [Nat.mod_lt] using h5
  have : p / 64 = 0 ∨ p / 64 = 1 ∨ p / 64 = 2 ∨ p / 64 = 3 := by omega
  rcases this with e | e | e | e
  ·exact key 0 h0 e
  ·exact key 1 h1 e
  ·exact key 2 h2 e
  ·exact key 3 h3 e
 ·intro h
  exact ⟨rA (by decide) h, rA (by decide) h, rA (by decide) h, rA (by decide) h⟩
def iq (i one : Nat) (c : Cb) : Cb := ⟨c.m ||| 1 * 2 ^ i, c.v ||| one * 2 ^ i⟩
def se (n : Nat) (on0 on1 : Nat) (a b : List Cb) : Nat := (0 ||| andNot on0 (kF a n a.length)) ||| andNot on1 (kF b n b.length)
def eI (n : Nat) : Nat → Nat → Nat → Nat → List Cb
 | 0, _, _, _ => []
 | f + 1, on, may, i =>
  if wR on 0 = true then [] else if wR may (fj n) = true then [⟨0, 0⟩] else
  let a := eI n f (andNot (dm on i false) (dm may i true)) (dm may i false) (i + 1)
  let b := eI n f (andNot (dm on i true) (dm may i false)) (dm may i true) (i + 1)
  (a.map (iq i 0) ++ b.map (iq i 1)) ++ eI n f (se n (dm on i false) (dm on i true) a b) (dm may i false &&& dm may i true) (i + 1)
structure mQ (n on may i : Nat) : Prop where
 le : i ≤ n
 sub : ∀ p, p < 256 → on.testBit p = true → may.testBit p = true
 out : ∀ p, p < 256 → may.testBit p = true → p < 2 ^ n
 free : ∀ p j, p < 256 → j < i → on.testBit (p ^^^ 2 ^ j) = on.testBit p
 freeM : ∀ p j, p < 256 → j < i → may.testBit (p ^^^ 2 ^ j) = may.testBit p
theorem Gj {n on may : Nat} (h : ∀ p, p < 256 → on.testBit p = true → may.testBit p = true) (k : ∀ p, p < 256 → may.testBit p = true → p < 2 ^ n) : mQ n on may 0 :=
 ⟨Nat.zero_le _, h, k, fun _ j _ hj => absurd hj (Nat.not_lt_zero j), fun _ j _ hj => absurd hj (Nat.not_lt_zero j)⟩
theorem zU {s : Nat} : ∀ (n : Nat), (∀ p j, p < 2 ^ n → j < n → s.testBit (p ^^^ 2 ^ j) = s.testBit p) → ∀ p, p < 2 ^ n → s.testBit p = s.testBit 0
 | 0, _, p, hp => by
  have : p = 0 := by simpa using hp
  rw [this]
 | n + 1, h, p, hp => by
  have hle : 2 ^ n ≤ 2 ^ (n + 1) := Nat.pow_le_pow_right (by decide) (by omega)
  have ih := zU n fun p j hp hj => h p j (Nat.lt_of_lt_of_le hp hle) (by omega)
  by_cases hb : p.testBit n = true
  ·rw [← h p n hp (by omega)]
   refine ih _ (fZ.2 fun j hj => ?_)
   rw [mZ]
   split
   ·rename_i e; subst e; rw [hb]; rfl
   ·exact fZ.1 hp j (by omega)
  ·refine ih p (fZ.2 fun j hj => ?_)
   by_cases e : j = n
   ·subst e; simpa using hb
   ·exact fZ.1 hp j (by omega)
theorem fT {n : Nat} (h : n ≤ 8) : 2 ^ n ≤ 256 := by
 have : 2 ^ n ≤ 2 ^ 8 := Nat.pow_le_pow_right (by decide) h
 simpa using this
theorem mQ.end {n on may : Nat} (h8 : n ≤ 8) (h : mQ n on may n) : wR on 0 = true ∨ wR may (fj n) = true := by
 have hp := fT h8
 have h1 := zU n fun p j hq hj => h.freeM p j (by omega) hj
 by_cases h0 : may.testBit 0 = true
 ·right
  rw [qj]
  intro p hp2
  rw [fP]
  by_cases hpn : p < 2 ^ n
  ·rw [h1 p hpn, h0]; simp [hpn]
  ·cases hm : may.testBit p with
   | false => simp [hpn]
   | true => exact absurd (h.out p hp2 hm) hpn
 ·left
  rw [qj]
  intro p hp2
  rw [Nat.zero_testBit]
  refine Bool.eq_false_iff.2 fun ho => ?_
  have hm := h.sub p hp2 ho
  exact h0 (by rw [← h1 p (h.out p hp2 hm)]; exact hm)
def hold (c : Cb) (p : Nat) : Prop := p &&& c.m = c.v
theorem si {c : Cb} {p : Nat} : hold c p ↔ ∀ j, (p.testBit j && c.m.testBit j) = c.v.testBit j := by
 unfold hold
 constructor
 ·intro h j; rw [← h, Nat.testBit_and]
 ·intro h; exact Nat.eq_of_testBit_eq fun j => by rw [Nat.testBit_and]; exact h j
theorem vh {c : Cb} {p j : Nat} (h : c.m.testBit j = false) : hold c (p ^^^ 2 ^ j) ↔ hold c p := by
 rw [si, si]
 have : ∀ q, ((p ^^^ 2 ^ j).testBit q && c.m.testBit q) = (p.testBit q && c.m.testBit q) := fun q => by
  rw [mZ]
  split
  ·rename_i e; subst e; simp [h]
  ·rfl
 simp only [this]
theorem wn {c : Cb} {p i : Nat} {one : Bool} (h : c.m.testBit i = false) : hold c (rm p i one) ↔ hold c p := by
 unfold rm
 split
 ·exact Iff.rfl
 ·exact vh h
theorem ji (c : Cb) (i one j : Nat) : (iq i one c).m.testBit j = (c.m.testBit j || decide (j = i)) := by
 show (c.m ||| 1 * 2 ^ i).testBit j = _
 rw [Nat.one_mul, Nat.testBit_or, Nat.testBit_two_pow]
 by_cases e : i = j
 ·subst e; simp
 ·have : ¬ j = i := fun h => e h.symm
  simp [e, this]
theorem nf (c : Cb) (i j : Nat) : (iq i 0 c).v.testBit j = c.v.testBit j := by
 show (c.v ||| 0 * 2 ^ i).testBit j = _
 rw [Nat.zero_mul, Nat.or_zero]
theorem mW (c : Cb) (i j : Nat) : (iq i 1 c).v.testBit j = (c.v.testBit j || decide (j = i)) := by
 show (c.v ||| 1 * 2 ^ i).testBit j = _
 rw [Nat.one_mul, Nat.testBit_or, Nat.testBit_two_pow]
 by_cases e : i = j
 ·subst e; simp
 ·have : ¬ j = i := fun h => e h.symm
  simp [e, this]
theorem sx {c : Cb} {i p one : Nat} (h1 : one = 0 ∨ one = 1) (hv : c.v &&& c.m = c.v) (h : c.m.testBit i = false) : hold (iq i one c) p ↔ p.testBit i = decide (one = 1) ∧ hold c p := by
 have hvi : c.v.testBit i = false := by rw [eU hv, h, Bool.and_false]
 rw [si, si]
 rcases h1 with rfl | rfl
 ·simp only [ji, nf]
  constructor
  ·intro k
   have hi : p.testBit i = false := by have := k i; simpa [h, hvi] using this
   refine ⟨by simpa using hi, fun j => ?_⟩
   have := k j
   by_cases e : j = i
   ·subst e; simp [h, hvi]
   ·simpa [e] using this
  ·rintro ⟨k0, k⟩ j
   have := k j
   by_cases e : j = i
   ·subst e; simp [hvi]; simpa using k0
   ·simpa [e] using this
 ·simp only [ji, mW]
  constructor
  ·intro k
   have hi : p.testBit i = true := by have := k i; simpa [h, hvi] using this
   refine ⟨by simpa using hi, fun j => ?_⟩
   have := k j
   by_cases e : j = i
   ·subst e; simp [h, hvi]
   ·simpa [e] using this
  ·rintro ⟨k0, k⟩ j
   have := k j
   by_cases e : j = i
   ·subst e; simp [hvi]; simpa using k0
   ·simpa [e] using this
def je (n may i : Nat) (l : List Cb) : Prop := ∀ c, c ∈ l → c.m < 2 ^ n ∧ c.v &&& c.m = c.v ∧ (∀ j, j < i → c.m.testBit j = false) ∧ ∀ p, p < 2 ^ n → hold c p → may.testBit p = true
def DV (n on : Nat) (l : List Cb) : Prop := ∀ p, p < 2 ^ n → on.testBit p = true → ∃ c, c ∈ l ∧ hold c p
theorem qw {l : List Cb} {n : Nat} (hn : n ≤ 8) (p : Nat) : (kF l n l.length).testBit p = true ↔ p < 2 ^ n ∧ ∃ c, c ∈ l ∧ hold c p := by
 rw [sk hn]
 constructor
 ·rintro ⟨j, hj, h1, h2⟩
  exact ⟨h1, _, dS hj, h2⟩
 ·rintro ⟨h1, c, hc, h2⟩
  obtain ⟨j, hj, rfl⟩ := fo (d := ⟨0, 0⟩) hc
  exact ⟨j, hj, h1, h2⟩
section
variable {n on may i : Nat}
theorem mQ.side (h8 : n ≤ 8) (h : mQ n on may i) (hi : i < n) (x : Bool) : mQ n (andNot (dm on i x) (dm may i (!x))) (dm may i x) (i + 1) := by
 have hi8 : i < 8 := by omega
 refine ⟨hi, fun p hp hq => ?_, fun p hp hq => ?_, fun p j hp hj => ?_, fun p j hp hj => ?_⟩
 ·rw [eh, Bool.and_eq_true] at hq
  obtain ⟨h1, h2⟩ := (fM hi8).1 hq.1
  exact (fM hi8).2 ⟨hp, h.sub _ ((kc (n := 8) hi8).2 hp) h2⟩
 ·obtain ⟨h1, h2⟩ := (fM hi8).1 hq
  exact (kc hi).1 (h.out _ ((kc (n := 8) hi8).2 hp) h2)
 ·have hpj : p ^^^ 2 ^ j < 256 := BD j (by omega) p hp
  simp only [eh, gq hi8 hp, gq hi8 hpj, pX]
  split
  ·rfl
  ·rename_i hne
   have hlt : ∀ y, rm p i y < 256 := fun y => (kc (n := 8) hi8).2 hp
   rw [h.free _ j (hlt _) (by omega), h.freeM _ j (hlt _) (by omega)]
 ·have hpj : p ^^^ 2 ^ j < 256 := BD j (by omega) p hp
  simp only [gq hi8 hp, gq hi8 hpj, pX]
  split
  ·rfl
  ·rename_i hne
   have hlt : ∀ y, rm p i y < 256 := fun y => (kc (n := 8) hi8).2 hp
   rw [h.freeM _ j (hlt _) (by omega)]
theorem jA {on0 on1 : Nat} {a b : List Cb} {p : Nat} : (se n on0 on1 a b).testBit p = ((on0.testBit p && !(kF a n a.length).testBit p) || (on1.testBit p && !(kF b n b.length).testBit p)) := by
 unfold se
 rw [Nat.zero_or, Nat.testBit_or, eh, eh]
theorem Bi {l : List Cb} {j p : Nat} (h8 : n ≤ 8) (hj : j < n) (h : ∀ c, c ∈ l → c.m.testBit j = false) : (kF l n l.length).testBit (p ^^^ 2 ^ j) = (kF l n l.length).testBit p := by
 rw [Bool.eq_iff_iff, qw h8, qw h8]
 have hlt : p ^^^ 2 ^ j < 2 ^ n ↔ p < 2 ^ n := by
  constructor
  ·intro h2
   have := yI hj h2
   rwa [Nat.xor_assoc, Nat.xor_self, Nat.xor_zero] at this
  ·exact yI hj
 rw [hlt]
 constructor
 ·rintro ⟨h1, c, hc, h2⟩; exact ⟨h1, c, hc, (vh (h c hc)).1 h2⟩
 ·rintro ⟨h1, c, hc, h2⟩; exact ⟨h1, c, hc, (vh (h c hc)).2 h2⟩
theorem mQ.rest (h8 : n ≤ 8) (h : mQ n on may i) (hi : i < n) {a b : List Cb} (ha : je n (dm may i false) (i + 1) a) (hb : je n (dm may i true) (i + 1) b)
  (ca : DV n (andNot (dm on i false) (dm may i true)) a) (cb : DV n (andNot (dm on i true) (dm may i false)) b) :
  mQ n (se n (dm on i false) (dm on i true) a b) (dm may i false &&& dm may i true) (i + 1) := by
 have hi8 : i < 8 := by omega
 have hlt : ∀ p y, p < 256 → rm p i y < 256 := fun p y hp => (kc (n := 8) hi8).2 hp
 refine ⟨hi, fun p hp hq => ?_, fun p hp hq => ?_, fun p j hp hj => ?_, fun p j hp hj => ?_⟩
 ·rw [jA, Bool.or_eq_true, Bool.and_eq_true, Bool.and_eq_true] at hq
  rw [Nat.testBit_and, Bool.and_eq_true]
  have one : ∀ (x : Bool) (l : List Cb), (dm on i x).testBit p = true → (!(kF l n l.length).testBit p) = true → DV n (andNot (dm on i x) (dm may i (!x))) l → (dm may i x).testBit p = true ∧ (dm may i (!x)).testBit p = true := by
   intro x l h1 h2 hc
   have hm : (dm may i x).testBit p = true := by
    rw [gq hi8 hp] at h1 ⊢
    exact h.sub _ (hlt p x hp) h1
   refine ⟨hm, Classical.byContradiction fun hn => ?_⟩
   have hpn : p < 2 ^ n := by
    rw [gq hi8 hp] at hm
    exact (kc hi).1 (h.out _ (hlt p x hp) hm)
   have := hc p hpn (by rw [eh, h1, Bool.eq_false_iff.2 hn]; rfl)
   rw [(qw h8 p).2 ⟨hpn, this⟩] at h2
   cases h2
  rcases hq with ⟨h1, h2⟩ | ⟨h1, h2⟩
  ·exact one false a h1 h2 ca
  ·exact (one true b h1 h2 cb).symm
 ·rw [Nat.testBit_and, Bool.and_eq_true] at hq
  obtain ⟨h1, h2⟩ := (fM hi8).1 hq.1
  exact (kc hi).1 (h.out _ (hlt p _ hp) h2)
 ·have hpj : p ^^^ 2 ^ j < 256 := BD j (by omega) p hp
  rw [jA, jA, Bi h8 (by omega) (fun c hc => (ha c hc).2.2.1 j hj), Bi h8 (by omega) (fun c hc => (hb c hc).2.2.1 j hj)]
  simp only [gq hi8 hp, gq hi8 hpj, pX]
  split
  ·rfl
  ·rename_i hne
   rw [h.free _ j (hlt p _ hp) (by omega), h.free _ j (hlt p _ hp) (by omega)]
 ·have hpj : p ^^^ 2 ^ j < 256 := BD j (by omega) p hp
  simp only [Nat.testBit_and, gq hi8 hp, gq hi8 hpj, pX]
  split
  ·rfl
  ·rename_i hne
   rw [h.freeM _ j (hlt p _ hp) (by omega), h.freeM _ j (hlt p _ hp) (by omega)]
theorem AO {a : List Cb} {one : Nat} {c : Cb} : c ∈ a.map (iq i one) ↔ ∃ d, d ∈ a ∧ iq i one d = c := List.mem_map
theorem D9 (h8 : n ≤ 8) (hi : i < n) {a : List Cb} {one : Nat} {x : Bool} (h1 : (one = 0 ∧ x = false) ∨ (one = 1 ∧ x = true)) (ha : je n (dm may i x) (i + 1) a) (_hf : ∀ p j, p < 256 → j < i → may.testBit (p ^^^ 2 ^ j) = may.testBit p) :
  je n may i (a.map (iq i one)) := by
 intro c hc
 obtain ⟨d, hd, rfl⟩ := AO.1 hc
 obtain ⟨k1, k2, k3, k4⟩ := ha d hd
 have ho : one = 0 ∨ one = 1 := h1.elim (fun h => .inl h.1) (fun h => .inr h.1)
 have hx : x = decide (one = 1) := by rcases h1 with ⟨rfl, rfl⟩ | ⟨rfl, rfl⟩ <;> rfl
 refine ⟨fZ.2 fun j hj => ?_, Nat.eq_of_testBit_eq fun j => ?_, fun j hj => ?_, fun p hp hh => ?_⟩
 ·rw [ji, fZ.1 k1 j hj, decide_eq_false (by omega)]; rfl
 ·rw [Nat.testBit_and, ji]
  have hvb := eU k2 j
  rcases ho with rfl | rfl
  ·rw [nf, hvb]; cases d.v.testBit j <;> cases d.m.testBit j <;> simp
  ·rw [mW, hvb]; cases d.v.testBit j <;> cases d.m.testBit j <;> simp
 ·rw [ji, k3 j (by omega), decide_eq_false (by omega)]; rfl
 ·obtain ⟨g1, g2⟩ := (sx ho k2 (k3 i (by omega))).1 hh
  have := k4 p hp g2
  have hp8 : p < 256 := Nat.lt_of_lt_of_le hp (fT h8)
  rwa [gq (by omega) hp8, hx, kd g1] at this
theorem je.app {a b : List Cb} (ha : je n may i a) (hb : je n may i b) : je n may i (a ++ b) := fun c hc => (List.mem_append.1 hc).elim (ha c) (hb c)
theorem kv (h8 : n ≤ 8) : ∀ (f on may i : Nat), mQ n on may i → n + 1 - i ≤ f → je n may i (eI n f on may i) ∧ DV n on (eI n f on may i)
 | 0, on, may, i, h, hf => by have := h.le; omega
 | f + 1, on, may, i, h, hf => by
  rw [eI]
  split
  ·rename_i h0
   rw [qj] at h0
   refine ⟨fun c hc => (nomatch hc), fun p hp ho => ?_⟩
   rw [h0 p (Nat.lt_of_lt_of_le hp (fT h8)), Nat.zero_testBit] at ho
   cases ho
  ·rename_i h0
   split
   ·rename_i h1
    rw [qj] at h1
    refine ⟨fun c hc => ?_, fun p hp ho => ⟨⟨0, 0⟩, by simp, by simp [hold]⟩⟩
    rw [List.mem_singleton] at hc
    subst hc
    refine ⟨Nat.two_pow_pos n, rfl, fun j _ => Nat.zero_testBit j, fun p hp _ => ?_⟩
    rw [h1 p (Nat.lt_of_lt_of_le hp (fT h8)), fP]
    simp [hp]
   ·rename_i h1
    have hi : i < n := Nat.lt_of_le_of_ne h.le fun e => by
     subst e
     rcases h.end h8 with h2 | h2
     ·exact h0 h2
     ·exact h1 h2
    have hi8 : i < 8 := by omega
    dsimp only
    obtain ⟨a1, a2⟩ := kv h8 f _ _ _ (h.side h8 hi false) (by omega)
    obtain ⟨b1, b2⟩ := kv h8 f _ _ _ (h.side h8 hi true) (by omega)
    simp only [Bool.not_false, Bool.not_true] at a1 a2 b1 b2
    generalize eI n f (andNot (dm on i false) (dm may i true)) (dm may i false) (i + 1) = a at *
    generalize eI n f (andNot (dm on i true) (dm may i false)) (dm may i true) (i + 1) = b at *
    obtain ⟨c1, c2⟩ := kv h8 f _ _ _ (h.rest h8 hi a1 b1 a2 b2) (by omega)
    generalize eI n f (se n (dm on i false) (dm on i true) a b) (dm may i false &&& dm may i true) (i + 1) = c at *
    refine ⟨je.app (je.app (D9 h8 hi (.inl ⟨rfl, rfl⟩) a1 h.freeM) (D9 h8 hi (.inr ⟨rfl, rfl⟩) b1 h.freeM)) fun d hd => ?_, fun p hp ho => ?_⟩
    ·obtain ⟨k1, k2, k3, k4⟩ := c1 d hd
     refine ⟨k1, k2, fun j hj => k3 j (by omega), fun p hp hh => ?_⟩
     have hp8 : p < 256 := Nat.lt_of_lt_of_le hp (fT h8)
     have := k4 p hp hh
     rw [Nat.testBit_and, gq hi8 hp8, gq hi8 hp8, Bool.and_eq_true] at this
     cases hb : p.testBit i with
     | false => rw [kd hb] at this; exact this.1
     | true => rw [kd hb] at this; exact this.2
    ·have hp8 : p < 256 := Nat.lt_of_lt_of_le hp (fT h8)
     have key : ∀ (x : Bool) (one : Nat) (l : List Cb), p.testBit i = x → ((one = 0 ∧ x = false) ∨ (one = 1 ∧ x = true)) → je n (dm may i x) (i + 1) l →
       ((kF l n l.length).testBit p = true → ∃ d, d ∈ l.map (iq i one) ∧ hold d p) := by
      intro x one l hb h1 hl hpt
      obtain ⟨_, d, hd, hh⟩ := (qw h8 p).1 hpt
      have ho : one = 0 ∨ one = 1 := h1.elim (fun h => .inl h.1) (fun h => .inr h.1)
      have hx : x = decide (one = 1) := by rcases h1 with ⟨rfl, rfl⟩ | ⟨rfl, rfl⟩ <;> rfl
      obtain ⟨k1, k2, k3, k4⟩ := hl d hd
      exact ⟨_, AO.2 ⟨d, hd, rfl⟩, (sx ho k2 (k3 i (by omega))).2 ⟨by rw [hb, hx], hh⟩⟩
     cases hb : p.testBit i with
     | false =>
      have hon : (dm on i false).testBit p = true := by rw [gq hi8 hp8, kd hb]; exact ho
      by_cases hpt : (kF a n a.length).testBit p = true
      ·obtain ⟨d, hd, hh⟩ := key false 0 a hb (.inl ⟨rfl, rfl⟩) a1 hpt
       exact ⟨d, by simp only [List.mem_append]; exact .inl (.inl hd), hh⟩
      ·obtain ⟨d, hd, hh⟩ := c2 p hp (by rw [jA, hon, Bool.eq_false_iff.2 hpt]; rfl)
       exact ⟨d, by simp only [List.mem_append]; exact .inr hd, hh⟩
     | true =>
      have hon : (dm on i true).testBit p = true := by rw [gq hi8 hp8, kd hb]; exact ho
      by_cases hpt : (kF b n b.length).testBit p = true
      ·obtain ⟨d, hd, hh⟩ := key true 1 b hb (.inr ⟨rfl, rfl⟩) b1 hpt
       exact ⟨d, by simp only [List.mem_append]; exact .inl (.inr hd), hh⟩
      ·obtain ⟨d, hd, hh⟩ := c2 p hp (by rw [jA, hon, Bool.eq_false_iff.2 hpt]; simp)
       exact ⟨d, by simp only [List.mem_append]; exact .inr hd, hh⟩
theorem iI : ∀ (f on may i : Nat), (eI n f on may i).length ≤ 3 ^ f
 | 0, _, _, _ => by simp [eI]
 | f + 1, on, may, i => by
  rw [eI]
  have h3 : 3 ^ (f + 1) = 3 ^ f + 3 ^ f + 3 ^ f := by rw [Nat.pow_succ]; omega
  have h0 : 0 < 3 ^ f := Nat.pow_pos (by decide)
  split
  ·simp
  ·split
   ·simp; omega
   ·have h4 := iI f (andNot (dm on i false) (dm may i true)) (dm may i false) (i + 1)
    have h5 := iI f (andNot (dm on i true) (dm may i false)) (dm may i true) (i + 1)
    simp only [List.length_append, List.length_map]
    generalize eI n f (andNot (dm on i false) (dm may i true)) (dm may i false) (i + 1) = a at *
    generalize eI n f (andNot (dm on i true) (dm may i false)) (dm may i true) (i + 1) = b at *
    have h6 := iI f (se n (dm on i false) (dm on i true) a b) (dm may i false &&& dm may i true) (i + 1)
    omega
end
def mJ (x y : Nat) : Array Value := #[wv x 0, wv x 1, wv x 2, wv x 3, wv y 0, wv y 1, wv y 2, wv y 3]
def ni (s i k : Nat) : Array Value := mJ (if 0 < k then dm s i false else 0) (if 1 < k then dm s i true else 0)
theorem BP (s i : Nat) : (#[.int .u64 0, .int .u64 0, .int .u64 0, .int .u64 0, .int .u64 0, .int .u64 0, .int .u64 0, .int .u64 0] : Array Value) = ni s i 0 := by
 simp [ni, mJ, wd]
theorem sU {w : World} {b s i : Nat} {T : TypeId} (h : At w b #[.int .u64 0, .int .u64 0, .int .u64 0, .int .u64 0, .int .u64 0, .int .u64 0, .int .u64 0, .int .u64 0] T) : At w b (ni s i 0) T := by
 rw [← BP]; exact h
theorem pi (s i k : Nat) : (ni s i k).size = 8 := rfl
theorem rb {s i k : Nat} (hk : k < 2) :
  ((ni s i k).toList.take (0 + k * 4) ++ (#[wv (dm s i (decide ((k : Int) = 1))) 0, wv (dm s i (decide ((k : Int) = 1))) 1, wv (dm s i (decide ((k : Int) = 1))) 2, wv (dm s i (decide ((k : Int) = 1))) 3] : Array Value).toList ++
   (ni s i k).toList.drop (0 + k * 4 + (#[wv (dm s i (decide ((k : Int) = 1))) 0, wv (dm s i (decide ((k : Int) = 1))) 1, wv (dm s i (decide ((k : Int) = 1))) 2, wv (dm s i (decide ((k : Int) = 1))) 3] : Array Value).toList.length)).toArray = ni s i (k + 1) := by
 have : k = 0 ∨ k = 1 := by omega
 rcases this with rfl | rfl <;> rfl
theorem uv {s t : Nat} (h : ((wd s 0 : Nat) : Int) = ((wd t 0 : Nat) : Int) ∧ ((wd s 1 : Nat) : Int) = ((wd t 1 : Nat) : Int) ∧ ((wd s 2 : Nat) : Int) = ((wd t 2 : Nat) : Int) ∧ ((wd s 3 : Nat) : Int) = ((wd t 3 : Nat) : Int)) : wR s t = true := by
 unfold wR
 rw [decide_eq_true_eq]
 obtain ⟨h0, h1, h2, h3⟩ := h
 exact ⟨Int.ofNat_inj.1 h0, Int.ofNat_inj.1 h1, Int.ofNat_inj.1 h2, Int.ofNat_inj.1 h3⟩
theorem rQ {s t : Nat} (h : wR s t = true) : ((wd s 0 : Nat) : Int) = ((wd t 0 : Nat) : Int) ∧ ((wd s 1 : Nat) : Int) = ((wd t 1 : Nat) : Int) ∧ ((wd s 2 : Nat) : Int) = ((wd t 2 : Nat) : Int) ∧ ((wd s 3 : Nat) : Int) = ((wd t 3 : Nat) : Int) := by
 unfold wR at h
 rw [decide_eq_true_eq] at h
 obtain ⟨h0, h1, h2, h3⟩ := h
 exact ⟨by rw [h0], by rw [h1], by rw [h2], by rw [h3]⟩
theorem LW {n on may i : Nat} (h8 : n ≤ 8) (h : mQ n on may i) (h0 : ¬ wR on 0 = true) (h1 : ¬ wR may (fj n) = true) : i < n := Nat.lt_of_le_of_ne h.le fun e => by
 subst e
 rcases h.end h8 with h2 | h2
 ·exact h0 h2
 ·exact h1 h2
theorem AV {l : List Cb} {i q k : Nat} (h : k < l.length) : (l.take (k + 1)).map (iq i q) = (l.take k).map (iq i q) ++ [iq i q (l.getD k ⟨0, 0⟩)] := by
 rw [List.take_succ_eq_append_getElem h, List.map_append]
 simp [List.getD_eq_getElem?_getD, List.getElem?_eq_getElem h]
theorem KI {s k : Nat} {i : Int} {one : Bool} {H : Nat} (h : (if 0 ≤ i ∧ i < 8 then oV s i.toNat one else 0) = H) (hk : (k : Int) < ((eg H).length : Int)) : 0 ≤ i ∧ i < 8 := by
 refine Classical.byContradiction fun hn => ?_
 rw [if_neg hn] at h
 subst h
 have e : eg 0 = [] := by simp [eg]
 rw [e] at hk
 simp at hk
 omega
theorem IQ {s : Nat} {i : Int} {one : Bool} {H : Nat} (h : (if 0 ≤ i ∧ i < 8 then oV s i.toNat one else 0) = H) : jM (eg H) H i.toNat (eg H).length = if 0 ≤ i ∧ i < 8 then dm s i.toNat one else 0 := by
 split at h
 ·rename_i hi
  rw [if_pos hi, dm, h]
 ·rename_i hi
  rw [if_neg hi]
  subst h
  have e : eg 0 = [] := by simp [eg]
  rw [e]; rfl
theorem Fm {s : Nat} {n : Int} {c d : Cb} (h : imp s n d) (hr : dY c.m c.v n = true) (hh : i7 d c = true) : imp s n c := by
 rw [f6] at h ⊢
 refine ⟨hr, fun p hp hc => h.2 p hp ?_⟩
 exact lh (dW.1 h.1).2.2.2 hh hc
theorem Gh {c d : Cb} {i : Nat} (hi : i < 8) (h : i7 c d = true) : i7 (i6 c i) (i6 d i) = true := by
 rw [mm] at h ⊢
 intro j hj
 have hj' : (jx c.m (i : Int)).testBit j = true := hj
 rw [eN hi, Bool.and_eq_true] at hj'
 obtain ⟨h1, h2⟩ := h j hj'.1
 have hm : (i6 d i).m.testBit j = true := by
  show (jx d.m (i : Int)).testBit j = true
  rw [eN hi, h1, hj'.2]; rfl
 refine ⟨hm, ?_⟩
 show (c.v &&& jx c.m (i : Int)).testBit j = (d.v &&& jx d.m (i : Int)).testBit j
 rw [Nat.testBit_and, Nat.testBit_and, eN hi, eN hi, h1, hj'.1, hj'.2, h2]
theorem BV {s : Nat} {n : Int} {c : Cb} (h : imp s n c) : ∀ i : Nat, (i : Int) ≤ n → imp s n (eY s n c i) ∧ i7 (eY s n c i) c = true ∧ ∀ j, j < i → (eY s n c i).m.testBit j = true → ¬ imp s n (i6 (eY s n c i) j)
 | 0, _ => ⟨h, Cz c, fun j hj => absurd hj (Nat.not_lt_zero j)⟩
 | i + 1, hi => by
  obtain ⟨h1, h2, h3⟩ := BV h i (by omega)
  obtain ⟨h0, h8, _, _⟩ := dW.1 (f6.1 h).1
  by_cases hw : imp s n (i6 (eY s n c i) i)
  ·have e : eY s n c (i + 1) = i6 (eY s n c i) i := wK hw
   rw [e]
   have hho : i7 (i6 (eY s n c i) i) (eY s n c i) = true := Hf (by omega)
   refine ⟨hw, Bp hho h2, fun j hj hm => ?_⟩
   have hm' : (jx (eY s n c i).m (i : Int)).testBit j = true := hm
   rw [eN (by omega), Bool.and_eq_true, decide_eq_true_eq] at hm'
   intro hn
   refine h3 j (by omega) hm'.1 (Fm hn (Az (f6.1 h1).1) (Gh (by omega) hho))
  ·have e : eY s n c (i + 1) = eY s n c i := u6 (Bool.eq_false_iff.2 hw)
   rw [e]
   refine ⟨h1, h2, fun j hj hm => ?_⟩
   rcases Nat.lt_succ_iff_lt_or_eq.1 hj with hj | rfl
   ·exact h3 j hj hm
   ·exact hw
theorem rc {s : Nat} {n : Int} {c : Cb} (h : imp s n c) : gK (jw s n c).m (jw s n c).v s n = true ∧ i7 (jw s n c) c = true := by
 obtain ⟨h0, h8, _, _⟩ := dW.1 (f6.1 h).1
 obtain ⟨h1, h2, h3⟩ := BV h n.toNat (by omega)
 refine ⟨fY.2 ⟨h1, fun i hi => ?_⟩, h2⟩
 unfold ke
 rw [Bool.and_eq_false_iff]
 by_cases hm : (jw s n c).m.testBit i = true
 ·exact .inr (Bool.eq_false_iff.2 (h3 i hi hm))
 ·exact .inl (Bool.eq_false_iff.2 hm)
def iL (s : Nat) (n : Int) (l : List Cb) : Nat → List Cb
 | 0 => []
 | k + 1 => iB (iL s n l k) (jw s n (l.getD k ⟨0, 0⟩))
abbrev Cg (s : Nat) (n : Int) (l : List Cb) : List Cb := iL s n l l.length
theorem pj (s : Nat) (n : Int) (l : List Cb) : ∀ k, (iL s n l k).length ≤ k
 | 0 => by simp [iL]
 | k + 1 => Nat.le_trans (pn _ _) (by have := pj s n l k; omega)
theorem pv {s : Nat} {n : Int} {l : List Cb} {c : Cb} : ∀ k, c ∈ iL s n l k ↔ ∃ j, j < k ∧ c = jw s n (l.getD j ⟨0, 0⟩)
 | 0 => by simp [iL]
 | k + 1 => by
  rw [iL, gm, pv k]
  constructor
  ·rintro (⟨j, hj, h⟩ | h)
   ·exact ⟨j, by omega, h⟩
   ·exact ⟨k, by omega, h⟩
  ·rintro ⟨j, hj, h⟩
   rcases Nat.lt_succ_iff_lt_or_eq.1 hj with hj | rfl
   ·exact .inl ⟨j, hj, h⟩
   ·exact .inr h
end
section
open Go Go.RowKit
def PC (f : Nat → Bool) (k : Nat) : List Bool := (List.range 256).map fun p => decide (p < k) && f p
theorem de (f : Nat → Bool) (k : Nat) : (PC f k).length = 256 := by simp [PC]
theorem xC {s k : Nat} (h : k < 256) : (pr s).getD (k : Int).toNat false = s.testBit k := by
 rw [Int.toNat_natCast]; exact iE h
theorem EL {α : Type} {enc : α → List Value} {sz : Nat} {T : TypeId} {ok : Bool} {e1 : Int} {L : List α} {v : Value} {w' : World} {N : Nat} (h : if ok = true then ∃ x, v = .tuple #[x, .int .i64 0] ∧ dh enc sz T w' N x L else v = .tuple #[.slice none 0 0, .int .i64 e1]) :
  ∃ (x : Value) (er : Int) (l : List α), v = .tuple #[x, .int .i64 er] ∧ dh enc sz T w' N x l ∧ ((ok = true ∧ er = 0 ∧ l = L) ∨ (ok = false ∧ er = e1 ∧ l = [])) := by
 by_cases ho : ok = true
 ·rw [if_pos ho] at h
  obtain ⟨x, h1, h2⟩ := h
  exact ⟨x, 0, _, h1, h2, .inl ⟨ho, rfl, rfl⟩⟩
 ·rw [if_neg ho] at h
  exact ⟨_, e1, [], h, dh.nil, .inr ⟨by simpa using ho, rfl, rfl⟩⟩
def xT (on may : Nat) (n : Int) : Bool := uA may n && ep on may
theorem jI {on may : Nat} {n : Int} : xT on may n = true ↔ uA may n = true ∧ ep on may = true := by unfold xT; rw [Bool.and_eq_true]
theorem K2 {on may sa : Nat} {n er : Int} (h : (0 ≤ n ∧ n ≤ 8 ∧ sa = fj n.toNat ∧ er = 0) ∨ (¬ (0 ≤ n ∧ n ≤ 8) ∧ er = 1)) (h0 : ¬ er = 0) : ¬ xT on may n = true := fun hk => EK h h0 (jI.1 hk).1
theorem Li {on may : Nat} {n : Int} (h : (!ep on may) = true) : ¬ xT on may n = true := fun hk => by
 rw [(jI.1 hk).2] at h; cases h
theorem Ku {on may sa : Nat} {n er : Int} (h : (0 ≤ n ∧ n ≤ 8 ∧ sa = fj n.toNat ∧ er = 0) ∨ (¬ (0 ≤ n ∧ n ≤ 8) ∧ er = 1)) (h0 : ¬ ¬ er = 0) (hw : (!ep may sa) = true) : ¬ xT on may n = true := fun hk => Ez h h0 hw (jI.1 hk).1
theorem Nl {on may sa : Nat} {n er : Int} (h : (0 ≤ n ∧ n ≤ 8 ∧ sa = fj n.toNat ∧ er = 0) ∨ (¬ (0 ≤ n ∧ n ≤ 8) ∧ er = 1)) (h0 : ¬ ¬ er = 0) (h1 : (!ep on may) = false) (hw : (!ep may sa) = false) : xT on may n = true :=
 jI.2 ⟨Jw h h0 hw, by simpa using h1⟩
theorem za {on may : Nat} {n : Nat} (h : xT on may (n : Int) = true) : n ≤ 8 ∧ mQ n on may 0 := by
 obtain ⟨h1, h2⟩ := jI.1 h
 obtain ⟨h0, h8⟩ := jY h1
 have hw : ep may (fj n) = true := by
  unfold uA at h1
  rw [decide_eq_true h0, decide_eq_true h8] at h1
  simpa using h1
 refine ⟨by omega, Gj (d6.1 h2) fun p hp hm => ?_⟩
 have := d6.1 hw p hp hm
 rw [fP] at this
 simpa using this
abbrev i9 (on may : Nat) (n : Int) : List Cb := eI n.toNat (n.toNat + 1) on may 0
theorem OC {n : Nat} (h : n ≤ 8) : 3 ^ (n + 1) ≤ 19683 := by
 have : 3 ^ (n + 1) ≤ 3 ^ 9 := Nat.pow_le_pow_right (by decide) (by omega)
 simpa using this
theorem BA {on may : Nat} {n : Int} (h : n ≤ 8) : (i9 on may n).length ≤ 19683 := Nat.le_trans (iI _ _ _ _) (OC (by omega))
theorem uK {on may : Nat} {n : Int} (h : xT on may n = true) {c : Cb} (hc : c ∈ i9 on may n) : o0 c.m c.v may n = true ∧ c.m < 256 ∧ c.v < 256 ∧ c.v &&& c.m = c.v := by
 obtain ⟨h0, h8⟩ := jY (jI.1 h).1
 obtain ⟨n, rfl⟩ := Int.eq_ofNat_of_zero_le h0
 obtain ⟨h8', hg⟩ := za h
 obtain ⟨k1, k2, k3, k4⟩ := (kv h8' (n + 1) on may 0 hg (by omega)).1 c hc
 have hp := fT h8'
 have hle : c.v ≤ c.m := by rw [← k2]; exact Nat.and_le_right
 refine ⟨f6.2 ⟨dW.2 ⟨h0, h8, k1, k2⟩, fun p hp hh => k4 p hp hh⟩, by omega, by omega, k2⟩
theorem p4 {α : Type} [DecidableEq α] {l : List α} {k : α} (h : k ∈ l) : iB l k = l := if_pos h
theorem vr {α : Type} [DecidableEq α] {l : List α} {k : α} (h : k ∉ l) : iB l k = l ++ [k] := if_neg h
theorem M7 {ok : Bool} {er : Int} {l L : List Cb} (h : (ok = true ∧ er = 0 ∧ l = L) ∨ (ok = false ∧ er = 1 ∧ l = [])) (h0 : ¬ er = 0) : ¬ ok = true ∧ er = 1 := by
 rcases h with ⟨_, h2, _⟩ | ⟨h1, h2, _⟩
 ·exact absurd h2 h0
 ·exact ⟨by rw [h1]; decide, h2⟩
theorem Jt {ok : Bool} {er : Int} {l L : List Cb} (h : (ok = true ∧ er = 0 ∧ l = L) ∨ (ok = false ∧ er = 1 ∧ l = [])) (h0 : ¬ ¬ er = 0) : ok = true ∧ l = L := by
 rcases h with ⟨h1, _, h2⟩ | ⟨_, h2, _⟩
 ·exact ⟨h1, h2⟩
 ·exact absurd (fun e => by rw [h2] at e; cases e) h0
end
section
open Go Go.RowKit
structure Sp where
 n : Int
 on : List Nat
 may : List Nat
def zQ (S : Sp) (k : Nat) : Nat := S.on.getD k 0
def jf (S : Sp) (k : Nat) : Nat := S.may.getD k 0
def dP (S : Sp) : Bool :=
 decide (0 ≤ S.n) && (decide (S.n ≤ 8) && (decide (1 ≤ S.on.length) && (decide (S.on.length ≤ 4) && (decide (S.on.length = S.may.length) &&
  (List.range S.on.length).all fun k => ep (zQ S k) (jf S k) && ep (jf S k) (fj S.n.toNat)))))
theorem d7 {S : Sp} : dP S = true ↔ 0 ≤ S.n ∧ S.n ≤ 8 ∧ 1 ≤ S.on.length ∧ S.on.length ≤ 4 ∧ S.on.length = S.may.length ∧ ∀ k, k < S.on.length → ep (zQ S k) (jf S k) = true ∧ ep (jf S k) (fj S.n.toNat) = true := by
 unfold dP
 simp only [Bool.and_eq_true, decide_eq_true_eq, List.all_eq_true, List.mem_range]
theorem lX {S : Sp} (h : ¬ (0 ≤ S.n ∧ S.n ≤ 8 ∧ 1 ≤ S.on.length ∧ S.on.length ≤ 4 ∧ S.on.length = S.may.length)) : Value.bool false = .bool (dP S) :=
 congrArg Value.bool (Bool.eq_false_iff.2 fun hr => h (by
  obtain ⟨h1, h2, h3, h4, h5, _⟩ := d7.1 hr
  exact ⟨h1, h2, h3, h4, h5⟩)).symm
theorem uo {S : Sp} {k : Nat} (hk : k < S.on.length) (h : ¬ (ep (zQ S k) (jf S k) = true ∧ ep (jf S k) (fj S.n.toNat) = true)) : Value.bool false = .bool (dP S) :=
 congrArg Value.bool (Bool.eq_false_iff.2 fun hr => h ((d7.1 hr).2.2.2.2.2 k hk)).symm
theorem D1 {S : Sp} (h : 0 ≤ S.n ∧ S.n ≤ 8 ∧ 1 ≤ S.on.length ∧ S.on.length ≤ 4 ∧ S.on.length = S.may.length) (hk : ∀ k, k < S.on.length → ep (zQ S k) (jf S k) = true ∧ ep (jf S k) (fj S.n.toNat) = true) : Value.bool true = .bool (dP S) :=
 congrArg Value.bool (d7.2 ⟨h.1, h.2.1, h.2.2.1, h.2.2.2.1, h.2.2.2.2, hk⟩).symm
def kW (S : Sp) (c : Cb) : Nat → Nat
 | 0 => 0
 | k + 1 => if o0 c.m c.v (jf S k) S.n = true then kW S c k ||| 1 * 2 ^ k else kW S c k
abbrev kB (S : Sp) (c : Cb) : Nat := kW S c S.may.length
theorem Hp {S : Sp} {c : Cb} {k : Nat} (h : o0 c.m c.v (jf S k) S.n = true) : kW S c k ||| 1 * 2 ^ k = kW S c (k + 1) := (if_pos h).symm
theorem GL {S : Sp} {c : Cb} {k : Nat} (h : o0 c.m c.v (jf S k) S.n = false) : kW S c k = kW S c (k + 1) := (if_neg (by rw [h]; decide)).symm
theorem gz {S : Sp} {c : Cb} {j : Nat} : ∀ k, (kW S c k).testBit j = true ↔ j < k ∧ o0 c.m c.v (jf S j) S.n = true
 | 0 => by simp [kW]
 | k + 1 => by
  rw [kW]
  split
  ·rename_i h
   rw [Nat.one_mul, Nat.testBit_or, Nat.testBit_two_pow, Bool.or_eq_true, gz k, decide_eq_true_eq]
   constructor
   ·rintro (⟨h1, h2⟩ | rfl)
    ·exact ⟨by omega, h2⟩
    ·exact ⟨by omega, h⟩
   ·rintro ⟨h1, h2⟩
    rcases Nat.lt_succ_iff_lt_or_eq.1 h1 with h1 | h1
    ·exact .inl ⟨h1, h2⟩
    ·exact .inr h1.symm
  ·rename_i h
   rw [gz k]
   constructor
   ·rintro ⟨h1, h2⟩; exact ⟨by omega, h2⟩
   ·rintro ⟨h1, h2⟩
    rcases Nat.lt_succ_iff_lt_or_eq.1 h1 with h1 | rfl
    ·exact ⟨h1, h2⟩
    ·exact absurd h2 h
theorem qk (S : Sp) (c : Cb) (k : Nat) : kW S c k < 2 ^ k := fZ.2 fun j hj => Bool.eq_false_iff.2 fun h => by
 have := ((gz k).1 h).1
 omega
theorem F4 {k : Nat} (h : k ≤ 4) : 2 ^ k ≤ 16 := by
 have h2 : 2 ^ k ≤ 2 ^ 4 := Nat.pow_le_pow_right (by decide) h
 simpa using h2
def pM (S : Sp) (x : Rw) : Bool := dP S && (decide (0 < x.o) && decide (andNot x.o (kB S x.c) = 0))
theorem wB {a b : Nat} : andNot a b = 0 ↔ ∀ j, a.testBit j = true → b.testBit j = true := by
 constructor
 ·intro h j hj
  have h2 := congrArg (fun x => x.testBit j) h
  simp only [eh, Nat.zero_testBit, hj, Bool.true_and] at h2
  simpa using h2
 ·intro h
  refine Nat.eq_of_testBit_eq fun j => ?_
  rw [eh, Nat.zero_testBit]
  cases ha : a.testBit j with
  | false => rfl
  | true => rw [h j ha]; rfl
theorem gy {S : Sp} {x : Rw} : pM S x = true ↔ dP S = true ∧ 0 < x.o ∧ ∀ j, x.o.testBit j = true → j < S.may.length ∧ o0 x.c.m x.c.v (jf S j) S.n = true := by
 unfold pM
 rw [Bool.and_eq_true, Bool.and_eq_true, decide_eq_true_eq, decide_eq_true_eq, wB]
 simp only [gz]
theorem oq {S : Sp} {x : Rw} (h : pM S x = true) : x.o < 2 ^ S.may.length ∧ x.o < 16 := by
 obtain ⟨h1, _, h3⟩ := gy.1 h
 obtain ⟨_, _, _, h4, h5, _⟩ := d7.1 h1
 have : x.o < 2 ^ S.may.length := fZ.2 fun j hj => Bool.eq_false_iff.2 fun hb => by have := (h3 j hb).1; omega
 have := F4 (k := S.may.length) (by omega)
 omega
theorem oG {a : Nat} (h : 0 < a) : ∃ j, a.testBit j = true := Classical.byContradiction fun hn => by
 have : a = 0 := Nat.eq_of_testBit_eq fun j => by rw [Nat.zero_testBit]; exact Bool.eq_false_iff.2 fun hb => hn ⟨j, hb⟩
 omega
theorem uE {a j : Nat} (h : a.testBit j = true) : 0 < a := Nat.pos_of_ne_zero fun e => by
 rw [e, Nat.zero_testBit] at h; cases h
theorem gn {S : Sp} {x : Rw} (h : pM S x = true) : dY x.c.m x.c.v S.n = true := by
 obtain ⟨_, h2, h3⟩ := gy.1 h
 obtain ⟨j, hj⟩ := oG h2
 exact sS (h3 j hj).2
def q9 (a b : Rw) : Bool := i7 a.c b.c && decide (andNot b.o a.o = 0)
theorem oD {a b : Rw} : q9 a b = true ↔ i7 a.c b.c = true ∧ ∀ j, b.o.testBit j = true → a.o.testBit j = true := by
 unfold q9
 rw [Bool.and_eq_true, decide_eq_true_eq, wB]
def kH (S : Sp) (o : Nat) : Nat → Nat
 | 0 => fj S.n.toNat
 | k + 1 => if o.testBit k = true then kH S o k &&& jf S k else kH S o k
abbrev gf (S : Sp) (o : Nat) : Nat := kH S o S.may.length
theorem DO {S : Sp} {o k : Nat} (h : o.testBit k = true) : kH S o k &&& jf S k = kH S o (k + 1) := (if_pos h).symm
theorem D3 {S : Sp} {o k : Nat} (h : ¬ o.testBit k = true) : kH S o k = kH S o (k + 1) := (if_neg h).symm
theorem iW {S : Sp} {o p : Nat} : ∀ k, (kH S o k).testBit p = true ↔ p < 2 ^ S.n.toNat ∧ ∀ j, j < k → o.testBit j = true → (jf S j).testBit p = true
 | 0 => by simp [kH, fP]
 | k + 1 => by
  rw [kH]
  split
  ·rename_i h
   rw [Nat.testBit_and, Bool.and_eq_true, iW k]
   constructor
   ·rintro ⟨⟨h1, h2⟩, h3⟩
    refine ⟨h1, fun j hj ho => ?_⟩
    rcases Nat.lt_succ_iff_lt_or_eq.1 hj with hj | rfl
    ·exact h2 j hj ho
    ·exact h3
   ·rintro ⟨h1, h2⟩
    exact ⟨⟨h1, fun j hj ho => h2 j (by omega) ho⟩, h2 k (by omega) h⟩
  ·rename_i h
   rw [iW k]
   constructor
   ·rintro ⟨h1, h2⟩
    refine ⟨h1, fun j hj ho => ?_⟩
    rcases Nat.lt_succ_iff_lt_or_eq.1 hj with hj | rfl
    ·exact h2 j hj ho
    ·exact absurd ho h
   ·rintro ⟨h1, h2⟩
    exact ⟨h1, fun j hj ho => h2 j (by omega) ho⟩
theorem GK {S : Sp} (hr : dP S = true) (o : Nat) : uA (gf S o) S.n = true := by
 obtain ⟨h0, h8, _⟩ := d7.1 hr
 unfold uA
 rw [decide_eq_true h0, decide_eq_true h8, Bool.true_and, Bool.true_and, d6]
 intro p _ h
 rw [fP]
 simpa using ((iW _).1 h).1
theorem s8 {S : Sp} {c : Cb} {o : Nat} : o0 c.m c.v (gf S o) S.n = true ↔ dY c.m c.v S.n = true ∧ ∀ j, j < S.may.length → o.testBit j = true → o0 c.m c.v (jf S j) S.n = true := by
 have e1 := f6 (s := gf S o) (n := S.n) (c := c)
 have e2 := fun j => f6 (s := jf S j) (n := S.n) (c := c)
 unfold imp at e1 e2
 rw [e1]
 constructor
 ·rintro ⟨h1, h2⟩
  exact ⟨h1, fun j hj ho => (e2 j).2 ⟨h1, fun p hp hc => ((iW _).1 (h2 p hp hc)).2 j hj ho⟩⟩
 ·rintro ⟨h1, h2⟩
  exact ⟨h1, fun p hp hc => (iW _).2 ⟨hp, fun j hj ho => ((e2 j).1 (h2 j hj ho)).2 p hp hc⟩⟩
theorem jJ {S : Sp} {x : Rw} : pM S x = true ↔ dP S = true ∧ 0 < x.o ∧ x.o < 2 ^ S.may.length ∧ o0 x.c.m x.c.v (gf S x.o) S.n = true := by
 constructor
 ·intro h
  obtain ⟨h1, h2, h3⟩ := gy.1 h
  exact ⟨h1, h2, (oq h).1, s8.2 ⟨gn h, fun j _ hj => (h3 j hj).2⟩⟩
 ·rintro ⟨h1, h2, h3, h4⟩
  refine gy.2 ⟨h1, h2, fun j hj => ?_⟩
  have hlt : j < S.may.length := Classical.byContradiction fun hn => by
   rw [fZ.1 h3 j (by omega)] at hj; cases hj
  exact ⟨hlt, (s8.1 h4).2 j hlt hj⟩
def tm (S : Sp) (x : Rw) : Nat → List Cb
 | 0 => []
 | k + 1 => if ¬ i6 x.c k = x.c ∧ pM S ⟨i6 x.c k, x.o⟩ = true then tm S x k ++ [i6 x.c k] else tm S x k
theorem xM {S : Sp} {x : Rw} : ∀ k, (tm S x k).length = 0 ↔ ∀ i, i < k → ¬ (¬ i6 x.c i = x.c ∧ pM S ⟨i6 x.c i, x.o⟩ = true)
 | 0 => by simp [tm]
 | k + 1 => by
  have ih := xM (S := S) (x := x) k
  rw [tm]
  split
  ·rename_i h
   simp only [List.length_append, List.length_cons, List.length_nil]
   constructor
   ·intro h2; omega
   ·intro h2; exact absurd h (h2 k (by omega))
  ·rename_i h
   rw [ih]
   constructor
   ·intro h2 i hi
    rcases Nat.lt_succ_iff_lt_or_eq.1 hi with hi | rfl
    ·exact h2 i hi
    ·exact h
   ·intro h2 i hi; exact h2 i (by omega)
def oJ (S : Sp) (x : Rw) : Bool := pM S x && (decide (kB S x.c = x.o) && decide ((tm S x S.n.toNat).length = 0))
theorem Er {c : Cb} {i : Nat} (hi : i < 8) (hv : c.v &&& c.m = c.v) : i6 c i = c ↔ c.m.testBit i = false := by
 have hw := fun j => eN (m := c.m) hi j
 constructor
 ·intro h
  have h1 : jx c.m (i : Int) = c.m := congrArg Cb.m h
  have := hw i
  rw [h1] at this
  cases hb : c.m.testBit i with
  | false => rfl
  | true => rw [hb] at this; simp at this
 ·intro h
  have h1 : jx c.m (i : Int) = c.m := Nat.eq_of_testBit_eq fun j => by
   rw [hw]
   by_cases e : j = i
   ·subst e; rw [h]; rfl
   ·simp [e]
  unfold i6
  rw [h1, hv]
theorem fC {S : Sp} {x : Rw} : oJ S x = true ↔ pM S x = true ∧ kB S x.c = x.o ∧ gK x.c.m x.c.v (gf S x.o) S.n = true := by
 unfold oJ
 rw [Bool.and_eq_true, Bool.and_eq_true, decide_eq_true_eq, decide_eq_true_eq, xM]
 constructor
 ·rintro ⟨h1, h2, h3⟩
  refine ⟨h1, h2, fY.2 ⟨(jJ.1 h1).2.2.2, fun i hi => Bool.eq_false_iff.2 fun hs => ?_⟩⟩
  obtain ⟨h0, h8, hm, hv⟩ := dW.1 (gn h1)
  unfold ke at hs
  rw [Bool.and_eq_true] at hs
  refine h3 i hi ⟨fun he => ?_, jJ.2 ⟨(jJ.1 h1).1, (jJ.1 h1).2.1, (jJ.1 h1).2.2.1, hs.2⟩⟩
  rw [(Er (by omega) hv).1 he] at hs
  cases hs.1
 ·rintro ⟨h1, h2, h3⟩
  refine ⟨h1, h2, fun i hi ⟨g1, g2⟩ => ?_⟩
  obtain ⟨h0, h8, hm, hv⟩ := dW.1 (gn h1)
  have hs := (fY.1 h3).2 i hi
  unfold ke at hs
  have hb : x.c.m.testBit i = true := Classical.byContradiction fun hn => g1 ((Er (by omega) hv).2 (Bool.eq_false_iff.2 hn))
  have hw : o0 (jx x.c.m (i : Int)) (x.c.v &&& jx x.c.m (i : Int)) (gf S x.o) S.n = true := (jJ.1 g2).2.2.2
  rw [hb, hw] at hs
  cases hs
def ex (S : Sp) (x : Rw) : Nat → Cb
 | 0 => x.c
 | i + 1 => if pM S ⟨i6 (ex S x i) i, x.o⟩ = true then i6 (ex S x i) i else ex S x i
def tX (S : Sp) (x : Rw) : Rw := ⟨ex S x S.n.toNat, kB S (ex S x S.n.toNat)⟩
theorem uP {S : Sp} {x : Rw} {i : Nat} (h : pM S ⟨i6 (ex S x i) i, x.o⟩ = true) : i6 (ex S x i) i = ex S x (i + 1) := (if_pos h).symm
theorem uq {S : Sp} {x : Rw} {i : Nat} (h : pM S ⟨i6 (ex S x i) i, x.o⟩ = false) : ex S x i = ex S x (i + 1) := (if_neg (by rw [h]; decide)).symm
theorem xI {S : Sp} {x : Rw} (h : pM S x = true) : ∀ i, ex S x i = eY (gf S x.o) S.n x.c i
 | 0 => rfl
 | i + 1 => by
  have ih := xI h i
  obtain ⟨h1, h2, h3, _⟩ := jJ.1 h
  have e : pM S ⟨i6 (eY (gf S x.o) S.n x.c i) i, x.o⟩ = o0 (i6 (eY (gf S x.o) S.n x.c i) i).m (i6 (eY (gf S x.o) S.n x.c i) i).v (gf S x.o) S.n := by
   rw [Bool.eq_iff_iff]
   exact ⟨fun k => (jJ.1 k).2.2.2, fun k => jJ.2 ⟨h1, h2, h3, k⟩⟩
  rw [ex, ih, e]
  rfl
theorem rU {S : Sp} {x : Rw} (h : x.c.m < 256 ∧ x.c.v < 256) : ∀ i, (ex S x i).m < 256 ∧ (ex S x i).v < 256
 | 0 => h
 | i + 1 => by
  have ih := rU (S := S) h i
  rw [ex]
  split
  ·exact ⟨Nat.lt_of_le_of_lt (uT _ _) ih.1, Nat.lt_of_le_of_lt Nat.and_le_left ih.2⟩
  ·exact ih
theorem mU {S : Sp} {x : Rw} (h : pM S x = true) : oJ S (tX S x) = true ∧ q9 (tX S x) x = true := by
 obtain ⟨h1, h2, h3, h4⟩ := jJ.1 h
 have hg := rc (s := gf S x.o) (n := S.n) (c := x.c) h4
 have e : ex S x S.n.toNat = jw (gf S x.o) S.n x.c := xI h S.n.toNat
 have hsub : ∀ j, x.o.testBit j = true → (kB S (ex S x S.n.toNat)).testBit j = true := fun j hj => by
  have hlt : j < S.may.length := Classical.byContradiction fun hn => by
   rw [fZ.1 h3 j (by omega)] at hj; cases hj
  rw [gz, e]
  exact ⟨hlt, (s8.1 (fY.1 hg.1).1).2 j hlt hj⟩
 have hin : pM S (tX S x) = true := gy.2 ⟨h1, (oG h2).elim fun j hj => uE (hsub j hj), fun j hj => (gz _).1 hj⟩
 refine ⟨fC.2 ⟨hin, rfl, fY.2 ⟨(jJ.1 hin).2.2.2, fun i hi => Bool.eq_false_iff.2 fun hs => ?_⟩⟩, oD.2 ⟨by show i7 (ex S x S.n.toNat) x.c = true; rw [e]; exact hg.2, hsub⟩⟩
 unfold ke at hs
 rw [Bool.and_eq_true] at hs
 have hk := (fY.1 hg.1).2 i hi
 unfold ke at hk
 rw [← e] at hk
 have hw : o0 (jx (ex S x S.n.toNat).m (i : Int)) ((ex S x S.n.toNat).v &&& jx (ex S x S.n.toNat).m (i : Int)) (gf S x.o) S.n = true := by
  have := (s8 (S := S) (c := i6 (ex S x S.n.toNat) i) (o := kB S (ex S x S.n.toNat))).1 hs.2
  exact (s8 (S := S) (c := i6 (ex S x S.n.toNat) i) (o := x.o)).2 ⟨this.1, fun j hj ho => this.2 j hj (hsub j ho)⟩
 have hb : (ex S x S.n.toNat).m.testBit i = true := hs.1
 rw [hb, hw] at hk
 cases hk
def zP (a b : Rw) : Bool := decide (a.o < b.o) || (decide (a.o = b.o) && wu a.c b.c)
theorem qq {a b : Rw} : zP a b = true ↔ a.o < b.o ∨ a.o = b.o ∧ (a.c.m < b.c.m ∨ a.c.m = b.c.m ∧ a.c.v < b.c.v) := by
 unfold zP
 rw [Bool.or_eq_true, Bool.and_eq_true, decide_eq_true_eq, decide_eq_true_eq, kx]
def qg (l : List Rw) : Prop := l.Pairwise fun a b => zP a b = true
theorem vB (a : Rw) : zP a a = false := Bool.eq_false_iff.2 fun h => by rw [qq] at h; omega
theorem F9 {a b c : Rw} (h : zP a b = true) (k : zP b c = true) : zP a c = true := by
 rw [qq] at *; omega
def iG (S : Sp) (o : Nat) : Nat → List Rw
 | 0 => []
 | k + 1 => if kB S ((eH (gf S o) S.n).getD k ⟨0, 0⟩) = o then iG S o k ++ [⟨(eH (gf S o) S.n).getD k ⟨0, 0⟩, o⟩] else iG S o k
abbrev BS (S : Sp) (o : Nat) : List Rw := iG S o (eH (gf S o) S.n).length
def jG (S : Sp) : Nat → List Rw
 | 0 => []
 | o + 1 => if o = 0 then [] else jG S o ++ BS S o
abbrev eR (S : Sp) : List Rw := jG S (2 ^ S.may.length)
theorem Bc {S : Sp} {o k : Nat} (h : kB S ((eH (gf S o) S.n).getD k ⟨0, 0⟩) = o) : iG S o k ++ [⟨(eH (gf S o) S.n).getD k ⟨0, 0⟩, o⟩] = iG S o (k + 1) := (if_pos h).symm
theorem z9 {S : Sp} {o k : Nat} (h : ¬ kB S ((eH (gf S o) S.n).getD k ⟨0, 0⟩) = o) : iG S o k = iG S o (k + 1) := (if_neg h).symm
theorem Dl {S : Sp} {o : Nat} (h : 0 < o) : jG S o ++ BS S o = jG S (o + 1) := (if_neg (by omega)).symm
theorem qZ (S : Sp) (o : Nat) : ∀ k, (iG S o k).length ≤ k
 | 0 => by simp [iG]
 | k + 1 => by
  have := qZ S o k
  rw [iG]
  split <;> simp <;> omega
theorem s7 {S : Sp} (h8 : S.n ≤ 8) : ∀ o, (jG S o).length ≤ o * 65536
 | 0 => by simp [jG]
 | o + 1 => by
  have ih := s7 h8 o
  have h1 := qZ S o (eH (gf S o) S.n).length
  have h2 := tM (s := gf S o) h8
  rw [jG]
  split
  ·simp
  ·simp only [List.length_append]; show (jG S o).length + (iG S o (eH (gf S o) S.n).length).length ≤ _; omega
theorem mD {S : Sp} {o : Nat} {x : Rw} : ∀ k, x ∈ iG S o k ↔ ∃ j, j < k ∧ x = ⟨(eH (gf S o) S.n).getD j ⟨0, 0⟩, o⟩ ∧ kB S x.c = o
 | 0 => by simp [iG]
 | k + 1 => by
  rw [iG]
  split
  ·rename_i h
   rw [List.mem_append, List.mem_singleton, mD k]
   constructor
   ·rintro (⟨j, hj, r⟩ | rfl)
    ·exact ⟨j, by omega, r⟩
    ·exact ⟨k, by omega, rfl, h⟩
   ·rintro ⟨j, hj, r, r2⟩
    rcases Nat.lt_succ_iff_lt_or_eq.1 hj with hj | rfl
    ·exact .inl ⟨j, hj, r, r2⟩
    ·exact .inr r
  ·rename_i h
   rw [mD k]
   constructor
   ·rintro ⟨j, hj, r⟩; exact ⟨j, by omega, r⟩
   ·rintro ⟨j, hj, r, r2⟩
    rcases Nat.lt_succ_iff_lt_or_eq.1 hj with hj | rfl
    ·exact ⟨j, hj, r, r2⟩
    ·subst r; exact absurd r2 h
theorem FR {S : Sp} {o : Nat} {x : Rw} (hr : dP S = true) (h0 : 0 < o) (ho : o < 2 ^ S.may.length) : x ∈ BS S o ↔ oJ S x = true ∧ x.o = o := by
 unfold BS
 rw [mD]
 constructor
 ·rintro ⟨j, hj, rfl, h2⟩
  have hp := mV.1 (dS (d := ⟨0, 0⟩) hj)
  have hin : pM S ⟨(eH (gf S o) S.n).getD j ⟨0, 0⟩, o⟩ = true := jJ.2 ⟨hr, h0, ho, (fY.1 hp).1⟩
  exact ⟨fC.2 ⟨hin, h2, hp⟩, rfl⟩
 ·rintro ⟨h1, rfl⟩
  obtain ⟨g1, g2, g3⟩ := fC.1 h1
  obtain ⟨j, hj, he⟩ := fo (d := ⟨0, 0⟩) (mV.2 g3)
  have he' : (eH (gf S x.o) S.n).getD j ⟨0, 0⟩ = x.c := he
  exact ⟨j, hj, by rw [he'], g2⟩
theorem xB {S : Sp} {x : Rw} (hr : dP S = true) : ∀ o, o ≤ 2 ^ S.may.length → (x ∈ jG S o ↔ oJ S x = true ∧ x.o < o)
 | 0, _ => by simp [jG]
 | o + 1, ho => by
  rw [jG]
  split
  ·rename_i h
   subst h
   constructor
   ·intro h; cases h
   ·rintro ⟨h1, h2⟩
    have := (gy.1 (fC.1 h1).1).2.1
    omega
  ·rename_i h
   rw [List.mem_append, xB hr o (by omega), FR hr (by omega) (by omega)]
   constructor
   ·rintro (⟨h1, h2⟩ | ⟨h1, h2⟩)
    ·exact ⟨h1, by omega⟩
    ·exact ⟨h1, by omega⟩
   ·rintro ⟨h1, h2⟩
    rcases Nat.lt_succ_iff_lt_or_eq.1 h2 with h2 | h2
    ·exact .inl ⟨h1, h2⟩
    ·exact .inr ⟨h1, h2⟩
theorem nT {S : Sp} {x : Rw} (hr : dP S = true) : x ∈ eR S ↔ oJ S x = true := by
 rw [xB hr _ (Nat.le_refl _)]
 exact ⟨fun h => h.1, fun h => ⟨h, (oq (fC.1 h).1).1⟩⟩
theorem CV {l : List Cb} (h : iM l) {i j : Nat} (hij : i < j) (hj : j < l.length) : wu (l.getD i ⟨0, 0⟩) (l.getD j ⟨0, 0⟩) = true := by
 have := List.pairwise_iff_getElem.1 h i j (by omega) hj hij
 simpa [List.getD_eq_getElem?_getD, List.getElem?_eq_getElem hj, List.getElem?_eq_getElem (show i < l.length by omega)] using this
theorem qS (S : Sp) (o : Nat) : ∀ k, k ≤ (eH (gf S o) S.n).length → qg (iG S o k)
 | 0, _ => by simp [iG, qg]
 | k + 1, hk => by
  have ih := qS S o k (by omega)
  rw [iG]
  split
  ·refine List.pairwise_append.2 ⟨ih, by simp, fun a ha b hb => ?_⟩
   rw [List.mem_singleton] at hb
   subst hb
   obtain ⟨j, hj, rfl, _⟩ := (mD k).1 ha
   have := CV (p7 (gf S o) S.n) hj (by omega)
   unfold zP
   rw [this]
   simp
  ·exact ih
theorem Eb {S : Sp} {o : Nat} {x : Rw} (h : x ∈ BS S o) : x.o = o := by
 obtain ⟨_, _, rfl, _⟩ := (mD _).1 h
 rfl
theorem Ea {S : Sp} {x : Rw} : ∀ o, x ∈ jG S o → x.o < o
 | 0, h => by simp [jG] at h
 | o + 1, h => by
  rw [jG] at h
  split at h
  ·cases h
  ·rcases List.mem_append.1 h with h | h
   ·have := Ea o h; omega
   ·have := Eb h; omega
theorem oE (S : Sp) : ∀ o, qg (jG S o)
 | 0 => by simp [jG, qg]
 | o + 1 => by
  have ih := oE S o
  rw [jG]
  split
  ·simp [qg]
  ·refine List.pairwise_append.2 ⟨ih, qS S o _ (Nat.le_refl _), fun a ha b hb => ?_⟩
   have h1 := Ea o ha
   have h2 := Eb hb
   rw [qq]
   omega
def og (l : List Rw) (x : Rw) : Nat → Nat
 | 0 => 0
 | i + 1 => if zP x (l.getD i ⟨⟨0, 0⟩, 0⟩) = true then og l x i else i + 1
def Fv (l : List Rw) (x : Rw) : List Rw := l.take (og l x l.length) ++ x :: l.drop (og l x l.length)
def fm (l : List Rw) : Nat → List Rw
 | 0 => []
 | k + 1 => Fv (fm l k) (l.getD k ⟨⟨0, 0⟩, 0⟩)
theorem DT (l : List Rw) (x : Rw) : ∀ k, og l x k ≤ k
 | 0 => by simp [og]
 | k + 1 => by
  have := DT l x k
  rw [og]
  split <;> omega
theorem Fj {l : List Rw} {x : Rw} {i : Nat} (h0 : 0 < i) (h : zP x (l.getD (i - 1) ⟨⟨0, 0⟩, 0⟩) = true) : og l x i = og l x (i - 1) := by
 obtain ⟨j, rfl⟩ : ∃ j, i = j + 1 := ⟨i - 1, by omega⟩
 rw [og, if_pos (by simpa using h)]; rfl
theorem AF {l : List Rw} {x : Rw} {i : Nat} (h : i = 0 ∨ zP x (l.getD (i - 1) ⟨⟨0, 0⟩, 0⟩) = false) : og l x i = i := by
 rcases h with rfl | h
 ·rfl
 ·cases i with
  | zero => rfl
  | succ j => rw [og, if_neg (by simp at h; simp [h])]
theorem Ib (l : List Rw) (x : Rw) : (Fv l x).length = l.length + 1 := by
 have := DT l x l.length
 simp [Fv]; omega
theorem n7 (l : List Rw) : ∀ k, (fm l k).length = k
 | 0 => rfl
 | k + 1 => by rw [fm, Ib, n7 l k]
theorem tQ {l : List Rw} (h : qg l) : ∀ k, k ≤ l.length → fm l k = l.take k
 | 0, _ => rfl
 | k + 1, hk => by
  have ih := tQ h k (by omega)
  have e : l.getD k ⟨⟨0, 0⟩, 0⟩ = l[k] := by simp [show k < l.length by omega]
  have hp : og (l.take k) l[k] (l.take k).length = (l.take k).length := AF (by
   by_cases h0 : (l.take k).length = 0
   ·exact .inl h0
   ·right
    have hl : (l.take k).length = k := by simp; omega
    rw [hl] at h0 ⊢
    have hlt := List.pairwise_iff_getElem.1 h (k - 1) k (by omega) (by omega) (by omega)
    have e2 : (l.take k).getD (k - 1) ⟨⟨0, 0⟩, 0⟩ = l[k - 1] := by
     simp [List.getD_eq_getElem?_getD, List.getElem?_take, show k - 1 < k by omega, List.getElem?_eq_getElem (show k - 1 < l.length by omega)]
    rw [e2]
    refine Bool.eq_false_iff.2 fun hb => ?_
    have := F9 hlt hb
    rw [vB] at this
    cases this)
  rw [fm, ih, e, Fv, hp, List.take_length, List.drop_length, List.take_succ_eq_append_getElem (by omega)]
theorem FT (S : Sp) : fm (eR S) (eR S).length = eR S := by
 rw [tQ (oE S _) _ (Nat.le_refl _), List.take_length]
def mC (l : List Rw) (n o : Nat) : Nat → Nat
 | 0 => 0
 | k + 1 => if (l.getD k ⟨⟨0, 0⟩, 0⟩).o.testBit o = true then mC l n o k ||| qI (l.getD k ⟨⟨0, 0⟩, 0⟩).c.m (l.getD k ⟨⟨0, 0⟩, 0⟩).c.v n else mC l n o k
theorem JL {l : List Rw} {n o k : Nat} (h : (l.getD k ⟨⟨0, 0⟩, 0⟩).o.testBit o = true) : mC l n o k ||| qI (l.getD k ⟨⟨0, 0⟩, 0⟩).c.m (l.getD k ⟨⟨0, 0⟩, 0⟩).c.v n = mC l n o (k + 1) := (if_pos h).symm
theorem Ju {l : List Rw} {n o k : Nat} (h : ¬ (l.getD k ⟨⟨0, 0⟩, 0⟩).o.testBit o = true) : mC l n o k = mC l n o (k + 1) := (if_neg h).symm
def Ou (x : Rw) (o p : Nat) : Prop := x.o.testBit o = true ∧ hold x.c p
theorem kr {l : List Rw} {n o : Nat} (hn : n ≤ 8) (p : Nat) : ∀ k, k ≤ l.length → ((mC l n o k).testBit p = true ↔ p < 2 ^ n ∧ ∃ j, j < k ∧ Ou (l.getD j ⟨⟨0, 0⟩, 0⟩) o p)
 | 0, _ => by simp [mC]
 | k + 1, hk => by
  have ih := kr (l := l) (o := o) hn p k (by omega)
  rw [mC]
  split
  ·rename_i h
   rw [Nat.testBit_or, Bool.or_eq_true, ih, jq hn, Bool.and_eq_true, decide_eq_true_eq, decide_eq_true_eq]
   constructor
   ·rintro (⟨h1, j, hj, r⟩ | ⟨h1, h2⟩)
    ·exact ⟨h1, j, by omega, r⟩
    ·exact ⟨h1, k, by omega, h, h2⟩
   ·rintro ⟨h1, j, hj, r⟩
    rcases Nat.lt_succ_iff_lt_or_eq.1 hj with hj | rfl
    ·exact .inl ⟨h1, j, hj, r⟩
    ·exact .inr ⟨h1, r.2⟩
  ·rename_i h
   rw [ih]
   constructor
   ·rintro ⟨h1, j, hj, r⟩; exact ⟨h1, j, by omega, r⟩
   ·rintro ⟨h1, j, hj, r⟩
    rcases Nat.lt_succ_iff_lt_or_eq.1 hj with hj | rfl
    ·exact ⟨h1, j, hj, r⟩
    ·exact absurd r.1 h
def EV (S : Sp) (x : Rw) : Bool := dY x.c.m x.c.v S.n && (decide (0 < x.o) && decide (x.o < 2 ^ S.on.length))
def oh (S : Sp) (l : List Rw) : Bool := l.all (EV S)
def w5 (S : Sp) (l : List Rw) (o : Nat) : Bool := ep (zQ S o) (mC l S.n.toNat o l.length) && ep (mC l S.n.toNat o l.length) (jf S o)
def ju (S : Sp) (l : List Rw) : Bool := dP S && (oh S l && (List.range S.on.length).all (w5 S l))
theorem gX {S : Sp} {l : List Rw} : ju S l = true ↔ dP S = true ∧ oh S l = true ∧ ∀ o, o < S.on.length → w5 S l o = true := by
 unfold ju
 rw [Bool.and_eq_true, Bool.and_eq_true, List.all_eq_true]
 simp only [List.mem_range]
theorem kq {S : Sp} {l : List Rw} : oh S l = true ↔ ∀ k, k < l.length → EV S (l.getD k ⟨⟨0, 0⟩, 0⟩) = true := by
 unfold oh
 rw [List.all_eq_true]
 constructor
 ·intro h k hk; exact h _ (dS hk)
 ·intro h x hx
  obtain ⟨k, hk, rfl⟩ := fo (d := ⟨⟨0, 0⟩, 0⟩) hx
  exact h k hk
theorem jd {S : Sp} {x : Rw} : EV S x = true ↔ dY x.c.m x.c.v S.n = true ∧ 0 < x.o ∧ x.o < 2 ^ S.on.length := by
 unfold EV
 rw [Bool.and_eq_true, Bool.and_eq_true, decide_eq_true_eq, decide_eq_true_eq]
end
section
open Go Go.RowKit
theorem ie {b : Bool} (h : (!b) = false) : b = true := by cases b <;> simp_all
theorem jc {b : Bool} (h : (!b) = true) : b = false := by cases b <;> simp_all
theorem Bu {b : Bool} (h : b = true) : Value.bool true = .bool b := by rw [h]
theorem ot {b : Bool} (h : ¬ b = true) : Value.bool false = .bool b := by rw [Bool.eq_false_iff.2 h]
theorem u7 {n er : Int} {sa : Nat} (h : (0 ≤ n ∧ n ≤ 8 ∧ sa = fj n.toNat ∧ er = 0) ∨ (¬ (0 ≤ n ∧ n ≤ 8) ∧ er = 1)) (h0 : ¬ ¬ er = 0) : 0 ≤ n ∧ n ≤ 8 ∧ sa = fj n.toNat := by
 rcases h with ⟨h1, h2, h3, _⟩ | ⟨_, h2⟩
 ·exact ⟨h1, h2, h3⟩
 ·omega
theorem OE {n er : Int} {sa : Nat} (h : (0 ≤ n ∧ n ≤ 8 ∧ sa = fj n.toNat ∧ er = 0) ∨ (¬ (0 ≤ n ∧ n ≤ 8) ∧ er = 1)) (h0 : ¬ er = 0) : ¬ (0 ≤ n ∧ n ≤ 8) := by
 rcases h with ⟨_, _, _, h2⟩ | ⟨h1, _⟩
 ·exact absurd h2 h0
 ·exact h1
theorem G9 {o i : Nat} : decide (((o / 2 ^ i % 2 : Nat) : Int) = 1) = o.testBit i := by
 rw [gY, vJ]
def mA (o : Nat) : Nat → Bool
 | 0 => false
 | k + 1 => mA o k || o.testBit k
theorem IB {o k : Nat} (h : o.testBit k = true) : true = mA o (k + 1) := by rw [mA, h, Bool.or_true]
theorem Ha {o k : Nat} (h : o.testBit k = false) : mA o k = mA o (k + 1) := by rw [mA, h, Bool.or_false]
theorem uV {o : Nat} : ∀ k, mA o k = true ↔ ∃ j, j < k ∧ o.testBit j = true
 | 0 => by simp [mA]
 | k + 1 => by
  rw [mA, Bool.or_eq_true, uV k]
  constructor
  ·rintro (⟨j, hj, h⟩ | h)
   ·exact ⟨j, by omega, h⟩
   ·exact ⟨k, by omega, h⟩
  ·rintro ⟨j, hj, h⟩
   rcases Nat.lt_succ_iff_lt_or_eq.1 hj with hj | rfl
   ·exact .inl ⟨j, hj, h⟩
   ·exact .inr h
def Pa (o outs : Nat) : Bool := decide (0 < o) && decide (o < 2 ^ outs)
theorem zK {o outs : Nat} : Pa o outs = true ↔ 0 < o ∧ o < 2 ^ outs := by unfold Pa; rw [Bool.and_eq_true, decide_eq_true_eq, decide_eq_true_eq]
theorem Nb {o outs k : Nat} (h : o.testBit k = true) (hk : outs ≤ k) : Pa o outs = false := Bool.eq_false_iff.2 fun hh => by
 rw [fZ.1 (zK.1 hh).2 k hk] at h; cases h
theorem Fd {o outs : Nat} (h8 : o < 256) (h : ∀ j, j < 8 → o.testBit j = true → j < outs) : Pa o outs = mA o 8 := by
 have hz : ∀ j, 8 ≤ j → o.testBit j = false := (fZ (n := 8)).1 h8
 rw [Bool.eq_iff_iff, zK, uV]
 constructor
 ·rintro ⟨h1, _⟩
  obtain ⟨j, hj⟩ := oG h1
  by_cases h8 : j < 8
  ·exact ⟨j, h8, hj⟩
  ·rw [hz j (by omega)] at hj; cases hj
 ·rintro ⟨j, hj, hb⟩
  refine ⟨uE hb, fZ.2 fun i hi => Bool.eq_false_iff.2 fun hb2 => ?_⟩
  by_cases h8 : i < 8
  ·have := h i h8 hb2; omega
  ·rw [hz i (by omega)] at hb2; cases hb2
theorem Jl {S : Sp} {m u o : Nat} (h1 : dP S = true) (h2 : (0 : Int) < (o : Int)) : decide (((andNot o (kB S ⟨m, u⟩) : Nat) : Int) = 0) = pM S ⟨⟨m, u⟩, o⟩ := by
 unfold pM
 rw [h1, decide_eq_true (show 0 < o by omega), Bool.true_and, Bool.true_and, Bool.eq_iff_iff, decide_eq_true_eq, decide_eq_true_eq]
 exact Int.ofNat_inj
theorem Hh {S : Sp} {m u o : Nat} (h2 : ¬ (0 : Int) < (o : Int)) : ¬ pM S ⟨⟨m, u⟩, o⟩ = true := fun hi => by
 have h3 : 0 < o := (gy.1 hi).2.1
 omega
theorem G8 {S : Sp} {x : Rw} (h2 : dP S = false) : ¬ pM S x = true := fun hi => by
 have := (gy.1 hi).1
 rw [h2] at this; cases this
theorem KG {a b k : Nat} (ha : a < 2 ^ k) : a + 2 ^ k = a ||| 2 ^ k := by
 have h := Nat.two_pow_add_eq_or_of_lt ha 1
 rw [Nat.mul_one] at h
 rw [Nat.add_comm, h, Nat.or_comm]
theorem Lq {a k : Nat} (h : a.testBit k = false) : a + 2 ^ k = a ||| 2 ^ k := by
 have e : a = 2 ^ (k + 1) * (a / 2 ^ (k + 1)) + a % 2 ^ (k + 1) := (Nat.div_add_mod a _).symm
 have hlow : a % 2 ^ (k + 1) < 2 ^ k := by
  refine fZ.2 fun j hj => ?_
  rw [Nat.testBit_mod_two_pow]
  by_cases hjk : j = k
  ·subst hjk; rw [h, Bool.and_false]
  ·rw [decide_eq_false (by omega), Bool.false_and]
 have hlt : a % 2 ^ (k + 1) + 2 ^ k < 2 ^ (k + 1) := by have := Nat.pow_succ 2 k; omega
 have e2 : a + 2 ^ k = 2 ^ (k + 1) * (a / 2 ^ (k + 1)) + (a % 2 ^ (k + 1) + 2 ^ k) := by omega
 rw [e2, Nat.two_pow_add_eq_or_of_lt hlt, KG (b := 0) hlow, ← Nat.or_assoc, ← Nat.two_pow_add_eq_or_of_lt (Nat.mod_lt _ (Nat.two_pow_pos _)), ← e]
theorem Qd {m u o m2 u2 o2 : Nat} (h : ¬ (o : Int) = (o2 : Int)) : decide ((o : Int) < (o2 : Int)) = zP ⟨⟨m, u⟩, o⟩ ⟨⟨m2, u2⟩, o2⟩ := by
 rw [Bool.eq_iff_iff, qq, decide_eq_true_eq]
 simp only
 omega
theorem Qg {m u o m2 u2 o2 : Nat} (h : ¬ ¬ (o : Int) = (o2 : Int)) (h2 : ¬ (m : Int) = (m2 : Int)) : decide ((m : Int) < (m2 : Int)) = zP ⟨⟨m, u⟩, o⟩ ⟨⟨m2, u2⟩, o2⟩ := by
 rw [Bool.eq_iff_iff, qq, decide_eq_true_eq]
 simp only
 omega
theorem PR {m u o m2 u2 o2 : Nat} (h : ¬ ¬ (o : Int) = (o2 : Int)) (h2 : ¬ ¬ (m : Int) = (m2 : Int)) : decide ((u : Int) < (u2 : Int)) = zP ⟨⟨m, u⟩, o⟩ ⟨⟨m2, u2⟩, o2⟩ := by
 rw [Bool.eq_iff_iff, qq, decide_eq_true_eq]
 simp only
 omega
theorem Cl {l : List Rw} {x : Rw} {i : Nat} (h0 : 0 < i) (h : zP x (l.getD ((i : Int) - 1).toNat ⟨⟨0, 0⟩, 0⟩) = true) : og l x i = og l x (i - 1) :=
 Fj h0 (by rwa [show ((i : Int) - 1).toNat = i - 1 by omega] at h)
theorem x4 {l : List Rw} {x : Rw} {i : Nat} (h : i = 0 ∨ zP x (l.getD ((i : Int) - 1).toNat ⟨⟨0, 0⟩, 0⟩) = false) : og l x i = i :=
 AF (by rwa [show ((i : Int) - 1).toNat = i - 1 by omega] at h)
theorem v6 {sz : Nat} {v : Value} {h : Nat} {α : Type} {l : List α} (e : ((l.drop 0).take (h - 0)).length = h - 0) : iU (fV sz v 0 h h) = ((l.drop 0).take (h - 0)).length := e.symm
theorem I4 {s : Nat} {n : Int} (h8 : n ≤ 8) {i : Nat} (hi : i < (eH s n).length) : ((eH s n).getD i ⟨0, 0⟩).m < 256 ∧ ((eH s n).getD i ⟨0, 0⟩).v < 256 := by
 have := ly (j1 (Hw hi))
 have h2 := fh h8
 omega
theorem uL {o i : Nat} (h : ((o / 2 ^ ((i : Nat) : Int).toNat &&& 1 : Nat) : Int) = 1) : o.testBit i = true := k7.1 h
theorem ur {o i : Nat} (h : ¬ ((o / 2 ^ ((i : Nat) : Int).toNat &&& 1 : Nat) : Int) = 1) : ¬ o.testBit i = true := fun k => h (k7.2 k)
theorem CF {a b : Nat} (h : (a : Int) = (b : Int)) : a = b := Int.ofNat_inj.1 h
end
section
open Go Go.RowKit Go.ChangeShapes Go.WideShapes Go.ChangeAt Go.Joins Go.Deep
section
variable {H : Type} {encH : TypeId × Value → H} {P : Program} {w : World} {base : Nat} {held : Bool} {r : Reach} {b0 : Nat} {t e : TypeId}
theorem HZ {u : TypeId} (ht : P.underlying t = some (.array 4 u)) (hu : P.underlying u = some (.int .u64)) (hc : P.cellsOf u = 1) {n : Nat} {cs : List Value} {y : DataW H × List MemPlace} (hl : cs.length = 4) (h : DataW.trod encH P w base (fun _ => true) held n t cs = some y) : ∃ s : Nat, cs = gp s ∧ s < 2 ^ 256 := by
 match cs, hl with
 | [c0, c1, c2, c3], _ =>
  obtain ⟨y0, y1, y2, y3, n, hx, h0, h1, h2, h3⟩ := trod_array4 ht hc h
  obtain ⟨n0, e0, _, w0⟩ := DataW.trod_int hu h0
  obtain ⟨n1, e1, _, w1⟩ := DataW.trod_int hu h1
  obtain ⟨n2, e2, _, w2⟩ := DataW.trod_int hu h2
  obtain ⟨n3, e3, _, w3⟩ := DataW.trod_int hu h3
  simp only [List.cons.injEq, and_true] at e0 e1 e2 e3
  subst e0 e1 e2 e3
  obtain ⟨k0, rfl, l0⟩ := zl w0
  obtain ⟨k1, rfl, l1⟩ := zl w1
  obtain ⟨k2, rfl, l2⟩ := zl w2
  obtain ⟨k3, rfl, l3⟩ := zl w3
  obtain ⟨s, hs, hv⟩ := y8 l0 l1 l2 l3
  refine ⟨s, ?_, hs⟩
  have := congrArg (fun v : Value => v.cells.toList) hv
  exact this
theorem Lp {f0 f1 : Field} (hs : P.underlying t = some (.struct #[f0, f1])) (ho0 : f0.offset = 0) (ho1 : f1.offset = 1) (hc0 : P.cellsOf f0.type = 1) (hc1 : P.cellsOf f1.type = 1) (h0 : P.underlying f0.type = some (.int .u8)) (h1 : P.underlying f1.type = some (.int .u8))
  {n : Nat} {cs : List Value} {y : DataW H × List MemPlace} (hl : cs.length = 2) (h : DataW.trod encH P w base (fun _ => true) held n t cs = some y) : ∃ c : Cb, cs = gU c ∧ (c.m < 256 ∧ c.v < 256) := by
 match cs, hl with
 | [a, b], _ =>
  obtain ⟨y0, y1, n, hx, _, g0, g1⟩ := trod_struct2 hs h
  rw [ho0, hc0] at g0
  rw [ho1, hc1] at g1
  obtain ⟨n0, e0, _, w0⟩ := DataW.trod_int h0 g0
  obtain ⟨n1, e1, _, w1⟩ := DataW.trod_int h1 g1
  simp at e0 e1
  subst e0 e1
  obtain ⟨k0, rfl, l0⟩ := HB w0
  obtain ⟨k1, rfl, l1⟩ := HB w1
  exact ⟨⟨k0, k1⟩, rfl, l0, l1⟩
theorem M5 {f0 f1 g0 g1 : Field} (hs : P.underlying t = some (.struct #[f0, f1])) (ho0 : f0.offset = 0) (ho1 : f1.offset = 2) (hc0 : P.cellsOf f0.type = 2) (hc1 : P.cellsOf f1.type = 1) (h1 : P.underlying f1.type = some (.int .u8))
  (hs2 : P.underlying f0.type = some (.struct #[g0, g1])) (hp0 : g0.offset = 0) (hp1 : g1.offset = 1) (hd0 : P.cellsOf g0.type = 1) (hd1 : P.cellsOf g1.type = 1) (k0 : P.underlying g0.type = some (.int .u8)) (k1 : P.underlying g1.type = some (.int .u8))
  {n : Nat} {cs : List Value} {y : DataW H × List MemPlace} (hl : cs.length = 3) (h : DataW.trod encH P w base (fun _ => true) held n t cs = some y) : ∃ x : Rw, cs = gv x ∧ (x.c.m < 256 ∧ x.c.v < 256 ∧ x.o < 256) := by
 match cs, hl with
 | [a, b, c], _ =>
  obtain ⟨y0, y1, n, hx, _, q0, q1⟩ := trod_struct2 hs h
  rw [ho0, hc0] at q0
  rw [ho1, hc1] at q1
  obtain ⟨cb, e0, l0, l1⟩ := Lp hs2 hp0 hp1 hd0 hd1 k0 k1 (by simp) q0
  obtain ⟨n1, e1, _, w1⟩ := DataW.trod_int h1 q1
  simp [gU] at e0 e1
  obtain ⟨rfl, rfl⟩ := e0
  subst e1
  obtain ⟨z, rfl, lz⟩ := HB w1
  exact ⟨⟨cb, z⟩, rfl, l0, l1, lz⟩
theorem open_spec {v : Value} {d : DataW H} {p : List MemPlace} {f0 f1 f2 : Field} {u eS : TypeId} (hs : P.underlying t = some (.struct #[f0, f1, f2])) (hone : oneCellFields P #[f0, f1, f2] = true) (hC : P.cellsOf t = 3) (h0 : P.underlying f0.type = some (.int .i64)) (h1 : P.underlying f1.type = some (.slice eS)) (h2 : P.underlying f2.type = some (.slice eS))
  (hc : P.cellsOf eS = 4) (hS : P.underlying eS = some (.array 4 u)) (hu : P.underlying u = some (.int .u64)) (hcu : P.cellsOf u = 1) (hv : Value.okWide P w r b0 t v) (h : DataW.Trod encH P w base (fun _ => true) held t v d p) :
  ∃ (S : Sp) (onV mayV : Value), v = .agg #[.int .i64 S.n, onV, mayV] ∧ dM gp 4 w onV S.on ∧ dM gp 4 w mayV S.may ∧ (-9223372036854775808 ≤ S.n ∧ S.n ≤ 9223372036854775807) ∧ (∀ s ∈ S.on, s < 2 ^ 256) ∧ ∀ s ∈ S.may, s < 2 ^ 256 := by
 obtain ⟨v0, v1, v2, y0, y1, y2, n, rfl, _, _, g0, g1, g2⟩ := open_agg3 hs hone hC hv h
 obtain ⟨z, e0, _, w0⟩ := DataW.trod_int h0 g0
 simp only [List.cons.injEq, and_true] at e0
 subst e0
 obtain ⟨l1, k1, q1⟩ := open_sl (α := Nat) h1 hc (by decide) dG (fun n cs y hl hh => HZ hS hu hcu hl hh) g1
 obtain ⟨l2, k2, q2⟩ := open_sl (α := Nat) h2 hc (by decide) dG (fun n cs y hl hh => HZ hS hu hcu hl hh) g2
 exact ⟨⟨z, l1, l2⟩, v1, v2, rfl, k1, k2, O7 w0, q1, q2⟩
instance : Inhabited Rw := ⟨⟨⟨0, 0⟩, 0⟩⟩
instance : Inhabited Cb := ⟨⟨0, 0⟩⟩
end
end
end Go.Proofs.YteimkklmmanncaaGreat
