/- Primes out of cubes of one literal less, again and again. No program in it. Each cube within a set is held by a prime; the primes' points are the set's. No program in it. Plain words for covers without a search: sides of sets, the cover by the sides, its points, that no cube of it is too much. No pr -/
import Derived.Test.YteimkklmmanncaaGreatPrime
namespace Go.Proofs.YteimkklmmanncaaGreat
set_option linter.unusedVariables false
set_option linter.unusedSimpArgs false
section
open Go Go.RowKit
theorem sE {m u : Nat} {n : Int} {v : Value} (h : v = if d9 m u n = true then .tuple #[eM (qg m u n.toNat), .int .i64 0] else .tuple #[eM 0, .int .i64 1]) :
  ∃ (sa : Nat) (er : Int), v = .tuple #[eM sa, .int .i64 er] ∧ ((d9 m u n = true ∧ sa = qg m u n.toNat ∧ er = 0) ∨ (d9 m u n = false ∧ er = 1)) := by
 by_cases hr : d9 m u n = true
 ·rw [if_pos hr] at h
  exact ⟨_, _, h, .inl ⟨hr, rfl, rfl⟩⟩
 ·rw [if_neg hr] at h
  exact ⟨_, _, h, .inr ⟨by simpa using hr, rfl⟩⟩
theorem IH {m u s sa : Nat} {n er : Int} (h : (d9 m u n = true ∧ sa = qg m u n.toNat ∧ er = 0) ∨ (d9 m u n = false ∧ er = 1)) (h0 : er = 0) : ee sa s = oy m u s n := by
 rcases h with ⟨h1, rfl, _⟩ | ⟨_, h2⟩
 ·exact Ml h1
 ·omega
theorem Ef {m u s sa : Nat} {n er : Int} (h : (d9 m u n = true ∧ sa = qg m u n.toNat ∧ er = 0) ∨ (d9 m u n = false ∧ er = 1)) (h0 : ¬ er = 0) : false = oy m u s n := by
 rcases h with ⟨_, _, h2⟩ | ⟨h1, _⟩
 ·exact absurd h2 h0
 ·exact OW h1
theorem F4 {m u m2 u2 : Nat} (h : (m : Int) < (m2 : Int)) : true = uM ⟨m, u⟩ ⟨m2, u2⟩ := (kl.2 (.inl (by simp only; omega))).symm
theorem Gd {m u m2 u2 : Nat} (_h : ¬ (m : Int) < (m2 : Int)) (h2 : (m : Int) = (m2 : Int)) : decide ((u : Int) < (u2 : Int)) = uM ⟨m, u⟩ ⟨m2, u2⟩ := by
 rw [Bool.eq_iff_iff, kl, decide_eq_true_eq]
 simp only
 omega
theorem Gm {m u m2 u2 : Nat} (h : ¬ (m : Int) < (m2 : Int)) (h2 : ¬ (m : Int) = (m2 : Int)) : false = uM ⟨m, u⟩ ⟨m2, u2⟩ := by
 symm
 refine Bool.eq_false_iff.2 fun h3 => ?_
 rw [kl] at h3
 simp only at h3
 omega
theorem HQ {l : List Cb} {c : Cb} {i : Nat} (hi : 0 < i) (h : (!uM (l.getD ((i : Int) - 1).toNat ⟨0, 0⟩) c) = true) : mB l c i = mB l c (i - 1) := by
 obtain ⟨j, rfl⟩ : ∃ j, i = j + 1 := ⟨i - 1, by omega⟩
 have e : ((j + 1 : Nat) : Int) - 1 = (j : Int) := by omega
 rw [e, Int.toNat_natCast] at h
 simp only [mB]
 rw [if_neg (by simpa using h)]
 rfl
theorem Di {l : List Cb} {c : Cb} {i : Nat} (h : i = 0 ∨ (!uM (l.getD ((i : Int) - 1).toNat ⟨0, 0⟩) c) = false) : mB l c i = i := by
 rcases h with rfl | h
 ·rfl
 ·cases i with
  | zero => rfl
  | succ j =>
   have e : ((j + 1 : Nat) : Int) - 1 = (j : Int) := by omega
   rw [e, Int.toNat_natCast] at h
   simp only [mB]
   rw [if_pos (by simpa using h)]
theorem pQ {sz : Nat} {v : Value} {h : Nat} {α : Type} {l : List α} (e : ((l.drop 0).take (h - 0)).length = h - 0) : iR (fS sz v 0 h h) = ((l.drop 0).take (h - 0)).length := e.symm
def iT (c : Cb) (i : Nat) : Cb := ⟨jA c.m (i : Int), c.v &&& jA c.m (i : Int)⟩
def Ec (c : Cb) (i : Nat) : Cb := ⟨c.m, c.v ^^^ 2 ^ i⟩
def imp (s : Nat) (n : Int) (c : Cb) : Prop := oy c.m c.v s n = true
theorem fT {s : Nat} {n : Int} {c : Cb} : imp s n c ↔ d9 c.m c.v n = true ∧ ∀ p, p < 2 ^ n.toNat → p &&& c.m = c.v → s.testBit p = true := by
 unfold imp oy
 rw [Bool.and_eq_true]
 constructor
 ·rintro ⟨h1, h2⟩
  obtain ⟨h0, h8, hm, hv⟩ := dU.1 h1
  refine ⟨h1, fun p hp hpm => ?_⟩
  have := fo h8
  exact d4.1 h2 p (by omega) (by rw [jh (by omega)]; simp [hp, hpm])
 ·rintro ⟨h1, h2⟩
  obtain ⟨h0, h8, hm, hv⟩ := dU.1 h1
  refine ⟨h1, d4.2 fun p _ hp => ?_⟩
  rw [jh (by omega)] at hp
  simp at hp
  exact h2 p hp.1 hp.2
theorem eQ {m v : Nat} (h : v &&& m = v) (j : Nat) : v.testBit j = (v.testBit j && m.testBit j) := by
 conv => lhs; rw [← h, Nat.testBit_and]
theorem xx {m v i p : Nat} (hi : i < 8) (hb : m.testBit i = true) (hv : v &&& m = v) : p &&& jA m (i : Int) = v &&& jA m (i : Int) ↔ (p &&& m = v ∨ p &&& m = v ^^^ 2 ^ i) := by
 have hw := fun j => eZ (m := m) hi j
 have hvb := eQ hv
 constructor
 ·intro h
  have hj : ∀ j, j ≠ i → (p.testBit j && m.testBit j) = (v.testBit j && m.testBit j) := fun j hj => by
   have := congrArg (fun x => x.testBit j) h
   simp only [Nat.testBit_and, hw, decide_eq_true hj, Bool.and_true] at this
   exact this
  by_cases e : p.testBit i = v.testBit i
  ·left
   refine Nat.eq_of_testBit_eq fun j => ?_
   rw [Nat.testBit_and, hvb j]
   by_cases hji : j = i
   ·subst hji; rw [e]
   ·exact hj j hji
  ·right
   refine Nat.eq_of_testBit_eq fun j => ?_
   rw [Nat.testBit_and, Nat.testBit_xor, Nat.testBit_two_pow]
   by_cases hji : j = i
   ·subst hji
    rw [hb]
    cases hp : p.testBit j <;> cases hq : v.testBit j <;> simp_all
   ·have : ¬ i = j := fun h => hji h.symm
    rw [hj j hji, ← hvb j]
    simp [this]
 ·rintro (h | h)
  ·refine Nat.eq_of_testBit_eq fun j => ?_
   have := congrArg (fun x => x.testBit j) h
   simp only [Nat.testBit_and] at this
   rw [Nat.testBit_and, Nat.testBit_and, hw, ← Bool.and_assoc, this, ← Bool.and_assoc, ← hvb j]
  ·refine Nat.eq_of_testBit_eq fun j => ?_
   have := congrArg (fun x => x.testBit j) h
   simp only [Nat.testBit_and, Nat.testBit_xor, Nat.testBit_two_pow] at this
   rw [Nat.testBit_and, Nat.testBit_and, hw, ← Bool.and_assoc, this, ← Bool.and_assoc, ← hvb j]
   by_cases hji : j = i
   ·subst hji; simp
   ·have : ¬ i = j := fun h => hji h.symm
    simp [this]
theorem zA {m v i : Nat} {n : Int} (h : d9 m v n = true) : d9 (jA m (i : Int)) (v &&& jA m (i : Int)) n = true := by
 obtain ⟨h0, h8, hm, hv⟩ := dU.1 h
 have := uA m (i : Int)
 exact dU.2 ⟨h0, h8, by omega, by rw [Nat.and_assoc, Nat.and_self]⟩
theorem BW {m v i : Nat} {n : Int} (h : d9 m v n = true) (hb : m.testBit i = true) : d9 m (v ^^^ 2 ^ i) n = true := by
 obtain ⟨h0, h8, hm, hv⟩ := dU.1 h
 refine dU.2 ⟨h0, h8, hm, Nat.eq_of_testBit_eq fun j => ?_⟩
 have hvb := eQ hv j
 rw [Nat.testBit_and, Nat.testBit_xor, Nat.testBit_two_pow]
 by_cases hji : i = j
 ·subst hji; simp [hb]
 ·simp only [hji, decide_false, Bool.xor_false]
  exact hvb.symm
theorem xS {s i : Nat} {n : Int} {c : Cb} (hr : d9 c.m c.v n = true) (hi : i < n.toNat) (hb : c.m.testBit i = true) : imp s n (iT c i) ↔ imp s n c ∧ imp s n (Ec c i) := by
 obtain ⟨h0, h8, hm, hv⟩ := dU.1 hr
 have hw := fun p => xx (p := p) (i := i) (by omega) hb hv
 rw [fT, fT, fT]
 constructor
 ·rintro ⟨h1, h2⟩
  exact ⟨⟨hr, fun p hp hpm => h2 p hp ((hw p).2 (.inl hpm))⟩, ⟨BW hr hb, fun p hp hpm => h2 p hp ((hw p).2 (.inr hpm))⟩⟩
 ·rintro ⟨⟨_, h1⟩, ⟨_, h2⟩⟩
  refine ⟨zA hr, fun p hp hpm => ?_⟩
  rcases (hw p).1 hpm with h | h
  ·exact h1 p hp h
  ·exact h2 p hp h
def nb (m : Nat) : Nat → Nat
 | 0 => 0
 | k + 1 => nb m k + if m.testBit k = true then 1 else 0
theorem uY (m : Nat) : ∀ k, nb m k ≤ k
 | 0 => Nat.le_refl _
 | k + 1 => by
  have := uY m k
  simp only [nb]
  split <;> omega
theorem Al {m i : Nat} (hi : i < 8) (hb : m.testBit i = true) : ∀ k, nb (jA m (i : Int)) k + (if i < k then 1 else 0) = nb m k
 | 0 => by simp [nb]
 | k + 1 => by
  have ih := Al hi hb k
  simp only [nb, eZ hi]
  by_cases e : k = i
  ·subst e
   rw [if_neg (Nat.lt_irrefl _)] at ih
   simp [hb, ← ih]
  ·rw [decide_eq_true e, Bool.and_true]
   by_cases h2 : i < k
   ·rw [if_pos h2] at ih
    simp only [show i < k + 1 from by omega, if_true]
    omega
   ·rw [if_neg h2] at ih
    simp only [show ¬ i < k + 1 from by omega, if_false]
    omega
theorem wG {m : Nat} : ∀ k, nb m k = k → ∀ i, i < k → m.testBit i = true
 | 0, _, i, hi => absurd hi (Nat.not_lt_zero _)
 | k + 1, h, i, hi => by
  have := uY m k
  simp only [nb] at h
  split at h
  ·rename_i hk
   rcases Nat.lt_succ_iff_lt_or_eq.1 hi with h2 | rfl
   ·exact wG k (by omega) i h2
   ·exact hk
  ·omega
theorem qI {m : Nat} : ∀ k, (∀ i, i < k → m.testBit i = true) → nb m k = k
 | 0, _ => rfl
 | k + 1, h => by
  have := qI k (fun i hi => h i (by omega))
  simp only [nb, this, h k (Nat.lt_succ_self _), if_true]
theorem Fx {m k : Nat} (h : nb m k < k) : ∃ i, i < k ∧ m.testBit i = false := by
 refine Decidable.byContradiction fun hn => ?_
 have := qI (m := m) k (fun i hi => by
  refine Decidable.byContradiction fun h2 => hn ⟨i, hi, by simpa using h2⟩)
 omega
def qN (n : Int) (c : Cb) : Nat := nb c.m n.toNat
theorem FJ {n : Int} {c : Cb} {i : Nat} (h8 : n ≤ 8) (hi : i < n.toNat) (hb : c.m.testBit i = true) : qN n (iT c i) + 1 = qN n c := by
 have h := Al (m := c.m) (i := i) (by omega) hb n.toNat
 rwa [if_pos hi] at h
theorem wI {s : Nat} {n : Int} {d : Cb} (h : imp s n d) (hc : qN n d < n.toNat) : ∃ c i, i < n.toNat ∧ c.m.testBit i = true ∧ imp s n c ∧ imp s n (Ec c i) ∧ d = iT c i ∧ qN n c = qN n d + 1 := by
 obtain ⟨i, hi, hb⟩ := Fx hc
 have hr := (fT.1 h).1
 obtain ⟨h0, h8, hm, hv⟩ := dU.1 hr
 have hvb := eQ hv
 have hi8 : i < 8 := by omega
 have hb2 : (d.m ||| 2 ^ i).testBit i = true := by simp
 have e1 : jA (d.m ||| 2 ^ i) (i : Int) = d.m := Nat.eq_of_testBit_eq fun j => by
  rw [eZ hi8, Nat.testBit_or, Nat.testBit_two_pow]
  by_cases e : j = i
  ·subst e; simp [hb]
  ·have : ¬ i = j := fun h => e h.symm
   simp [this, e]
 have hrc : d9 (d.m ||| 2 ^ i) d.v n = true := by
  refine dU.2 ⟨h0, h8, Nat.or_lt_two_pow hm (Nat.pow_lt_pow_right (by decide) hi), Nat.eq_of_testBit_eq fun j => ?_⟩
  rw [Nat.testBit_and, Nat.testBit_or, hvb j]
  cases d.v.testBit j <;> cases d.m.testBit j <;> simp
 have hd : d = iT ⟨d.m ||| 2 ^ i, d.v⟩ i := by
  unfold iT
  simp only [e1, hv]
 have hw := (xS (s := s) (c := ⟨d.m ||| 2 ^ i, d.v⟩) hrc hi hb2).1 (hd ▸ h)
 refine ⟨⟨d.m ||| 2 ^ i, d.v⟩, i, hi, hb2, hw.1, hw.2, hd, ?_⟩
 have := FJ (c := ⟨d.m ||| 2 ^ i, d.v⟩) h8 hi hb2
 rw [← hd] at this
 exact this.symm
def iL (now : List Cb) (c : Cb) (i : Nat) : Prop := c.m.testBit i = true ∧ Ec c i ∈ now
def jf (now : List Cb) (n : Int) (seen : List Cb) (d : Cb) : Prop := ∃ c, c ∈ seen ∧ ∃ i, i < n.toNat ∧ iL now c i ∧ d = iT c i
def gi (now : List Cb) (n : Int) (seen : List Cb) (d : Cb) : Prop := d ∈ seen ∧ ∃ i, i < n.toNat ∧ iL now d i
def ny (s : Nat) (n : Int) (t : Nat) (now : List Cb) : Prop := ∀ c, c ∈ now ↔ imp s n c ∧ qN n c + 1 = t
section
variable {s t : Nat} {n : Int} {now : List Cb}
theorem Hk (c : Cb) (i : Nat) : qN n (Ec c i) = qN n c := rfl
theorem xw (h : ny s n t now) {c : Cb} (hc : c ∈ now) {i : Nat} (hi : i < n.toNat) : iL now c i ↔ ku c.m c.v s n i = true := by
 obtain ⟨h1, h2⟩ := (h c).1 hc
 have hr := (fT.1 h1).1
 unfold iL ku
 rw [Bool.and_eq_true]
 constructor
 ·rintro ⟨hb, hf⟩
  exact ⟨hb, (xS hr hi hb).2 ⟨h1, ((h _).1 hf).1⟩⟩
 ·rintro ⟨hb, hw⟩
  exact ⟨hb, (h _).2 ⟨((xS hr hi hb).1 hw).2, h2⟩⟩
theorem uG (h : ny s n t now) {c : Cb} (hc : c ∈ now) : gi now n now c ↔ gF c.m c.v s n = false := by
 have h1 := ((h c).1 hc).1
 rw [← Bool.not_eq_true, fW]
 constructor
 ·rintro ⟨_, i, hi, hp⟩ ⟨_, h3⟩
  have := h3 i hi
  rw [(xw h hc hi).1 hp] at this
  cases this
 ·intro h2
  refine ⟨hc, Classical.byContradiction fun hn => h2 ⟨h1, fun i hi => ?_⟩⟩
  refine Bool.eq_false_iff.2 fun hs => hn ⟨i, hi, (xw h hc hi).2 hs⟩
theorem BV (h8 : n ≤ 8) (h : ny s n (t + 1) now) (ht : t ≤ n.toNat) {nl : List Cb} (hn : ∀ d, d ∈ nl ↔ jf now n now d) : ny s n t nl := by
 intro d
 rw [hn]
 constructor
 ·rintro ⟨c, hc, i, hi, hp, rfl⟩
  obtain ⟨h1, h2⟩ := (h c).1 hc
  have hr := (fT.1 h1).1
  refine ⟨(xS hr hi hp.1).2 ⟨h1, ((h _).1 hp.2).1⟩, ?_⟩
  have := FJ (c := c) h8 hi hp.1
  omega
 ·rintro ⟨h1, h2⟩
  obtain ⟨c, i, hi, hb, hc, hf, hd, hcnt⟩ := wI h1 (by omega)
  exact ⟨c, (h c).2 ⟨hc, by omega⟩, i, hi, ⟨hb, (h _).2 ⟨hf, by rw [Hk]; omega⟩⟩, hd⟩
def vi (s : Nat) (n : Int) (t : Nat) (out : List Cb) : Prop := ∀ c, c ∈ out ↔ gF c.m c.v s n = true ∧ t ≤ qN n c
theorem F5 {out out2 ml : List Cb} (h : ny s n (t + 1) now) (ho : vi s n (t + 1) out) (hm : ∀ d, d ∈ ml ↔ gi now n now d) (h2 : ∀ c, c ∈ out2 ↔ c ∈ out ∨ (c ∈ now ∧ c ∉ ml)) : vi s n t out2 := by
 intro c
 rw [h2, ho, hm]
 constructor
 ·rintro (⟨h3, h4⟩ | ⟨h3, h4⟩)
  ·exact ⟨h3, by omega⟩
  ·rw [uG h h3, Bool.not_eq_false] at h4
   exact ⟨h4, by have := ((h c).1 h3).2; omega⟩
 ·rintro ⟨h3, h4⟩
  by_cases e : t + 1 ≤ qN n c
  ·exact .inl ⟨h3, e⟩
  ·have hc : c ∈ now := (h c).2 ⟨(fW.1 h3).1, by omega⟩
   exact .inr ⟨hc, by rw [uG h hc, Bool.not_eq_false]; exact h3⟩
theorem vg (ht : t ≤ n.toNat + 1) (h : ny s n t []) : ∀ (k : Nat) (c : Cb), imp s n c → qN n c + 1 + k = t → False
 | 0, c, hc, e => by have := (h c).2 ⟨hc, e⟩; simp at this
 | k + 1, c, hc, e => by
  obtain ⟨c', i, hi, hb, hc', hf, hd, hcnt⟩ := wI hc (by omega)
  exact vg ht h k c' hc' (by omega)
theorem KC {out : List Cb} (ht : t ≤ n.toNat + 1) (h : ny s n t []) (ho : vi s n t out) (hr : iF out) : out = ex s n := by
 refine vJ hr (oE s n) fun c => ?_
 rw [ho, mC]
 constructor
 ·exact fun h => h.1
 ·intro hp
  refine ⟨hp, Decidable.byContradiction fun hlt => ?_⟩
  exact vg ht h (t - (qN n c + 1)) c (fW.1 hp).1 (by omega)
theorem F6 : vi s n (n.toNat + 1) [] := by
 intro c
 constructor
 ·intro h; simp at h
 ·rintro ⟨_, h⟩
  have := uY c.m n.toNat
  unfold qN at h
  omega
theorem AV (hs : tK s n = true) {ks : List Cb} (hk : ∀ c, c ∈ ks ↔ ∃ x ∈ ef s, c = ⟨2 ^ n.toNat - 1, x.toNat⟩) : ny s n (n.toNat + 1) ks := by
 unfold tK at hs
 simp only [Bool.and_eq_true, decide_eq_true_eq] at hs
 obtain ⟨h0, h8, hw⟩ := hs
 have hp8 := fo h8
 have hpt : ∀ p, p < 256 → s.testBit p = true → p < 2 ^ n.toNat := fun p hp h => by
  have := d4.1 hw p hp h
  rw [fL] at this
  simpa using this
 intro c
 rw [hk]
 constructor
 ·rintro ⟨x, hx, rfl⟩
  obtain ⟨p, hp, hb, rfl⟩ := iQ.1 hx
  have hlt := hpt p hp hb
  have e : ∀ q, q < 2 ^ n.toNat → q &&& (2 ^ n.toNat - 1) = q := fun q hq => by rw [Nat.and_two_pow_sub_one_eq_mod, Nat.mod_eq_of_lt hq]
  refine ⟨fT.2 ⟨dU.2 ⟨h0, h8, by have := Nat.two_pow_pos n.toNat; simp only; omega, e p hlt⟩, fun q hq h => ?_⟩, ?_⟩
  ·simp only [Int.toNat_natCast] at h
   rw [e q hq] at h
   rw [h]; exact hb
  ·unfold qN
   rw [qI n.toNat (fun i hi => by rw [Nat.testBit_two_pow_sub_one]; simpa using hi)]
 ·rintro ⟨h1, h2⟩
  have h3 := fT.1 h1
  obtain ⟨_, _, hm, hv⟩ := dU.1 h3.1
  have hm2 : c.m = 2 ^ n.toNat - 1 := Nat.eq_of_testBit_eq fun j => by
   rw [Nat.testBit_two_pow_sub_one]
   by_cases hj : j < n.toNat
   ·rw [wG n.toNat (by unfold qN at h2; omega) j hj]; simp [hj]
   ·rw [Nat.testBit_lt_two_pow (Nat.lt_of_lt_of_le hm (Nat.pow_le_pow_right (by decide) (by omega)))]; simp [hj]
  have hlt := (k9 h3.1).2
  refine ⟨(c.v : Int), iQ.2 ⟨c.v, by omega, h3.2 c.v hlt hv, rfl⟩, ?_⟩
  cases c
  simp only [Int.toNat_natCast, Cb.mk.injEq, and_true]
  exact hm2
end
theorem zS {α : Type} [DecidableEq α] : ∀ {l l' : List α}, l.Nodup → (∀ a ∈ l, a ∈ l') → l.length ≤ l'.length
 | [], _, _, _ => by simp
 | a :: l, l', h, hs => by
  obtain ⟨h1, h2⟩ := List.nodup_cons.1 h
  have ha := hs a (by simp)
  have := zS (l := l) (l' := l'.erase a) h2 (fun b hb => by
   have hne : b ≠ a := fun e => h1 (e ▸ hb)
   exact (List.mem_erase_of_ne hne).2 (hs b (by simp [hb])))
  rw [List.length_erase_of_mem ha] at this
  have := List.length_pos_of_mem ha
  simp only [List.length_cons]
  omega
theorem pT {n : Int} {v : Value} (h : v = if 0 ≤ n ∧ n ≤ 8 then .tuple #[eM (fh n.toNat), .int .i64 0] else .tuple #[eM 0, .int .i64 1]) :
  ∃ (sa : Nat) (er : Int), v = .tuple #[eM sa, .int .i64 er] ∧ ((0 ≤ n ∧ n ≤ 8 ∧ sa = fh n.toNat ∧ er = 0) ∨ (¬ (0 ≤ n ∧ n ≤ 8) ∧ er = 1)) := by
 by_cases hr : 0 ≤ n ∧ n ≤ 8
 ·rw [if_pos hr] at h
  exact ⟨_, _, h, .inl ⟨hr.1, hr.2, rfl, rfl⟩⟩
 ·rw [if_neg hr] at h
  exact ⟨_, _, h, .inr ⟨hr, rfl⟩⟩
theorem D3 {s sa : Nat} {n er : Int} (h : (0 ≤ n ∧ n ≤ 8 ∧ sa = fh n.toNat ∧ er = 0) ∨ (¬ (0 ≤ n ∧ n ≤ 8) ∧ er = 1)) (h0 : ¬ er = 0) : ¬ tK s n = true := by
 rcases h with ⟨_, _, _, h2⟩ | ⟨h1, _⟩
 ·exact absurd h2 h0
 ·unfold tK
  simp only [Bool.and_eq_true, decide_eq_true_eq]
  exact fun h2 => h1 ⟨h2.1, h2.2.1⟩
theorem DN {s sa : Nat} {n er : Int} (h : (0 ≤ n ∧ n ≤ 8 ∧ sa = fh n.toNat ∧ er = 0) ∨ (¬ (0 ≤ n ∧ n ≤ 8) ∧ er = 1)) (h0 : ¬ ¬ er = 0) (hw : (!ee s sa) = true) : ¬ tK s n = true := by
 rcases h with ⟨_, _, rfl, _⟩ | ⟨_, h2⟩
 ·unfold tK
  simp only [Bool.and_eq_true, decide_eq_true_eq]
  intro h2
  rw [h2.2.2] at hw
  cases hw
 ·omega
theorem Hl {s sa : Nat} {n er : Int} (h : (0 ≤ n ∧ n ≤ 8 ∧ sa = fh n.toNat ∧ er = 0) ∨ (¬ (0 ≤ n ∧ n ≤ 8) ∧ er = 1)) (h0 : ¬ ¬ er = 0) (hw : (!ee s sa) = false) : tK s n = true := by
 rcases h with ⟨h1, h2, rfl, _⟩ | ⟨_, h2⟩
 ·unfold tK
  rw [decide_eq_true h1, decide_eq_true h2]
  simpa using hw
 ·omega
theorem jM {s : Nat} {n : Int} (h : tK s n = true) : 0 ≤ n ∧ n ≤ 8 := by
 unfold tK at h
 simp only [Bool.and_eq_true, decide_eq_true_eq] at h
 exact ⟨h.1, h.2.1⟩
theorem Mz {P : Program} {f : Nat → Value} {w : World} {d : Option Nat} {ty t t2 : TypeId} {ps : String} {af : Array Edge} {g : Option (Nat × Bool)} {x y : Operand} {n : Int}
  (hx : dK f x = .int .u8 (IntKind.u8.wrap (1 * 2 ^ (min n.toNat IntKind.u8.bits)))) (hy : dK f y = .int .u8 1) (h0 : 0 ≤ n) (h8 : n ≤ 8) :
  (execOp (dK f) ⟨d, .binOp .sub t x y t2, ty, ps, af, g⟩).run P w = .ok (.value (.int .u8 ((2 ^ n.toNat - 1 : Nat) : Int))) w := by
 rw [Lc hx hy]
 have : ∀ k : Nat, k ≤ 8 → IntKind.u8.wrap (IntKind.u8.wrap (1 * 2 ^ (min k IntKind.u8.bits)) - 1) = ((2 ^ k - 1 : Nat) : Int) := fun k hk => by
  have : k = 0 ∨ k = 1 ∨ k = 2 ∨ k = 3 ∨ k = 4 ∨ k = 5 ∨ k = 6 ∨ k = 7 ∨ k = 8 := by omega
  rcases this with rfl | rfl | rfl | rfl | rfl | rfl | rfl | rfl | rfl <;> decide
 rw [this n.toNat (by omega)]
theorem Fw {M k p : Nat} {l : List Int} {ks : List Cb} (h : ∀ c, c ∈ ks ↔ ∃ j, j < k ∧ c = ⟨M, (l.getD j 0).toNat⟩) (hp : l.getD k 0 = (p : Int)) : ∀ c, c ∈ ir ks ⟨M, p⟩ ↔ ∃ j, j < k + 1 ∧ c = ⟨M, (l.getD j 0).toNat⟩ := by
 intro c
 rw [gf, h]
 constructor
 ·rintro (⟨j, hj, rfl⟩ | rfl)
  ·exact ⟨j, by omega, rfl⟩
  ·exact ⟨k, by omega, by rw [hp, Int.toNat_natCast]⟩
 ·rintro ⟨j, hj, rfl⟩
  rcases Nat.lt_succ_iff_lt_or_eq.1 hj with hj | rfl
  ·exact .inl ⟨j, hj, rfl⟩
  ·exact .inr (by rw [hp, Int.toNat_natCast])
theorem Io {M k : Nat} {l : List Int} {ks : List Cb} (h : ∀ c, c ∈ ks ↔ ∃ j, j < k ∧ c = ⟨M, (l.getD j 0).toNat⟩) (hk : k = l.length) : ∀ c, c ∈ ks ↔ ∃ x ∈ l, c = ⟨M, x.toNat⟩ := by
 intro c
 rw [h]
 constructor
 ·rintro ⟨j, hj, rfl⟩
  exact ⟨_, dS (by omega), rfl⟩
 ·rintro ⟨x, hx, rfl⟩
  obtain ⟨j, hj, rfl⟩ := List.mem_iff_getElem.1 hx
  exact ⟨j, by omega, by simp [hj]⟩
section
variable {s t : Nat} {n : Int} {now seen nl ml out : List Cb}
theorem Bh {α : Type} (l : List α) : (fq l).length = l.length := by simp [fq]
theorem AC {α : Type} {l : List α} {k : α} {v : Bool} (h : (k, v) ∈ fq l) : k ∈ l ∧ v = true := by
 unfold fq at h
 obtain ⟨a, ha, e⟩ := List.mem_map.1 h
 cases e
 exact ⟨ha, rfl⟩
theorem ET (h : ny s n t now) (h0 : (0 : Int) < ((fq now).length : Int)) : ∃ t', t = t' + 1 := by
 rw [Bh] at h0
 obtain ⟨c, hc⟩ := List.exists_mem_of_length_pos (l := now) (by omega)
 exact ⟨_, ((h c).1 hc).2.symm⟩
theorem BH {l : List Cb} (h0 : ¬ (0 : Int) < ((fq l).length : Int)) : l = [] := by
 rw [Bh] at h0
 exact List.eq_nil_of_length_eq_zero (by omega)
theorem vR (h : ny s n t now) (h8 : n ≤ 8) {c : Cb} (hc : c ∈ now) : c.m < 256 ∧ c.v < 256 := by
 have h1 := k9 (fT.1 ((h c).1 hc).1).1
 have := fo h8
 omega
theorem CK : ∀ d, d ∈ ([] : List Cb) ↔ jf now n [] d := fun d => by simp [jf]
theorem yw : ∀ d, d ∈ ([] : List Cb) ↔ gi now n [] d := fun d => by simp [gi]
theorem EM {kk : Cb} (h : ∀ d, d ∈ nl ↔ jf now n seen d) : ∀ d, d ∈ nl ↔ jf now n seen d ∨ ∃ q, q < 0 ∧ iL now kk q ∧ d = iT kk q := fun d => by rw [h]; simp
theorem z8 {kk : Cb} (h : ∀ d, d ∈ ml ↔ gi now n seen d) : ∀ d, d ∈ ml ↔ gi now n seen d ∨ (d = kk ∧ ∃ q, q < 0 ∧ iL now kk q) := fun d => by rw [h]; simp
theorem In {kk : Cb} {i : Nat} (h : ∀ d, d ∈ nl ↔ jf now n seen d ∨ ∃ q, q < i ∧ iL now kk q ∧ d = iT kk q) (hp : iL now kk i) :
  ∀ d, d ∈ ir nl (iT kk i) ↔ jf now n seen d ∨ ∃ q, q < i + 1 ∧ iL now kk q ∧ d = iT kk q := fun d => by
 rw [gf, h]
 constructor
 ·rintro ((h1 | ⟨q, h1, h2, h3⟩) | h1)
  ·exact .inl h1
  ·exact .inr ⟨q, by omega, h2, h3⟩
  ·exact .inr ⟨i, by omega, hp, h1⟩
 ·rintro (h1 | ⟨q, h1, h2, h3⟩)
  ·exact .inl (.inl h1)
  ·rcases Nat.lt_succ_iff_lt_or_eq.1 h1 with h1 | rfl
   ·exact .inl (.inr ⟨q, h1, h2, h3⟩)
   ·exact .inr h3
theorem wW {kk : Cb} {i : Nat} (h : ∀ d, d ∈ nl ↔ jf now n seen d ∨ ∃ q, q < i ∧ iL now kk q ∧ d = iT kk q) (hp : ¬ iL now kk i) :
  ∀ d, d ∈ nl ↔ jf now n seen d ∨ ∃ q, q < i + 1 ∧ iL now kk q ∧ d = iT kk q := fun d => by
 rw [h]
 constructor
 ·rintro (h1 | ⟨q, h1, h2, h3⟩)
  ·exact .inl h1
  ·exact .inr ⟨q, by omega, h2, h3⟩
 ·rintro (h1 | ⟨q, h1, h2, h3⟩)
  ·exact .inl h1
  ·rcases Nat.lt_succ_iff_lt_or_eq.1 h1 with h1 | rfl
   ·exact .inr ⟨q, h1, h2, h3⟩
   ·exact absurd h2 hp
theorem CM {kk : Cb} {i : Nat} (h : ∀ d, d ∈ ml ↔ gi now n seen d ∨ (d = kk ∧ ∃ q, q < i ∧ iL now kk q)) (hp : iL now kk i) :
  ∀ d, d ∈ ir ml kk ↔ gi now n seen d ∨ (d = kk ∧ ∃ q, q < i + 1 ∧ iL now kk q) := fun d => by
 rw [gf, h]
 constructor
 ·rintro ((h1 | ⟨h1, q, h2, h3⟩) | h1)
  ·exact .inl h1
  ·exact .inr ⟨h1, q, by omega, h3⟩
  ·exact .inr ⟨h1, i, by omega, hp⟩
 ·rintro (h1 | ⟨h1, q, h2, h3⟩)
  ·exact .inl (.inl h1)
  ·exact .inr h1
theorem sP {kk : Cb} {i : Nat} (h : ∀ d, d ∈ ml ↔ gi now n seen d ∨ (d = kk ∧ ∃ q, q < i ∧ iL now kk q)) (hp : ¬ iL now kk i) :
  ∀ d, d ∈ ml ↔ gi now n seen d ∨ (d = kk ∧ ∃ q, q < i + 1 ∧ iL now kk q) := fun d => by
 rw [h]
 constructor
 ·rintro (h1 | ⟨h1, q, h2, h3⟩)
  ·exact .inl h1
  ·exact .inr ⟨h1, q, by omega, h3⟩
 ·rintro (h1 | ⟨h1, q, h2, h3⟩)
  ·exact .inl h1
  ·rcases Nat.lt_succ_iff_lt_or_eq.1 h2 with h2 | rfl
   ·exact .inr ⟨h1, q, h2, h3⟩
   ·exact absurd h3 hp
theorem Iy {kk : Cb} {i : Nat} (h : ∀ d, d ∈ nl ↔ jf now n seen d ∨ ∃ q, q < i ∧ iL now kk q ∧ d = iT kk q) (hi : i = n.toNat) : ∀ d, d ∈ nl ↔ jf now n (kk :: seen) d := fun d => by
 subst hi
 rw [h]
 unfold jf
 constructor
 ·rintro (⟨c, hc, r⟩ | ⟨q, h1, h2, h3⟩)
  ·exact ⟨c, List.mem_cons_of_mem _ hc, r⟩
  ·exact ⟨kk, List.mem_cons_self, q, h1, h2, h3⟩
 ·rintro ⟨c, hc, i, hi, r⟩
  rcases List.mem_cons.1 hc with rfl | hc
  ·exact .inr ⟨i, hi, r⟩
  ·exact .inl ⟨c, hc, i, hi, r⟩
theorem Co {kk : Cb} {i : Nat} (h : ∀ d, d ∈ ml ↔ gi now n seen d ∨ (d = kk ∧ ∃ q, q < i ∧ iL now kk q)) (hi : i = n.toNat) : ∀ d, d ∈ ml ↔ gi now n (kk :: seen) d := fun d => by
 subst hi
 rw [h]
 unfold gi
 constructor
 ·rintro (⟨h1, r⟩ | ⟨rfl, r⟩)
  ·exact ⟨List.mem_cons_of_mem _ h1, r⟩
  ·exact ⟨List.mem_cons_self, r⟩
 ·rintro ⟨h1, r⟩
  rcases List.mem_cons.1 h1 with rfl | h1
  ·exact .inr ⟨rfl, r⟩
  ·exact .inl ⟨h1, r⟩
theorem xC {m v i : Nat} (h1 : ((m / 2 ^ ((i : Nat) : Int).toNat &&& 1 : Nat) : Int) = 1) (h2 : (gU (fq now) ⟨m, v ^^^ 1 * 2 ^ ((i : Nat) : Int).toNat⟩).getD false = true) : iL now ⟨m, v⟩ i := by
 rw [Int.toNat_natCast] at h1 h2
 rw [k8, decide_eq_true_eq, Nat.one_mul] at h2
 exact ⟨kQ.1 h1, h2⟩
theorem wQ {m v i : Nat} (h1 : ¬ ((m / 2 ^ ((i : Nat) : Int).toNat &&& 1 : Nat) : Int) = 1) : ¬ iL now ⟨m, v⟩ i := by
 rw [Int.toNat_natCast] at h1
 exact fun h => h1 (kQ.2 h.1)
theorem xF {m v i : Nat} (h2 : (gU (fq now) ⟨m, v ^^^ 1 * 2 ^ ((i : Nat) : Int).toNat⟩).getD false = false) : ¬ iL now ⟨m, v⟩ i := by
 rw [Int.toNat_natCast] at h2
 rw [k8, decide_eq_false_iff_not, Nat.one_mul] at h2
 exact fun h => h2 h.2
theorem EB (h : ∀ d, d ∈ nl ↔ jf now n seen d) (hs : ∀ c, c ∈ seen ↔ c ∈ now) : ∀ d, d ∈ nl ↔ jf now n now d := fun d => by
 rw [h]; unfold jf; simp only [hs]
theorem Ae (h : ∀ d, d ∈ ml ↔ gi now n seen d) (hs : ∀ c, c ∈ seen ↔ c ∈ now) : ∀ d, d ∈ ml ↔ gi now n now d := fun d => by
 rw [h]; unfold gi; simp only [hs]
theorem zX {w : World} {it b : Nat} (h : eC iz Value.bool w it b (fq now) seen) : ∀ c ∈ seen, c ∈ now := fun c hc => by
 have := h.sub c hc
 rwa [xo] at this
theorem Bi {w : World} {it b : Nat} (h : eC iz Value.bool w it b (fq now) seen) (hd : ∀ p ∈ fq now, p.1 ∈ seen) : ∀ c, c ∈ seen ↔ c ∈ now := fun c =>
 ⟨zX h c, fun hc => hd (c, true) (List.mem_map.2 ⟨c, hc, rfl⟩)⟩
theorem eC.len_le {α β : Type} [DecidableEq α] {enc : α → Value} {encV : β → Value} {w : World} {it b : Nat} {l : List (α × β)} {seen : List α} (h : eC enc encV w it b l seen) : seen.length ≤ l.length := by
 have := zS h.nodup h.sub
 simpa using this
theorem MF : ∀ c, c ∈ out ↔ c ∈ out ∨ (c ∈ ([] : List Cb) ∧ c ∉ ml) := fun c => by simp
theorem JD {out2 : List Cb} {kk : Cb} (h : ∀ c, c ∈ out2 ↔ c ∈ out ∨ (c ∈ seen ∧ c ∉ ml)) (hk : kk ∉ ml) : ∀ c, c ∈ yX out2 kk ↔ c ∈ out ∨ (c ∈ kk :: seen ∧ c ∉ ml) := fun c => by
 rw [GN, h, List.mem_cons]
 constructor
 ·rintro (rfl | h1 | ⟨h1, h2⟩)
  ·exact .inr ⟨.inl rfl, hk⟩
  ·exact .inl h1
  ·exact .inr ⟨.inr h1, h2⟩
 ·rintro (h1 | ⟨rfl | h1, h2⟩)
  ·exact .inr (.inl h1)
  ·exact .inl rfl
  ·exact .inr (.inr ⟨h1, h2⟩)
theorem Kq {out2 : List Cb} {kk : Cb} (h : ∀ c, c ∈ out2 ↔ c ∈ out ∨ (c ∈ seen ∧ c ∉ ml)) (hk : kk ∈ ml) : ∀ c, c ∈ out2 ↔ c ∈ out ∨ (c ∈ kk :: seen ∧ c ∉ ml) := fun c => by
 rw [h, List.mem_cons]
 constructor
 ·rintro (h1 | ⟨h1, h2⟩)
  ·exact .inl h1
  ·exact .inr ⟨.inr h1, h2⟩
 ·rintro (h1 | ⟨rfl | h1, h2⟩)
  ·exact .inl h1
  ·exact absurd hk h2
  ·exact .inr ⟨h1, h2⟩
theorem JC {out2 : List Cb} (h : ∀ c, c ∈ out2 ↔ c ∈ out ∨ (c ∈ seen ∧ c ∉ ml)) (hs : ∀ c, c ∈ seen ↔ c ∈ now) : ∀ c, c ∈ out2 ↔ c ∈ out ∨ (c ∈ now ∧ c ∉ ml) := fun c => by rw [h, hs]
theorem Nf {out2 : List Cb} {kk : Cb} (hL : ny s n (t + 1) now) (hO : vi s n (t + 1) out) (h : ∀ c, c ∈ out2 ↔ c ∈ out ∨ (c ∈ seen ∧ c ∉ ml)) (hk : kk ∈ now) (hs : kk ∉ seen) : kk ∉ out2 := fun hm => by
 rcases (h kk).1 hm with h1 | h1
 ·have h2 := ((hO kk).1 h1).2
  have h3 := ((hL kk).1 hk).2
  omega
 ·exact hs h1.1
theorem FK {out2 : List Cb} (hL : ny s n (t + 1) now) (h8 : n ≤ 8) (hO : vi s n (t + 1) out) (h : ∀ c, c ∈ out2 ↔ c ∈ out ∨ (c ∈ seen ∧ c ∉ ml)) (hs : ∀ c ∈ seen, c ∈ now) (hR : iF out2) : out2.length ≤ 65536 :=
 yM hR fun c hc => by
  rcases (h c).1 hc with h1 | h1
  ·have h2 := k9 (jU ((hO c).1 h1).1)
   have := fo h8
   omega
  ·exact vR hL h8 (hs c h1.1)
theorem Cs {kk : Cb} (h : (!(gU (fq ml) ⟨kk.m, kk.v⟩).getD false) = true) : kk ∉ ml := by
 rw [k8] at h
 simpa using h
theorem zW {kk : Cb} (h : (!(gU (fq ml) ⟨kk.m, kk.v⟩).getD false) = false) : kk ∈ ml := by
 rw [k8] at h
 simpa using h
end
theorem JH {s : Nat} {n : Int} {v : Value} {w' : World} {N : Nat} {T : TypeId} (h : if tK s n = true then ∃ x, v = .tuple #[x, .int .i64 0] ∧ dh gW 2 T w' N x (ex s n) else v = .tuple #[.slice none 0 0, .int .i64 1]) :
  ∃ (x : Value) (er : Int) (l : List Cb), v = .tuple #[x, .int .i64 er] ∧ dh gW 2 T w' N x l ∧ ((tK s n = true ∧ er = 0 ∧ l = ex s n) ∨ (tK s n = false ∧ er = 1 ∧ l = [])) := by
 by_cases ho : tK s n = true
 ·rw [if_pos ho] at h
  obtain ⟨x, h1, h2⟩ := h
  exact ⟨x, 0, _, h1, h2, .inl ⟨ho, rfl, rfl⟩⟩
 ·rw [if_neg ho] at h
  exact ⟨_, 1, [], h, dh.nil, .inr ⟨by simpa using ho, rfl, rfl⟩⟩
theorem sX {s : Nat} {n : Int} (h : n ≤ 8) : (ex s n).length ≤ 65536 := by
 have h1 := sS s n (2 ^ n.toNat)
 have h2 := fo h
 have h3 : 2 ^ n.toNat * 2 ^ n.toNat ≤ 256 * 256 := Nat.mul_le_mul h2 h2
 unfold ex
 omega
end
section
open Go Go.RowKit
theorem lZ {a b : Cb} : iW a b = true ↔ ∀ j, a.m.testBit j = true → b.m.testBit j = true ∧ a.v.testBit j = b.v.testBit j := by
 unfold iW
 rw [Bool.and_eq_true, decide_eq_true_eq, decide_eq_true_eq]
 constructor
 ·rintro ⟨h1, h2⟩ j hj
  have e1 := congrArg (fun x => x.testBit j) h1
  have e2 := congrArg (fun x => x.testBit j) h2
  simp only [ea, Nat.testBit_and, Nat.testBit_xor, Nat.zero_testBit, hj, Bool.true_and, Bool.and_true] at e1 e2
  exact ⟨by simpa using e1, by simpa using e2⟩
 ·intro h
  constructor
  ·refine Nat.eq_of_testBit_eq fun j => ?_
   rw [ea, Nat.zero_testBit]
   cases hj : a.m.testBit j with
   | false => rfl
   | true => rw [(h j hj).1]; rfl
  ·refine Nat.eq_of_testBit_eq fun j => ?_
   rw [Nat.testBit_and, Nat.testBit_xor, Nat.zero_testBit]
   cases hj : a.m.testBit j with
   | false => simp
   | true => rw [(h j hj).2]; simp
theorem CH (a : Cb) : iW a a = true := lZ.2 fun _ h => ⟨h, rfl⟩
theorem AE {a b c : Cb} (h : iW a b = true) (k : iW b c = true) : iW a c = true := by
 rw [lZ] at *
 exact fun j hj => ⟨(k j (h j hj).1).1, (h j hj).2.trans (k j (h j hj).1).2⟩
theorem Il {c : Cb} {i : Nat} (hi : i < 8) : iW (iT c i) c = true := lZ.2 fun j hj => by
 have hj' : (jA c.m (i : Int)).testBit j = true := hj
 have hv : (iT c i).v.testBit j = (c.v &&& jA c.m (i : Int)).testBit j := rfl
 rw [eZ hi, Bool.and_eq_true] at hj'
 refine ⟨hj'.1, ?_⟩
 rw [hv, Nat.testBit_and, eZ hi, hj'.1, hj'.2]
 simp
theorem lc {a b : Cb} {p : Nat} (ha : a.v &&& a.m = a.v) (h : iW a b = true) (hp : p &&& b.m = b.v) : p &&& a.m = a.v := by
 rw [lZ] at h
 refine Nat.eq_of_testBit_eq fun j => ?_
 have e := congrArg (fun x => x.testBit j) hp
 simp only [Nat.testBit_and] at e
 rw [Nat.testBit_and, eQ ha j]
 cases hj : a.m.testBit j with
 | false => simp
 | true =>
  obtain ⟨h1, h2⟩ := h j hj
  rw [h2, ← e, h1]
  simp
def kw (l : List Cb) (n : Nat) : Nat → Nat
 | 0 => 0
 | k + 1 => kw l n k ||| qg (l.getD k ⟨0, 0⟩).m (l.getD k ⟨0, 0⟩).v n
theorem qV {l : List Cb} {n : Nat} (hn : n ≤ 8) (p : Nat) : ∀ k, (kw l n k).testBit p = true ↔ ∃ j, j < k ∧ p < 2 ^ n ∧ p &&& (l.getD j ⟨0, 0⟩).m = (l.getD j ⟨0, 0⟩).v
 | 0 => by simp [kw]
 | k + 1 => by
  simp only [kw, Nat.testBit_or, Bool.or_eq_true, qV hn p k, jh hn, Bool.and_eq_true, decide_eq_true_eq]
  constructor
  ·rintro (⟨j, hj, h⟩ | h)
   ·exact ⟨j, by omega, h⟩
   ·exact ⟨k, by omega, h⟩
  ·rintro ⟨j, hj, h⟩
   rcases Nat.lt_succ_iff_lt_or_eq.1 hj with hj | rfl
   ·exact .inl ⟨j, hj, h⟩
   ·exact .inr h
theorem fk {α : Type} {l : List α} {a d : α} (h : a ∈ l) : ∃ j, j < l.length ∧ l.getD j d = a := by
 obtain ⟨j, hj, rfl⟩ := List.mem_iff_getElem.1 h
 exact ⟨j, hj, by simp [hj]⟩
theorem F8 {s : Nat} {n : Int} {i : Nat} (h : i < (ex s n).length) : gF ((ex s n).getD i ⟨0, 0⟩).m ((ex s n).getD i ⟨0, 0⟩).v s n = true := mC.1 (dS h)
end
section
open Go Go.RowKit
def qw (p i : Nat) (one : Bool) : Nat := if p.testBit i = one then p else p ^^^ 2 ^ i
theorem mJ (p i j : Nat) : (p ^^^ 2 ^ i).testBit j = if j = i then !p.testBit j else p.testBit j := by
 rw [Nat.testBit_xor, Nat.testBit_two_pow]
 by_cases e : i = j
 ·subst e; simp
 ·have : ¬ j = i := fun h => e h.symm
  simp [e, this]
theorem iD (p i j : Nat) (one : Bool) : (qw p i one).testBit j = if j = i then one else p.testBit j := by
 unfold qw
 split
 ·rename_i h
  split
  ·rename_i e; subst e; exact h
  ·rfl
 ·rename_i h
  rw [mJ]
  split
  ·rename_i e; subst e; cases hp : p.testBit j <;> cases one <;> simp_all
  ·rfl
theorem jZ {p i : Nat} {one : Bool} (h : p.testBit i = one) : qw p i one = p := if_pos h
theorem gw {p n : Nat} : p < 2 ^ n ↔ ∀ j, n ≤ j → p.testBit j = false := by
 constructor
 ·intro h j hj
  exact Nat.testBit_lt_two_pow (Nat.lt_of_lt_of_le h (Nat.pow_le_pow_right (by decide) hj))
 ·exact Nat.lt_pow_two_of_testBit p
theorem ke {p i n : Nat} {one : Bool} (hi : i < n) : qw p i one < 2 ^ n ↔ p < 2 ^ n := by
 rw [gw, gw]
 constructor
 ·intro h j hj
  have := h j hj
  rwa [iD, if_neg (by omega)] at this
 ·intro h j hj
  rw [iD, if_neg (by omega)]
  exact h j hj
theorem yc {p i n : Nat} (hi : i < n) (h : p < 2 ^ n) : p ^^^ 2 ^ i < 2 ^ n := Nat.xor_lt_two_pow h (Nat.pow_lt_pow_right (by decide) hi)
theorem oS (p i j : Nat) (one : Bool) : qw (p ^^^ 2 ^ j) i one = if j = i then qw p i one else qw p i one ^^^ 2 ^ j := by
 refine Nat.eq_of_testBit_eq fun q => ?_
 split
 ·rename_i e
  subst e
  rw [iD, iD, mJ]
  split <;> rfl
 ·rename_i e
  rw [iD, mJ, mJ, iD]
  by_cases h1 : q = i
  ·subst h1
   have : ¬ q = j := fun h => e h.symm
   simp [this]
  ·simp [h1]
theorem A8 (i : Nat) (h : i < 8) (p : Nat) (hp : p < 256) : p ^^^ 2 ^ i < 256 := yc (n := 8) h hp
theorem r7 {l : List Int} {F : Nat → Int → Nat} {hit : Int → Nat → Prop} (hF : ∀ o p, p ∈ l → ∀ q, ((F o p).testBit q = true ↔ o.testBit q = true ∨ hit p q)) :
  ∀ (z q : Nat), ((l.foldl F z).testBit q = true ↔ z.testBit q = true ∨ ∃ p, p ∈ l ∧ hit p q) := by
 induction l with
 | nil => intro z q; simp
 | cons a l ih =>
  intro z q
  rw [List.foldl_cons, ih (fun o p hp => hF o p (List.mem_cons_of_mem _ hp)), hF z a (List.mem_cons_self ..)]
  constructor
  ·rintro ((h | h) | ⟨p, h1, h2⟩)
   ·exact .inl h
   ·exact .inr ⟨a, List.mem_cons_self .., h⟩
   ·exact .inr ⟨p, List.mem_cons_of_mem _ h1, h2⟩
  ·rintro (h | ⟨p, h1, h2⟩)
   ·exact .inl (.inl h)
   ·rcases List.mem_cons.1 h1 with rfl | h1
    ·exact .inl (.inr h2)
    ·exact .inr ⟨p, h1, h2⟩
theorem m5 {s i q : Nat} {one : Bool} : (ou s i one).testBit q = true ↔ q < 256 ∧ s.testBit q = true ∧ q.testBit i = one := by
 unfold ou
 rw [r7 (hit := fun p q => p.toNat.testBit i = one ∧ q = p.toNat)]
 ·simp only [Nat.zero_testBit, Bool.false_eq_true, false_or]
  constructor
  ·rintro ⟨p, hp, h1, h2⟩
   obtain ⟨k, h3, h4, rfl⟩ := iQ.1 hp
   rw [Int.toNat_natCast] at h1 h2
   subst h2
   exact ⟨h3, h4, h1⟩
  ·rintro ⟨h1, h2, h3⟩
   exact ⟨(q : Int), iQ.2 ⟨q, h1, h2, rfl⟩, by simpa using h3, by simp⟩
 ·intro o p hp q
  obtain ⟨k, h3, h4, rfl⟩ := iQ.1 hp
  have e : (decide ((k : Int).toNat / 2 ^ i % 2 = 1) == one) = true ↔ k.testBit i = one := by
   rw [Int.toNat_natCast, ← tT]
   cases k.testBit i <;> cases one <;> simp
  rw [Int.toNat_natCast] at e ⊢
  by_cases hk : k.testBit i = one
  ·rw [if_pos (e.2 hk), kS h3]
   simp [hk, or_comm]
  ·rw [if_neg (fun h => hk (e.1 h))]
   simp [hk]
def jI (l : List Int) (h i k : Nat) : Nat := (l.take k).foldl (fun o p => ky o ((p.toNat ^^^ 2 ^ i : Nat) : Int)) h
def dk (s i : Nat) (one : Bool) : Nat := jI (ef (ou s i one)) (ou s i one) i (ef (ou s i one)).length
theorem sO {l : List Int} {h i k : Nat} (hk : k < l.length) : jI l h i (k + 1) = ky (jI l h i k) (((l.getD k 0).toNat ^^^ 2 ^ i : Nat) : Int) := by
 unfold jI
 rw [List.take_succ_eq_append_getElem hk, List.foldl_append]
 simp [List.getD_eq_getElem?_getD, List.getElem?_eq_getElem hk]
theorem fH {s i p : Nat} {one : Bool} (hi : i < 8) : (dk s i one).testBit p = true ↔ p < 256 ∧ s.testBit (qw p i one) = true := by
 unfold dk jI
 rw [List.take_length, r7 (hit := fun x q => q = x.toNat ^^^ 2 ^ i)]
 ·rw [m5]
  constructor
  ·rintro (⟨h1, h2, h3⟩ | ⟨x, hx, rfl⟩)
   ·exact ⟨h1, by rw [jZ h3]; exact h2⟩
   ·obtain ⟨k, h3, h4, rfl⟩ := iQ.1 hx
    obtain ⟨_, h5, h6⟩ := m5.1 h4
    rw [Int.toNat_natCast]
    exact ⟨A8 i hi k h3, by rw [oS, if_pos rfl, jZ h6]; exact h5⟩
  ·rintro ⟨h1, h2⟩
   by_cases h3 : p.testBit i = one
   ·exact .inl ⟨h1, by rwa [jZ h3] at h2, h3⟩
   ·refine .inr ⟨((p ^^^ 2 ^ i : Nat) : Int), iQ.2 ⟨p ^^^ 2 ^ i, A8 i hi p h1, ?_, rfl⟩, ?_⟩
    ·have e : qw p i one = p ^^^ 2 ^ i := if_neg h3
     rw [e] at h2
     refine m5.2 ⟨A8 i hi p h1, h2, ?_⟩
     rw [mJ, if_pos rfl]
     cases hp : p.testBit i <;> cases one <;> simp_all
    ·rw [Int.toNat_natCast, Nat.xor_assoc, Nat.xor_self, Nat.xor_zero]
 ·intro o x hx q
  obtain ⟨k, h3, h4, rfl⟩ := iQ.1 hx
  rw [Int.toNat_natCast, kS (A8 i hi k h3)]
  simp [or_comm]
theorem gn {s i p : Nat} {one : Bool} (hi : i < 8) (hp : p < 256) : (dk s i one).testBit p = s.testBit (qw p i one) := by
 rw [Bool.eq_iff_iff, fH hi]
 simp [hp]
def wc (s t : Nat) : Bool := decide (wd s 0 = wd t 0 ∧ wd s 1 = wd t 1 ∧ wd s 2 = wd t 2 ∧ wd s 3 = wd t 3)
theorem pS {s t : Nat} : wc s t = true ↔ ∀ p, p < 256 → s.testBit p = t.testBit p := by
 unfold wc
 rw [decide_eq_true_eq]
 constructor
 ·rintro ⟨h0, h1, h2, h3⟩ p hp
  have key : ∀ i, wd s i = wd t i → p / 64 = i → s.testBit p = t.testBit p := fun i h e => by
   have h5 := congrArg (fun x => x.testBit (p % 64)) h
   simp only [ii] at h5
   have e2 : 64 * i + p % 64 = p := by omega
   rw [e2] at h5
   simpa [Nat.mod_lt] using h5
  have : p / 64 = 0 ∨ p / 64 = 1 ∨ p / 64 = 2 ∨ p / 64 = 3 := by omega
  rcases this with e | e | e | e
  ·exact key 0 h0 e
  ·exact key 1 h1 e
  ·exact key 2 h2 e
  ·exact key 3 h3 e
 ·intro h
  exact ⟨rA (by decide) h, rA (by decide) h, rA (by decide) h, rA (by decide) h⟩
def ig (i one : Nat) (c : Cb) : Cb := ⟨c.m ||| 1 * 2 ^ i, c.v ||| one * 2 ^ i⟩
def ru (n : Nat) (on0 on1 : Nat) (a b : List Cb) : Nat := (0 ||| andNot on0 (kw a n a.length)) ||| andNot on1 (kw b n b.length)
def eD (n : Nat) : Nat → Nat → Nat → Nat → List Cb
 | 0, _, _, _ => []
 | f + 1, on, may, i =>
  if wc on 0 = true then [] else if wc may (fh n) = true then [⟨0, 0⟩] else
  let a := eD n f (andNot (dk on i false) (dk may i true)) (dk may i false) (i + 1)
  let b := eD n f (andNot (dk on i true) (dk may i false)) (dk may i true) (i + 1)
  (a.map (ig i 0) ++ b.map (ig i 1)) ++ eD n f (ru n (dk on i false) (dk on i true) a b) (dk may i false &&& dk may i true) (i + 1)
structure mz (n on may i : Nat) : Prop where
 le : i ≤ n
 sub : ∀ p, p < 256 → on.testBit p = true → may.testBit p = true
 out : ∀ p, p < 256 → may.testBit p = true → p < 2 ^ n
 free : ∀ p j, p < 256 → j < i → on.testBit (p ^^^ 2 ^ j) = on.testBit p
 freeM : ∀ p j, p < 256 → j < i → may.testBit (p ^^^ 2 ^ j) = may.testBit p
theorem Eu {n on may : Nat} (h : ∀ p, p < 256 → on.testBit p = true → may.testBit p = true) (k : ∀ p, p < 256 → may.testBit p = true → p < 2 ^ n) : mz n on may 0 :=
 ⟨Nat.zero_le _, h, k, fun _ j _ hj => absurd hj (Nat.not_lt_zero j), fun _ j _ hj => absurd hj (Nat.not_lt_zero j)⟩
theorem AO {s : Nat} : ∀ (n : Nat), (∀ p j, p < 2 ^ n → j < n → s.testBit (p ^^^ 2 ^ j) = s.testBit p) → ∀ p, p < 2 ^ n → s.testBit p = s.testBit 0
 | 0, _, p, hp => by
  have : p = 0 := by simpa using hp
  rw [this]
 | n + 1, h, p, hp => by
  have hle : 2 ^ n ≤ 2 ^ (n + 1) := Nat.pow_le_pow_right (by decide) (by omega)
  have ih := AO n fun p j hp hj => h p j (Nat.lt_of_lt_of_le hp hle) (by omega)
  by_cases hb : p.testBit n = true
  ·rw [← h p n hp (by omega)]
   refine ih _ (gw.2 fun j hj => ?_)
   rw [mJ]
   split
   ·rename_i e; subst e; rw [hb]; rfl
   ·exact gw.1 hp j (by omega)
  ·refine ih p (gw.2 fun j hj => ?_)
   by_cases e : j = n
   ·subst e; simpa using hb
   ·exact gw.1 hp j (by omega)
theorem fO {n : Nat} (h : n ≤ 8) : 2 ^ n ≤ 256 := by
 have : 2 ^ n ≤ 2 ^ 8 := Nat.pow_le_pow_right (by decide) h
 simpa using this
theorem mz.end {n on may : Nat} (h8 : n ≤ 8) (h : mz n on may n) : wc on 0 = true ∨ wc may (fh n) = true := by
 have hp := fO h8
 have h1 := AO n fun p j hq hj => h.freeM p j (by omega) hj
 by_cases h0 : may.testBit 0 = true
 ·right
  rw [pS]
  intro p hp2
  rw [fL]
  by_cases hpn : p < 2 ^ n
  ·rw [h1 p hpn, h0]; simp [hpn]
  ·cases hm : may.testBit p with
   | false => simp [hpn]
   | true => exact absurd (h.out p hp2 hm) hpn
 ·left
  rw [pS]
  intro p hp2
  rw [Nat.zero_testBit]
  refine Bool.eq_false_iff.2 fun ho => ?_
  have hm := h.sub p hp2 ho
  exact h0 (by rw [← h1 p (h.out p hp2 hm)]; exact hm)
def hold (c : Cb) (p : Nat) : Prop := p &&& c.m = c.v
theorem rO {c : Cb} {p : Nat} : hold c p ↔ ∀ j, (p.testBit j && c.m.testBit j) = c.v.testBit j := by
 unfold hold
 constructor
 ·intro h j; rw [← h, Nat.testBit_and]
 ·intro h; exact Nat.eq_of_testBit_eq fun j => by rw [Nat.testBit_and]; exact h j
theorem uO {c : Cb} {p j : Nat} (h : c.m.testBit j = false) : hold c (p ^^^ 2 ^ j) ↔ hold c p := by
 rw [rO, rO]
 have : ∀ q, ((p ^^^ 2 ^ j).testBit q && c.m.testBit q) = (p.testBit q && c.m.testBit q) := fun q => by
  rw [mJ]
  split
  ·rename_i e; subst e; simp [h]
  ·rfl
 simp only [this]
theorem v8 {c : Cb} {p i : Nat} {one : Bool} (h : c.m.testBit i = false) : hold c (qw p i one) ↔ hold c p := by
 unfold qw
 split
 ·exact Iff.rfl
 ·exact uO h
theorem i7 (c : Cb) (i one j : Nat) : (ig i one c).m.testBit j = (c.m.testBit j || decide (j = i)) := by
 show (c.m ||| 1 * 2 ^ i).testBit j = _
 rw [Nat.one_mul, Nat.testBit_or, Nat.testBit_two_pow]
 by_cases e : i = j
 ·subst e; simp
 ·have : ¬ j = i := fun h => e h.symm
  simp [e, this]
theorem mG (c : Cb) (i j : Nat) : (ig i 0 c).v.testBit j = c.v.testBit j := by
 show (c.v ||| 0 * 2 ^ i).testBit j = _
 rw [Nat.zero_mul, Nat.or_zero]
theorem mR (c : Cb) (i j : Nat) : (ig i 1 c).v.testBit j = (c.v.testBit j || decide (j = i)) := by
 show (c.v ||| 1 * 2 ^ i).testBit j = _
 rw [Nat.one_mul, Nat.testBit_or, Nat.testBit_two_pow]
 by_cases e : i = j
 ·subst e; simp
 ·have : ¬ j = i := fun h => e h.symm
  simp [e, this]
theorem rW {c : Cb} {i p one : Nat} (h1 : one = 0 ∨ one = 1) (hv : c.v &&& c.m = c.v) (h : c.m.testBit i = false) : hold (ig i one c) p ↔ p.testBit i = decide (one = 1) ∧ hold c p := by
 have hvi : c.v.testBit i = false := by rw [eQ hv, h, Bool.and_false]
 rw [rO, rO]
 rcases h1 with rfl | rfl
 ·simp only [i7, mG]
  constructor
  ·intro k
   have hi : p.testBit i = false := by have := k i; simpa [h, hvi] using this
   refine ⟨by simpa using hi, fun j => ?_⟩
   have := k j
   by_cases e : j = i
   ·subst e; simp [h, hvi]
   ·simpa [e] using this
  ·rintro ⟨k0, k⟩ j
   have := k j
   by_cases e : j = i
   ·subst e; simp [hvi]; simpa using k0
   ·simpa [e] using this
 ·simp only [i7, mR]
  constructor
  ·intro k
   have hi : p.testBit i = true := by have := k i; simpa [h, hvi] using this
   refine ⟨by simpa using hi, fun j => ?_⟩
   have := k j
   by_cases e : j = i
   ·subst e; simp [h, hvi]
   ·simpa [e] using this
  ·rintro ⟨k0, k⟩ j
   have := k j
   by_cases e : j = i
   ·subst e; simp [hvi]; simpa using k0
   ·simpa [e] using this
def iZ (n may i : Nat) (l : List Cb) : Prop := ∀ c, c ∈ l → c.m < 2 ^ n ∧ c.v &&& c.m = c.v ∧ (∀ j, j < i → c.m.testBit j = false) ∧ ∀ p, p < 2 ^ n → hold c p → may.testBit p = true
def Em (n on : Nat) (l : List Cb) : Prop := ∀ p, p < 2 ^ n → on.testBit p = true → ∃ c, c ∈ l ∧ hold c p
theorem pU {l : List Cb} {n : Nat} (hn : n ≤ 8) (p : Nat) : (kw l n l.length).testBit p = true ↔ p < 2 ^ n ∧ ∃ c, c ∈ l ∧ hold c p := by
 rw [qV hn]
 constructor
 ·rintro ⟨j, hj, h1, h2⟩
  exact ⟨h1, _, dS hj, h2⟩
 ·rintro ⟨h1, c, hc, h2⟩
  obtain ⟨j, hj, rfl⟩ := fk (d := ⟨0, 0⟩) hc
  exact ⟨j, hj, h1, h2⟩
section
variable {n on may i : Nat}
theorem mz.side (h8 : n ≤ 8) (h : mz n on may i) (hi : i < n) (x : Bool) : mz n (andNot (dk on i x) (dk may i (!x))) (dk may i x) (i + 1) := by
 have hi8 : i < 8 := by omega
 refine ⟨hi, fun p hp hq => ?_, fun p hp hq => ?_, fun p j hp hj => ?_, fun p j hp hj => ?_⟩
 ·rw [ea, Bool.and_eq_true] at hq
  obtain ⟨h1, h2⟩ := (fH hi8).1 hq.1
  exact (fH hi8).2 ⟨hp, h.sub _ ((ke (n := 8) hi8).2 hp) h2⟩
 ·obtain ⟨h1, h2⟩ := (fH hi8).1 hq
  exact (ke hi).1 (h.out _ ((ke (n := 8) hi8).2 hp) h2)
 ·have hpj : p ^^^ 2 ^ j < 256 := A8 j (by omega) p hp
  simp only [ea, gn hi8 hp, gn hi8 hpj, oS]
  split
  ·rfl
  ·rename_i hne
   have hlt : ∀ y, qw p i y < 256 := fun y => (ke (n := 8) hi8).2 hp
   rw [h.free _ j (hlt _) (by omega), h.freeM _ j (hlt _) (by omega)]
 ·have hpj : p ^^^ 2 ^ j < 256 := A8 j (by omega) p hp
  simp only [gn hi8 hp, gn hi8 hpj, oS]
  split
  ·rfl
  ·rename_i hne
   have hlt : ∀ y, qw p i y < 256 := fun y => (ke (n := 8) hi8).2 hp
   rw [h.freeM _ j (hlt _) (by omega)]
theorem ju {on0 on1 : Nat} {a b : List Cb} {p : Nat} : (ru n on0 on1 a b).testBit p = ((on0.testBit p && !(kw a n a.length).testBit p) || (on1.testBit p && !(kw b n b.length).testBit p)) := by
 unfold ru
 rw [Nat.zero_or, Nat.testBit_or, ea, ea]
theorem AK {l : List Cb} {j p : Nat} (h8 : n ≤ 8) (hj : j < n) (h : ∀ c, c ∈ l → c.m.testBit j = false) : (kw l n l.length).testBit (p ^^^ 2 ^ j) = (kw l n l.length).testBit p := by
 rw [Bool.eq_iff_iff, pU h8, pU h8]
 have hlt : p ^^^ 2 ^ j < 2 ^ n ↔ p < 2 ^ n := by
  constructor
  ·intro h2
   have := yc hj h2
   rwa [Nat.xor_assoc, Nat.xor_self, Nat.xor_zero] at this
  ·exact yc hj
 rw [hlt]
 constructor
 ·rintro ⟨h1, c, hc, h2⟩; exact ⟨h1, c, hc, (uO (h c hc)).1 h2⟩
 ·rintro ⟨h1, c, hc, h2⟩; exact ⟨h1, c, hc, (uO (h c hc)).2 h2⟩
theorem mz.rest (h8 : n ≤ 8) (h : mz n on may i) (hi : i < n) {a b : List Cb} (ha : iZ n (dk may i false) (i + 1) a) (hb : iZ n (dk may i true) (i + 1) b)
  (ca : Em n (andNot (dk on i false) (dk may i true)) a) (cb : Em n (andNot (dk on i true) (dk may i false)) b) :
  mz n (ru n (dk on i false) (dk on i true) a b) (dk may i false &&& dk may i true) (i + 1) := by
 have hi8 : i < 8 := by omega
 have hlt : ∀ p y, p < 256 → qw p i y < 256 := fun p y hp => (ke (n := 8) hi8).2 hp
 refine ⟨hi, fun p hp hq => ?_, fun p hp hq => ?_, fun p j hp hj => ?_, fun p j hp hj => ?_⟩
 ·rw [ju, Bool.or_eq_true, Bool.and_eq_true, Bool.and_eq_true] at hq
  rw [Nat.testBit_and, Bool.and_eq_true]
  have one : ∀ (x : Bool) (l : List Cb), (dk on i x).testBit p = true → (!(kw l n l.length).testBit p) = true → Em n (andNot (dk on i x) (dk may i (!x))) l → (dk may i x).testBit p = true ∧ (dk may i (!x)).testBit p = true := by
   intro x l h1 h2 hc
   have hm : (dk may i x).testBit p = true := by
    rw [gn hi8 hp] at h1 ⊢
    exact h.sub _ (hlt p x hp) h1
   refine ⟨hm, Classical.byContradiction fun hn => ?_⟩
   have hpn : p < 2 ^ n := by
    rw [gn hi8 hp] at hm
    exact (ke hi).1 (h.out _ (hlt p x hp) hm)
   have := hc p hpn (by rw [ea, h1, Bool.eq_false_iff.2 hn]; rfl)
   rw [(pU h8 p).2 ⟨hpn, this⟩] at h2
   cases h2
  rcases hq with ⟨h1, h2⟩ | ⟨h1, h2⟩
  ·exact one false a h1 h2 ca
  ·exact (one true b h1 h2 cb).symm
 ·rw [Nat.testBit_and, Bool.and_eq_true] at hq
  obtain ⟨h1, h2⟩ := (fH hi8).1 hq.1
  exact (ke hi).1 (h.out _ (hlt p _ hp) h2)
 ·have hpj : p ^^^ 2 ^ j < 256 := A8 j (by omega) p hp
  rw [ju, ju, AK h8 (by omega) (fun c hc => (ha c hc).2.2.1 j hj), AK h8 (by omega) (fun c hc => (hb c hc).2.2.1 j hj)]
  simp only [gn hi8 hp, gn hi8 hpj, oS]
  split
  ·rfl
  ·rename_i hne
   rw [h.free _ j (hlt p _ hp) (by omega), h.free _ j (hlt p _ hp) (by omega)]
 ·have hpj : p ^^^ 2 ^ j < 256 := A8 j (by omega) p hp
  simp only [Nat.testBit_and, gn hi8 hp, gn hi8 hpj, oS]
  split
  ·rfl
  ·rename_i hne
   rw [h.freeM _ j (hlt p _ hp) (by omega), h.freeM _ j (hlt p _ hp) (by omega)]
theorem A2 {a : List Cb} {one : Nat} {c : Cb} : c ∈ a.map (ig i one) ↔ ∃ d, d ∈ a ∧ ig i one d = c := List.mem_map
theorem Dn (h8 : n ≤ 8) (hi : i < n) {a : List Cb} {one : Nat} {x : Bool} (h1 : (one = 0 ∧ x = false) ∨ (one = 1 ∧ x = true)) (ha : iZ n (dk may i x) (i + 1) a) (_hf : ∀ p j, p < 256 → j < i → may.testBit (p ^^^ 2 ^ j) = may.testBit p) :
  iZ n may i (a.map (ig i one)) := by
 intro c hc
 obtain ⟨d, hd, rfl⟩ := A2.1 hc
 obtain ⟨k1, k2, k3, k4⟩ := ha d hd
 have ho : one = 0 ∨ one = 1 := h1.elim (fun h => .inl h.1) (fun h => .inr h.1)
 have hx : x = decide (one = 1) := by rcases h1 with ⟨rfl, rfl⟩ | ⟨rfl, rfl⟩ <;> rfl
 refine ⟨gw.2 fun j hj => ?_, Nat.eq_of_testBit_eq fun j => ?_, fun j hj => ?_, fun p hp hh => ?_⟩
 ·rw [i7, gw.1 k1 j hj, decide_eq_false (by omega)]; rfl
 ·rw [Nat.testBit_and, i7]
  have hvb := eQ k2 j
  rcases ho with rfl | rfl
  ·rw [mG, hvb]; cases d.v.testBit j <;> cases d.m.testBit j <;> simp
  ·rw [mR, hvb]; cases d.v.testBit j <;> cases d.m.testBit j <;> simp
 ·rw [i7, k3 j (by omega), decide_eq_false (by omega)]; rfl
 ·obtain ⟨g1, g2⟩ := (rW ho k2 (k3 i (by omega))).1 hh
  have := k4 p hp g2
  have hp8 : p < 256 := Nat.lt_of_lt_of_le hp (fO h8)
  rwa [gn (by omega) hp8, hx, jZ g1] at this
theorem iZ.app {a b : List Cb} (ha : iZ n may i a) (hb : iZ n may i b) : iZ n may i (a ++ b) := fun c hc => (List.mem_append.1 hc).elim (ha c) (hb c)
theorem kr (h8 : n ≤ 8) : ∀ (f on may i : Nat), mz n on may i → n + 1 - i ≤ f → iZ n may i (eD n f on may i) ∧ Em n on (eD n f on may i)
 | 0, on, may, i, h, hf => by have := h.le; omega
 | f + 1, on, may, i, h, hf => by
  rw [eD]
  split
  ·rename_i h0
   rw [pS] at h0
   refine ⟨fun c hc => (nomatch hc), fun p hp ho => ?_⟩
   rw [h0 p (Nat.lt_of_lt_of_le hp (fO h8)), Nat.zero_testBit] at ho
   cases ho
  ·rename_i h0
   split
   ·rename_i h1
    rw [pS] at h1
    refine ⟨fun c hc => ?_, fun p hp ho => ⟨⟨0, 0⟩, by simp, by simp [hold]⟩⟩
    rw [List.mem_singleton] at hc
    subst hc
    refine ⟨Nat.two_pow_pos n, rfl, fun j _ => Nat.zero_testBit j, fun p hp _ => ?_⟩
    rw [h1 p (Nat.lt_of_lt_of_le hp (fO h8)), fL]
    simp [hp]
   ·rename_i h1
    have hi : i < n := Nat.lt_of_le_of_ne h.le fun e => by
     subst e
     rcases h.end h8 with h2 | h2
     ·exact h0 h2
     ·exact h1 h2
    have hi8 : i < 8 := by omega
    dsimp only
    obtain ⟨a1, a2⟩ := kr h8 f _ _ _ (h.side h8 hi false) (by omega)
    obtain ⟨b1, b2⟩ := kr h8 f _ _ _ (h.side h8 hi true) (by omega)
    simp only [Bool.not_false, Bool.not_true] at a1 a2 b1 b2
    generalize eD n f (andNot (dk on i false) (dk may i true)) (dk may i false) (i + 1) = a at *
    generalize eD n f (andNot (dk on i true) (dk may i false)) (dk may i true) (i + 1) = b at *
    obtain ⟨c1, c2⟩ := kr h8 f _ _ _ (h.rest h8 hi a1 b1 a2 b2) (by omega)
    generalize eD n f (ru n (dk on i false) (dk on i true) a b) (dk may i false &&& dk may i true) (i + 1) = c at *
    refine ⟨iZ.app (iZ.app (Dn h8 hi (.inl ⟨rfl, rfl⟩) a1 h.freeM) (Dn h8 hi (.inr ⟨rfl, rfl⟩) b1 h.freeM)) fun d hd => ?_, fun p hp ho => ?_⟩
    ·obtain ⟨k1, k2, k3, k4⟩ := c1 d hd
     refine ⟨k1, k2, fun j hj => k3 j (by omega), fun p hp hh => ?_⟩
     have hp8 : p < 256 := Nat.lt_of_lt_of_le hp (fO h8)
     have := k4 p hp hh
     rw [Nat.testBit_and, gn hi8 hp8, gn hi8 hp8, Bool.and_eq_true] at this
     cases hb : p.testBit i with
     | false => rw [jZ hb] at this; exact this.1
     | true => rw [jZ hb] at this; exact this.2
    ·have hp8 : p < 256 := Nat.lt_of_lt_of_le hp (fO h8)
     have key : ∀ (x : Bool) (one : Nat) (l : List Cb), p.testBit i = x → ((one = 0 ∧ x = false) ∨ (one = 1 ∧ x = true)) → iZ n (dk may i x) (i + 1) l →
       ((kw l n l.length).testBit p = true → ∃ d, d ∈ l.map (ig i one) ∧ hold d p) := by
      intro x one l hb h1 hl hpt
      obtain ⟨_, d, hd, hh⟩ := (pU h8 p).1 hpt
      have ho : one = 0 ∨ one = 1 := h1.elim (fun h => .inl h.1) (fun h => .inr h.1)
      have hx : x = decide (one = 1) := by rcases h1 with ⟨rfl, rfl⟩ | ⟨rfl, rfl⟩ <;> rfl
      obtain ⟨k1, k2, k3, k4⟩ := hl d hd
      exact ⟨_, A2.2 ⟨d, hd, rfl⟩, (rW ho k2 (k3 i (by omega))).2 ⟨by rw [hb, hx], hh⟩⟩
     cases hb : p.testBit i with
     | false =>
      have hon : (dk on i false).testBit p = true := by rw [gn hi8 hp8, jZ hb]; exact ho
      by_cases hpt : (kw a n a.length).testBit p = true
      ·obtain ⟨d, hd, hh⟩ := key false 0 a hb (.inl ⟨rfl, rfl⟩) a1 hpt
       exact ⟨d, by simp only [List.mem_append]; exact .inl (.inl hd), hh⟩
      ·obtain ⟨d, hd, hh⟩ := c2 p hp (by rw [ju, hon, Bool.eq_false_iff.2 hpt]; rfl)
       exact ⟨d, by simp only [List.mem_append]; exact .inr hd, hh⟩
     | true =>
      have hon : (dk on i true).testBit p = true := by rw [gn hi8 hp8, jZ hb]; exact ho
      by_cases hpt : (kw b n b.length).testBit p = true
      ·obtain ⟨d, hd, hh⟩ := key true 1 b hb (.inr ⟨rfl, rfl⟩) b1 hpt
       exact ⟨d, by simp only [List.mem_append]; exact .inl (.inr hd), hh⟩
      ·obtain ⟨d, hd, hh⟩ := c2 p hp (by rw [ju, hon, Bool.eq_false_iff.2 hpt]; simp)
       exact ⟨d, by simp only [List.mem_append]; exact .inr hd, hh⟩
theorem iC : ∀ (f on may i : Nat), (eD n f on may i).length ≤ 3 ^ f
 | 0, _, _, _ => by simp [eD]
 | f + 1, on, may, i => by
  rw [eD]
  have h3 : 3 ^ (f + 1) = 3 ^ f + 3 ^ f + 3 ^ f := by rw [Nat.pow_succ]; omega
  have h0 : 0 < 3 ^ f := Nat.pow_pos (by decide)
  split
  ·simp
  ·split
   ·simp; omega
   ·have h4 := iC f (andNot (dk on i false) (dk may i true)) (dk may i false) (i + 1)
    have h5 := iC f (andNot (dk on i true) (dk may i false)) (dk may i true) (i + 1)
    simp only [List.length_append, List.length_map]
    generalize eD n f (andNot (dk on i false) (dk may i true)) (dk may i false) (i + 1) = a at *
    generalize eD n f (andNot (dk on i true) (dk may i false)) (dk may i true) (i + 1) = b at *
    have h6 := iC f (ru n (dk on i false) (dk on i true) a b) (dk may i false &&& dk may i true) (i + 1)
    omega
end
def l8 (x y : Nat) : Array Value := #[wv x 0, wv x 1, wv x 2, wv x 3, wv y 0, wv y 1, wv y 2, wv y 3]
def m0 (s i k : Nat) : Array Value := l8 (if 0 < k then dk s i false else 0) (if 1 < k then dk s i true else 0)
theorem zm (s i : Nat) : (#[.int .u64 0, .int .u64 0, .int .u64 0, .int .u64 0, .int .u64 0, .int .u64 0, .int .u64 0, .int .u64 0] : Array Value) = m0 s i 0 := by
 simp [m0, l8, wd]
theorem sK {w : World} {b s i : Nat} {T : TypeId} (h : At w b #[.int .u64 0, .int .u64 0, .int .u64 0, .int .u64 0, .int .u64 0, .int .u64 0, .int .u64 0, .int .u64 0] T) : At w b (m0 s i 0) T := by
 rw [← zm]; exact h
theorem pv (s i k : Nat) : (m0 s i k).size = 8 := rfl
theorem qO {s i k : Nat} (hk : k < 2) :
  ((m0 s i k).toList.take (0 + k * 4) ++ (#[wv (dk s i (decide ((k : Int) = 1))) 0, wv (dk s i (decide ((k : Int) = 1))) 1, wv (dk s i (decide ((k : Int) = 1))) 2, wv (dk s i (decide ((k : Int) = 1))) 3] : Array Value).toList ++
   (m0 s i k).toList.drop (0 + k * 4 + (#[wv (dk s i (decide ((k : Int) = 1))) 0, wv (dk s i (decide ((k : Int) = 1))) 1, wv (dk s i (decide ((k : Int) = 1))) 2, wv (dk s i (decide ((k : Int) = 1))) 3] : Array Value).toList.length)).toArray = m0 s i (k + 1) := by
 have : k = 0 ∨ k = 1 := by omega
 rcases this with rfl | rfl <;> rfl
theorem t4 {s t : Nat} (h : ((wd s 0 : Nat) : Int) = ((wd t 0 : Nat) : Int) ∧ ((wd s 1 : Nat) : Int) = ((wd t 1 : Nat) : Int) ∧ ((wd s 2 : Nat) : Int) = ((wd t 2 : Nat) : Int) ∧ ((wd s 3 : Nat) : Int) = ((wd t 3 : Nat) : Int)) : wc s t = true := by
 unfold wc
 rw [decide_eq_true_eq]
 obtain ⟨h0, h1, h2, h3⟩ := h
 exact ⟨Int.ofNat_inj.1 h0, Int.ofNat_inj.1 h1, Int.ofNat_inj.1 h2, Int.ofNat_inj.1 h3⟩
theorem q7 {s t : Nat} (h : wc s t = true) : ((wd s 0 : Nat) : Int) = ((wd t 0 : Nat) : Int) ∧ ((wd s 1 : Nat) : Int) = ((wd t 1 : Nat) : Int) ∧ ((wd s 2 : Nat) : Int) = ((wd t 2 : Nat) : Int) ∧ ((wd s 3 : Nat) : Int) = ((wd t 3 : Nat) : Int) := by
 unfold wc at h
 rw [decide_eq_true_eq] at h
 obtain ⟨h0, h1, h2, h3⟩ := h
 exact ⟨by rw [h0], by rw [h1], by rw [h2], by rw [h3]⟩
theorem Kg {n on may i : Nat} (h8 : n ≤ 8) (h : mz n on may i) (h0 : ¬ wc on 0 = true) (h1 : ¬ wc may (fh n) = true) : i < n := Nat.lt_of_le_of_ne h.le fun e => by
 subst e
 rcases h.end h8 with h2 | h2
 ·exact h0 h2
 ·exact h1 h2
theorem Ay {l : List Cb} {i q k : Nat} (h : k < l.length) : (l.take (k + 1)).map (ig i q) = (l.take k).map (ig i q) ++ [ig i q (l.getD k ⟨0, 0⟩)] := by
 rw [List.take_succ_eq_append_getElem h, List.map_append]
 simp [List.getD_eq_getElem?_getD, List.getElem?_eq_getElem h]
theorem J4 {s k : Nat} {i : Int} {one : Bool} {H : Nat} (h : (if 0 ≤ i ∧ i < 8 then ou s i.toNat one else 0) = H) (hk : (k : Int) < ((ef H).length : Int)) : 0 ≤ i ∧ i < 8 := by
 refine Classical.byContradiction fun hn => ?_
 rw [if_neg hn] at h
 subst h
 have e : ef 0 = [] := by simp [ef]
 rw [e] at hk
 simp at hk
 omega
theorem Hi {s : Nat} {i : Int} {one : Bool} {H : Nat} (h : (if 0 ≤ i ∧ i < 8 then ou s i.toNat one else 0) = H) : jI (ef H) H i.toNat (ef H).length = if 0 ≤ i ∧ i < 8 then dk s i.toNat one else 0 := by
 split at h
 ·rename_i hi
  rw [if_pos hi, dk, h]
 ·rename_i hi
  rw [if_neg hi]
  subst h
  have e : ef 0 = [] := by simp [ef]
  rw [e]; rfl
theorem Fh {s : Nat} {n : Int} {c d : Cb} (h : imp s n d) (hr : d9 c.m c.v n = true) (hh : iW d c = true) : imp s n c := by
 rw [fT] at h ⊢
 refine ⟨hr, fun p hp hc => h.2 p hp ?_⟩
 exact lc (dU.1 h.1).2.2.2 hh hc
theorem EW {c d : Cb} {i : Nat} (hi : i < 8) (h : iW c d = true) : iW (iT c i) (iT d i) = true := by
 rw [lZ] at h ⊢
 intro j hj
 have hj' : (jA c.m (i : Int)).testBit j = true := hj
 rw [eZ hi, Bool.and_eq_true] at hj'
 obtain ⟨h1, h2⟩ := h j hj'.1
 have hm : (iT d i).m.testBit j = true := by
  show (jA d.m (i : Int)).testBit j = true
  rw [eZ hi, h1, hj'.2]; rfl
 refine ⟨hm, ?_⟩
 show (c.v &&& jA c.m (i : Int)).testBit j = (d.v &&& jA d.m (i : Int)).testBit j
 rw [Nat.testBit_and, Nat.testBit_and, eZ hi, eZ hi, h1, hj'.1, hj'.2, h2]
theorem AS {s : Nat} {n : Int} {c : Cb} (h : imp s n c) : ∀ i : Nat, (i : Int) ≤ n → imp s n (eU s n c i) ∧ iW (eU s n c i) c = true ∧ ∀ j, j < i → (eU s n c i).m.testBit j = true → ¬ imp s n (iT (eU s n c i) j)
 | 0, _ => ⟨h, CH c, fun j hj => absurd hj (Nat.not_lt_zero j)⟩
 | i + 1, hi => by
  obtain ⟨h1, h2, h3⟩ := AS h i (by omega)
  obtain ⟨h0, h8, _, _⟩ := dU.1 (fT.1 h).1
  by_cases hw : imp s n (iT (eU s n c i) i)
  ·have e : eU s n c (i + 1) = iT (eU s n c i) i := vL hw
   rw [e]
   have hho : iW (iT (eU s n c i) i) (eU s n c i) = true := Il (by omega)
   refine ⟨hw, AE hho h2, fun j hj hm => ?_⟩
   have hm' : (jA (eU s n c i).m (i : Int)).testBit j = true := hm
   rw [eZ (by omega), Bool.and_eq_true, decide_eq_true_eq] at hm'
   intro hn
   refine h3 j (by omega) hm'.1 (Fh hn (zA (fT.1 h1).1) (EW (by omega) hho))
  ·have e : eU s n c (i + 1) = eU s n c i := uX (Bool.eq_false_iff.2 hw)
   rw [e]
   refine ⟨h1, h2, fun j hj hm => ?_⟩
   rcases Nat.lt_succ_iff_lt_or_eq.1 hj with hj | rfl
   ·exact h3 j hj hm
   ·exact hw
theorem qR {s : Nat} {n : Int} {c : Cb} (h : imp s n c) : gF (jo s n c).m (jo s n c).v s n = true ∧ iW (jo s n c) c = true := by
 obtain ⟨h0, h8, _, _⟩ := dU.1 (fT.1 h).1
 obtain ⟨h1, h2, h3⟩ := AS h n.toNat (by omega)
 refine ⟨fW.2 ⟨h1, fun i hi => ?_⟩, h2⟩
 unfold ku
 rw [Bool.and_eq_false_iff]
 by_cases hm : (jo s n c).m.testBit i = true
 ·exact .inr (Bool.eq_false_iff.2 (h3 i hi hm))
 ·exact .inl (Bool.eq_false_iff.2 hm)
def iG (s : Nat) (n : Int) (l : List Cb) : Nat → List Cb
 | 0 => []
 | k + 1 => ir (iG s n l k) (jo s n (l.getD k ⟨0, 0⟩))
abbrev Bp (s : Nat) (n : Int) (l : List Cb) : List Cb := iG s n l l.length
theorem oI (s : Nat) (n : Int) (l : List Cb) : ∀ k, (iG s n l k).length ≤ k
 | 0 => by simp [iG]
 | k + 1 => Nat.le_trans (oR _ _) (by have := oI s n l k; omega)
theorem pu {s : Nat} {n : Int} {l : List Cb} {c : Cb} : ∀ k, c ∈ iG s n l k ↔ ∃ j, j < k ∧ c = jo s n (l.getD j ⟨0, 0⟩)
 | 0 => by simp [iG]
 | k + 1 => by
  rw [iG, gf, pu k]
  constructor
  ·rintro (⟨j, hj, h⟩ | h)
   ·exact ⟨j, by omega, h⟩
   ·exact ⟨k, by omega, h⟩
  ·rintro ⟨j, hj, h⟩
   rcases Nat.lt_succ_iff_lt_or_eq.1 hj with hj | rfl
   ·exact .inl ⟨j, hj, h⟩
   ·exact .inr h
end
section
open Go Go.RowKit
def OU (f : Nat → Bool) (k : Nat) : List Bool := (List.range 256).map fun p => decide (p < k) && f p
theorem dg (f : Nat → Bool) (k : Nat) : (OU f k).length = 256 := by simp [OU]
theorem C4 {α : Type} {enc : α → List Value} {sz : Nat} {T : TypeId} {ok : Bool} {e1 : Int} {L : List α} {v : Value} {w' : World} {N : Nat} (h : if ok = true then ∃ x, v = .tuple #[x, .int .i64 0] ∧ dh enc sz T w' N x L else v = .tuple #[.slice none 0 0, .int .i64 e1]) :
  ∃ (x : Value) (er : Int) (l : List α), v = .tuple #[x, .int .i64 er] ∧ dh enc sz T w' N x l ∧ ((ok = true ∧ er = 0 ∧ l = L) ∨ (ok = false ∧ er = e1 ∧ l = [])) := by
 by_cases ho : ok = true
 ·rw [if_pos ho] at h
  obtain ⟨x, h1, h2⟩ := h
  exact ⟨x, 0, _, h1, h2, .inl ⟨ho, rfl, rfl⟩⟩
 ·rw [if_neg ho] at h
  exact ⟨_, e1, [], h, dh.nil, .inr ⟨by simpa using ho, rfl, rfl⟩⟩
def w6 (on may : Nat) (n : Int) : Bool := tK may n && ee on may
theorem jy {on may : Nat} {n : Int} : w6 on may n = true ↔ tK may n = true ∧ ee on may = true := by unfold w6; rw [Bool.and_eq_true]
theorem Kz {on may sa : Nat} {n er : Int} (h : (0 ≤ n ∧ n ≤ 8 ∧ sa = fh n.toNat ∧ er = 0) ∨ (¬ (0 ≤ n ∧ n ≤ 8) ∧ er = 1)) (h0 : ¬ er = 0) : ¬ w6 on may n = true := fun hk => D3 h h0 (jy.1 hk).1
theorem KA {on may : Nat} {n : Int} (h : (!ee on may) = true) : ¬ w6 on may n = true := fun hk => by
 rw [(jy.1 hk).2] at h; cases h
theorem Kr {on may sa : Nat} {n er : Int} (h : (0 ≤ n ∧ n ≤ 8 ∧ sa = fh n.toNat ∧ er = 0) ∨ (¬ (0 ≤ n ∧ n ≤ 8) ∧ er = 1)) (h0 : ¬ ¬ er = 0) (hw : (!ee may sa) = true) : ¬ w6 on may n = true := fun hk => DN h h0 hw (jy.1 hk).1
theorem MW {on may sa : Nat} {n er : Int} (h : (0 ≤ n ∧ n ≤ 8 ∧ sa = fh n.toNat ∧ er = 0) ∨ (¬ (0 ≤ n ∧ n ≤ 8) ∧ er = 1)) (h0 : ¬ ¬ er = 0) (h1 : (!ee on may) = false) (hw : (!ee may sa) = false) : w6 on may n = true :=
 jy.2 ⟨Hl h h0 hw, by simpa using h1⟩
theorem yN {on may : Nat} {n : Nat} (h : w6 on may (n : Int) = true) : n ≤ 8 ∧ mz n on may 0 := by
 obtain ⟨h1, h2⟩ := jy.1 h
 obtain ⟨h0, h8⟩ := jM h1
 have hw : ee may (fh n) = true := by
  unfold tK at h1
  rw [decide_eq_true h0, decide_eq_true h8] at h1
  simpa using h1
 refine ⟨by omega, Eu (d4.1 h2) fun p hp hm => ?_⟩
 have := d4.1 hw p hp hm
 rw [fL] at this
 simpa using this
abbrev iU (on may : Nat) (n : Int) : List Cb := eD n.toNat (n.toNat + 1) on may 0
theorem MV {n : Nat} (h : n ≤ 8) : 3 ^ (n + 1) ≤ 19683 := by
 have : 3 ^ (n + 1) ≤ 3 ^ 9 := Nat.pow_le_pow_right (by decide) (by omega)
 simpa using this
theorem zt {on may : Nat} {n : Int} (h : n ≤ 8) : (iU on may n).length ≤ 19683 := Nat.le_trans (iC _ _ _ _) (MV (by omega))
theorem t0 {on may : Nat} {n : Int} (h : w6 on may n = true) {c : Cb} (hc : c ∈ iU on may n) : oy c.m c.v may n = true ∧ c.m < 256 ∧ c.v < 256 ∧ c.v &&& c.m = c.v := by
 obtain ⟨h0, h8⟩ := jM (jy.1 h).1
 obtain ⟨n, rfl⟩ := Int.eq_ofNat_of_zero_le h0
 obtain ⟨h8', hg⟩ := yN h
 obtain ⟨k1, k2, k3, k4⟩ := (kr h8' (n + 1) on may 0 hg (by omega)).1 c hc
 have hp := fO h8'
 have hle : c.v ≤ c.m := by rw [← k2]; exact Nat.and_le_right
 refine ⟨fT.2 ⟨dU.2 ⟨h0, h8, k1, k2⟩, fun p hp hh => k4 p hp hh⟩, by omega, by omega, k2⟩
theorem pm {α : Type} [DecidableEq α] {l : List α} {k : α} (h : k ∈ l) : ir l k = l := if_pos h
theorem vz {α : Type} [DecidableEq α] {l : List α} {k : α} (h : k ∉ l) : ir l k = l ++ [k] := if_neg h
theorem MH {ok : Bool} {er : Int} {l L : List Cb} (h : (ok = true ∧ er = 0 ∧ l = L) ∨ (ok = false ∧ er = 1 ∧ l = [])) (h0 : ¬ er = 0) : ¬ ok = true ∧ er = 1 := by
 rcases h with ⟨_, h2, _⟩ | ⟨h1, h2, _⟩
 ·exact absurd h2 h0
 ·exact ⟨by rw [h1]; decide, h2⟩
theorem GX {ok : Bool} {er : Int} {l L : List Cb} (h : (ok = true ∧ er = 0 ∧ l = L) ∨ (ok = false ∧ er = 1 ∧ l = [])) (h0 : ¬ ¬ er = 0) : ok = true ∧ l = L := by
 rcases h with ⟨h1, _, h2⟩ | ⟨_, h2, _⟩
 ·exact ⟨h1, h2⟩
 ·exact absurd (fun e => by rw [h2] at e; cases e) h0
end
section
open Go Go.RowKit
structure Sp where
 n : Int
 on : List Nat
 may : List Nat
def Bk (S : Sp) (k : Nat) : Nat := S.on.getD k 0
def jm (S : Sp) (k : Nat) : Nat := S.may.getD k 0
def dJ (S : Sp) : Bool :=
 decide (0 ≤ S.n) && (decide (S.n ≤ 8) && (decide (1 ≤ S.on.length) && (decide (S.on.length ≤ 4) && (decide (S.on.length = S.may.length) &&
  (List.range S.on.length).all fun k => ee (Bk S k) (jm S k) && ee (jm S k) (fh S.n.toNat)))))
theorem dY {S : Sp} : dJ S = true ↔ 0 ≤ S.n ∧ S.n ≤ 8 ∧ 1 ≤ S.on.length ∧ S.on.length ≤ 4 ∧ S.on.length = S.may.length ∧ ∀ k, k < S.on.length → ee (Bk S k) (jm S k) = true ∧ ee (jm S k) (fh S.n.toNat) = true := by
 unfold dJ
 simp only [Bool.and_eq_true, decide_eq_true_eq, List.all_eq_true, List.mem_range]
theorem lH {S : Sp} (h : ¬ (0 ≤ S.n ∧ S.n ≤ 8 ∧ 1 ≤ S.on.length ∧ S.on.length ≤ 4 ∧ S.on.length = S.may.length)) : Value.bool false = .bool (dJ S) :=
 congrArg Value.bool (Bool.eq_false_iff.2 fun hr => h (by
  obtain ⟨h1, h2, h3, h4, h5, _⟩ := dY.1 hr
  exact ⟨h1, h2, h3, h4, h5⟩)).symm
theorem tP {S : Sp} {k : Nat} (hk : k < S.on.length) (h : ¬ (ee (Bk S k) (jm S k) = true ∧ ee (jm S k) (fh S.n.toNat) = true)) : Value.bool false = .bool (dJ S) :=
 congrArg Value.bool (Bool.eq_false_iff.2 fun hr => h ((dY.1 hr).2.2.2.2.2 k hk)).symm
theorem C0 {S : Sp} (h : 0 ≤ S.n ∧ S.n ≤ 8 ∧ 1 ≤ S.on.length ∧ S.on.length ≤ 4 ∧ S.on.length = S.may.length) (hk : ∀ k, k < S.on.length → ee (Bk S k) (jm S k) = true ∧ ee (jm S k) (fh S.n.toNat) = true) : Value.bool true = .bool (dJ S) :=
 congrArg Value.bool (dY.2 ⟨h.1, h.2.1, h.2.2.1, h.2.2.2.1, h.2.2.2.2, hk⟩).symm
def kG (S : Sp) (c : Cb) : Nat → Nat
 | 0 => 0
 | k + 1 => if oy c.m c.v (jm S k) S.n = true then kG S c k ||| 1 * 2 ^ k else kG S c k
abbrev kq (S : Sp) (c : Cb) : Nat := kG S c S.may.length
theorem Gb {S : Sp} {c : Cb} {k : Nat} (h : oy c.m c.v (jm S k) S.n = true) : kG S c k ||| 1 * 2 ^ k = kG S c (k + 1) := (if_pos h).symm
theorem Hg {S : Sp} {c : Cb} {k : Nat} (h : oy c.m c.v (jm S k) S.n = false) : kG S c k = kG S c (k + 1) := (if_neg (by rw [h]; decide)).symm
theorem gt {S : Sp} {c : Cb} {j : Nat} : ∀ k, (kG S c k).testBit j = true ↔ j < k ∧ oy c.m c.v (jm S j) S.n = true
 | 0 => by simp [kG]
 | k + 1 => by
  rw [kG]
  split
  ·rename_i h
   rw [Nat.one_mul, Nat.testBit_or, Nat.testBit_two_pow, Bool.or_eq_true, gt k, decide_eq_true_eq]
   constructor
   ·rintro (⟨h1, h2⟩ | rfl)
    ·exact ⟨by omega, h2⟩
    ·exact ⟨by omega, h⟩
   ·rintro ⟨h1, h2⟩
    rcases Nat.lt_succ_iff_lt_or_eq.1 h1 with h1 | h1
    ·exact .inl ⟨h1, h2⟩
    ·exact .inr h1.symm
  ·rename_i h
   rw [gt k]
   constructor
   ·rintro ⟨h1, h2⟩; exact ⟨by omega, h2⟩
   ·rintro ⟨h1, h2⟩
    rcases Nat.lt_succ_iff_lt_or_eq.1 h1 with h1 | rfl
    ·exact ⟨h1, h2⟩
    ·exact absurd h2 h
theorem pV (S : Sp) (c : Cb) (k : Nat) : kG S c k < 2 ^ k := gw.2 fun j hj => Bool.eq_false_iff.2 fun h => by
 have := ((gt k).1 h).1
 omega
theorem Fc {k : Nat} (h : k ≤ 4) : 2 ^ k ≤ 16 := by
 have h2 : 2 ^ k ≤ 2 ^ 4 := Nat.pow_le_pow_right (by decide) h
 simpa using h2
def pk (S : Sp) (x : Rw) : Bool := dJ S && (decide (0 < x.o) && decide (andNot x.o (kq S x.c) = 0))
theorem uu {a b : Nat} : andNot a b = 0 ↔ ∀ j, a.testBit j = true → b.testBit j = true := by
 constructor
 ·intro h j hj
  have h2 := congrArg (fun x => x.testBit j) h
  simp only [ea, Nat.zero_testBit, hj, Bool.true_and] at h2
  simpa using h2
 ·intro h
  refine Nat.eq_of_testBit_eq fun j => ?_
  rw [ea, Nat.zero_testBit]
  cases ha : a.testBit j with
  | false => rfl
  | true => rw [h j ha]; rfl
theorem gp {S : Sp} {x : Rw} : pk S x = true ↔ dJ S = true ∧ 0 < x.o ∧ ∀ j, x.o.testBit j = true → j < S.may.length ∧ oy x.c.m x.c.v (jm S j) S.n = true := by
 unfold pk
 rw [Bool.and_eq_true, Bool.and_eq_true, decide_eq_true_eq, decide_eq_true_eq, uu]
 simp only [gt]
theorem nO {S : Sp} {x : Rw} (h : pk S x = true) : x.o < 2 ^ S.may.length ∧ x.o < 16 := by
 obtain ⟨h1, _, h3⟩ := gp.1 h
 obtain ⟨_, _, _, h4, h5, _⟩ := dY.1 h1
 have : x.o < 2 ^ S.may.length := gw.2 fun j hj => Bool.eq_false_iff.2 fun hb => by have := (h3 j hb).1; omega
 have := Fc (k := S.may.length) (by omega)
 omega
theorem qJ {a : Nat} (h : 0 < a) : ∃ j, a.testBit j = true := Classical.byContradiction fun hn => by
 have : a = 0 := Nat.eq_of_testBit_eq fun j => by rw [Nat.zero_testBit]; exact Bool.eq_false_iff.2 fun hb => hn ⟨j, hb⟩
 omega
theorem yR {a j : Nat} (h : a.testBit j = true) : 0 < a := Nat.pos_of_ne_zero fun e => by
 rw [e, Nat.zero_testBit] at h; cases h
theorem gj {S : Sp} {x : Rw} (h : pk S x = true) : d9 x.c.m x.c.v S.n = true := by
 obtain ⟨_, h2, h3⟩ := gp.1 h
 obtain ⟨j, hj⟩ := qJ h2
 exact sA (h3 j hj).2
def qz (a b : Rw) : Bool := iW a.c b.c && decide (andNot b.o a.o = 0)
theorem nU {a b : Rw} : qz a b = true ↔ iW a.c b.c = true ∧ ∀ j, b.o.testBit j = true → a.o.testBit j = true := by
 unfold qz
 rw [Bool.and_eq_true, decide_eq_true_eq, uu]
def kx (S : Sp) (o : Nat) : Nat → Nat
 | 0 => fh S.n.toNat
 | k + 1 => if o.testBit k = true then kx S o k &&& jm S k else kx S o k
abbrev fQ (S : Sp) (o : Nat) : Nat := kx S o S.may.length
theorem Et {S : Sp} {o k : Nat} (h : o.testBit k = true) : kx S o k &&& jm S k = kx S o (k + 1) := (if_pos h).symm
theorem Dp {S : Sp} {o k : Nat} (h : ¬ o.testBit k = true) : kx S o k = kx S o (k + 1) := (if_neg h).symm
theorem ie {S : Sp} {o p : Nat} : ∀ k, (kx S o k).testBit p = true ↔ p < 2 ^ S.n.toNat ∧ ∀ j, j < k → o.testBit j = true → (jm S j).testBit p = true
 | 0 => by simp [kx, fL]
 | k + 1 => by
  rw [kx]
  split
  ·rename_i h
   rw [Nat.testBit_and, Bool.and_eq_true, ie k]
   constructor
   ·rintro ⟨⟨h1, h2⟩, h3⟩
    refine ⟨h1, fun j hj ho => ?_⟩
    rcases Nat.lt_succ_iff_lt_or_eq.1 hj with hj | rfl
    ·exact h2 j hj ho
    ·exact h3
   ·rintro ⟨h1, h2⟩
    exact ⟨⟨h1, fun j hj ho => h2 j (by omega) ho⟩, h2 k (by omega) h⟩
  ·rename_i h
   rw [ie k]
   constructor
   ·rintro ⟨h1, h2⟩
    refine ⟨h1, fun j hj ho => ?_⟩
    rcases Nat.lt_succ_iff_lt_or_eq.1 hj with hj | rfl
    ·exact h2 j hj ho
    ·exact absurd ho h
   ·rintro ⟨h1, h2⟩
    exact ⟨h1, fun j hj ho => h2 j (by omega) ho⟩
theorem H6 {S : Sp} (hr : dJ S = true) (o : Nat) : tK (fQ S o) S.n = true := by
 obtain ⟨h0, h8, _⟩ := dY.1 hr
 unfold tK
 rw [decide_eq_true h0, decide_eq_true h8, Bool.true_and, Bool.true_and, d4]
 intro p _ h
 rw [fL]
 simpa using ((ie _).1 h).1
theorem sD {S : Sp} {c : Cb} {o : Nat} : oy c.m c.v (fQ S o) S.n = true ↔ d9 c.m c.v S.n = true ∧ ∀ j, j < S.may.length → o.testBit j = true → oy c.m c.v (jm S j) S.n = true := by
 have e1 := fT (s := fQ S o) (n := S.n) (c := c)
 have e2 := fun j => fT (s := jm S j) (n := S.n) (c := c)
 unfold imp at e1 e2
 rw [e1]
 constructor
 ·rintro ⟨h1, h2⟩
  exact ⟨h1, fun j hj ho => (e2 j).2 ⟨h1, fun p hp hc => ((ie _).1 (h2 p hp hc)).2 j hj ho⟩⟩
 ·rintro ⟨h1, h2⟩
  exact ⟨h1, fun p hp hc => (ie _).2 ⟨hp, fun j hj ho => ((e2 j).1 (h2 j hj ho)).2 p hp hc⟩⟩
theorem jz {S : Sp} {x : Rw} : pk S x = true ↔ dJ S = true ∧ 0 < x.o ∧ x.o < 2 ^ S.may.length ∧ oy x.c.m x.c.v (fQ S x.o) S.n = true := by
 constructor
 ·intro h
  obtain ⟨h1, h2, h3⟩ := gp.1 h
  exact ⟨h1, h2, (nO h).1, sD.2 ⟨gj h, fun j _ hj => (h3 j hj).2⟩⟩
 ·rintro ⟨h1, h2, h3, h4⟩
  refine gp.2 ⟨h1, h2, fun j hj => ?_⟩
  have hlt : j < S.may.length := Classical.byContradiction fun hn => by
   rw [gw.1 h3 j (by omega)] at hj; cases hj
  exact ⟨hlt, (sD.1 h4).2 j hlt hj⟩
def se (S : Sp) (x : Rw) : Nat → List Cb
 | 0 => []
 | k + 1 => if ¬ iT x.c k = x.c ∧ pk S ⟨iT x.c k, x.o⟩ = true then se S x k ++ [iT x.c k] else se S x k
theorem xc {S : Sp} {x : Rw} : ∀ k, (se S x k).length = 0 ↔ ∀ i, i < k → ¬ (¬ iT x.c i = x.c ∧ pk S ⟨iT x.c i, x.o⟩ = true)
 | 0 => by simp [se]
 | k + 1 => by
  have ih := xc (S := S) (x := x) k
  rw [se]
  split
  ·rename_i h
   simp only [List.length_append, List.length_cons, List.length_nil]
   constructor
   ·intro h2; omega
   ·intro h2; exact absurd h (h2 k (by omega))
  ·rename_i h
   rw [ih]
   constructor
   ·intro h2 i hi
    rcases Nat.lt_succ_iff_lt_or_eq.1 hi with hi | rfl
    ·exact h2 i hi
    ·exact h
   ·intro h2 i hi; exact h2 i (by omega)
def nD (S : Sp) (x : Rw) : Bool := pk S x && (decide (kq S x.c = x.o) && decide ((se S x S.n.toNat).length = 0))
theorem Dh {c : Cb} {i : Nat} (hi : i < 8) (hv : c.v &&& c.m = c.v) : iT c i = c ↔ c.m.testBit i = false := by
 have hw := fun j => eZ (m := c.m) hi j
 constructor
 ·intro h
  have h1 : jA c.m (i : Int) = c.m := congrArg Cb.m h
  have := hw i
  rw [h1] at this
  cases hb : c.m.testBit i with
  | false => rfl
  | true => rw [hb] at this; simp at this
 ·intro h
  have h1 : jA c.m (i : Int) = c.m := Nat.eq_of_testBit_eq fun j => by
   rw [hw]
   by_cases e : j = i
   ·subst e; rw [h]; rfl
   ·simp [e]
  unfold iT
  rw [h1, hv]
theorem fx {S : Sp} {x : Rw} : nD S x = true ↔ pk S x = true ∧ kq S x.c = x.o ∧ gF x.c.m x.c.v (fQ S x.o) S.n = true := by
 unfold nD
 rw [Bool.and_eq_true, Bool.and_eq_true, decide_eq_true_eq, decide_eq_true_eq, xc]
 constructor
 ·rintro ⟨h1, h2, h3⟩
  refine ⟨h1, h2, fW.2 ⟨(jz.1 h1).2.2.2, fun i hi => Bool.eq_false_iff.2 fun hs => ?_⟩⟩
  obtain ⟨h0, h8, hm, hv⟩ := dU.1 (gj h1)
  unfold ku at hs
  rw [Bool.and_eq_true] at hs
  refine h3 i hi ⟨fun he => ?_, jz.2 ⟨(jz.1 h1).1, (jz.1 h1).2.1, (jz.1 h1).2.2.1, hs.2⟩⟩
  rw [(Dh (by omega) hv).1 he] at hs
  cases hs.1
 ·rintro ⟨h1, h2, h3⟩
  refine ⟨h1, h2, fun i hi ⟨g1, g2⟩ => ?_⟩
  obtain ⟨h0, h8, hm, hv⟩ := dU.1 (gj h1)
  have hs := (fW.1 h3).2 i hi
  unfold ku at hs
  have hb : x.c.m.testBit i = true := Classical.byContradiction fun hn => g1 ((Dh (by omega) hv).2 (Bool.eq_false_iff.2 hn))
  have hw : oy (jA x.c.m (i : Int)) (x.c.v &&& jA x.c.m (i : Int)) (fQ S x.o) S.n = true := (jz.1 g2).2.2.2
  rw [hb, hw] at hs
  cases hs
def eh (S : Sp) (x : Rw) : Nat → Cb
 | 0 => x.c
 | i + 1 => if pk S ⟨iT (eh S x i) i, x.o⟩ = true then iT (eh S x i) i else eh S x i
def sW (S : Sp) (x : Rw) : Rw := ⟨eh S x S.n.toNat, kq S (eh S x S.n.toNat)⟩
theorem tB {S : Sp} {x : Rw} {i : Nat} (h : pk S ⟨iT (eh S x i) i, x.o⟩ = true) : iT (eh S x i) i = eh S x (i + 1) := (if_pos h).symm
theorem t7 {S : Sp} {x : Rw} {i : Nat} (h : pk S ⟨iT (eh S x i) i, x.o⟩ = false) : eh S x i = eh S x (i + 1) := (if_neg (by rw [h]; decide)).symm
theorem xI {S : Sp} {x : Rw} (h : pk S x = true) : ∀ i, eh S x i = eU (fQ S x.o) S.n x.c i
 | 0 => rfl
 | i + 1 => by
  have ih := xI h i
  obtain ⟨h1, h2, h3, _⟩ := jz.1 h
  have e : pk S ⟨iT (eU (fQ S x.o) S.n x.c i) i, x.o⟩ = oy (iT (eU (fQ S x.o) S.n x.c i) i).m (iT (eU (fQ S x.o) S.n x.c i) i).v (fQ S x.o) S.n := by
   rw [Bool.eq_iff_iff]
   exact ⟨fun k => (jz.1 k).2.2.2, fun k => jz.2 ⟨h1, h2, h3, k⟩⟩
  rw [eh, ih, e]
  rfl
theorem rk {S : Sp} {x : Rw} (h : x.c.m < 256 ∧ x.c.v < 256) : ∀ i, (eh S x i).m < 256 ∧ (eh S x i).v < 256
 | 0 => h
 | i + 1 => by
  have ih := rk (S := S) h i
  rw [eh]
  split
  ·exact ⟨Nat.lt_of_le_of_lt (uA _ _) ih.1, Nat.lt_of_le_of_lt Nat.and_le_left ih.2⟩
  ·exact ih
theorem mO {S : Sp} {x : Rw} (h : pk S x = true) : nD S (sW S x) = true ∧ qz (sW S x) x = true := by
 obtain ⟨h1, h2, h3, h4⟩ := jz.1 h
 have hg := qR (s := fQ S x.o) (n := S.n) (c := x.c) h4
 have e : eh S x S.n.toNat = jo (fQ S x.o) S.n x.c := xI h S.n.toNat
 have hsub : ∀ j, x.o.testBit j = true → (kq S (eh S x S.n.toNat)).testBit j = true := fun j hj => by
  have hlt : j < S.may.length := Classical.byContradiction fun hn => by
   rw [gw.1 h3 j (by omega)] at hj; cases hj
  rw [gt, e]
  exact ⟨hlt, (sD.1 (fW.1 hg.1).1).2 j hlt hj⟩
 have hin : pk S (sW S x) = true := gp.2 ⟨h1, (qJ h2).elim fun j hj => yR (hsub j hj), fun j hj => (gt _).1 hj⟩
 refine ⟨fx.2 ⟨hin, rfl, fW.2 ⟨(jz.1 hin).2.2.2, fun i hi => Bool.eq_false_iff.2 fun hs => ?_⟩⟩, nU.2 ⟨by show iW (eh S x S.n.toNat) x.c = true; rw [e]; exact hg.2, hsub⟩⟩
 unfold ku at hs
 rw [Bool.and_eq_true] at hs
 have hk := (fW.1 hg.1).2 i hi
 unfold ku at hk
 rw [← e] at hk
 have hw : oy (jA (eh S x S.n.toNat).m (i : Int)) ((eh S x S.n.toNat).v &&& jA (eh S x S.n.toNat).m (i : Int)) (fQ S x.o) S.n = true := by
  have := (sD (S := S) (c := iT (eh S x S.n.toNat) i) (o := kq S (eh S x S.n.toNat))).1 hs.2
  exact (sD (S := S) (c := iT (eh S x S.n.toNat) i) (o := x.o)).2 ⟨this.1, fun j hj ho => this.2 j hj (hsub j ho)⟩
 have hb : (eh S x S.n.toNat).m.testBit i = true := hs.1
 rw [hb, hw] at hk
 cases hk
def ze (a b : Rw) : Bool := decide (a.o < b.o) || (decide (a.o = b.o) && uM a.c b.c)
theorem pN {a b : Rw} : ze a b = true ↔ a.o < b.o ∨ a.o = b.o ∧ (a.c.m < b.c.m ∨ a.c.m = b.c.m ∧ a.c.v < b.c.v) := by
 unfold ze
 rw [Bool.or_eq_true, Bool.and_eq_true, decide_eq_true_eq, decide_eq_true_eq, kl]
def pI (l : List Rw) : Prop := l.Pairwise fun a b => ze a b = true
theorem uK (a : Rw) : ze a a = false := Bool.eq_false_iff.2 fun h => by rw [pN] at h; omega
theorem Fq {a b c : Rw} (h : ze a b = true) (k : ze b c = true) : ze a c = true := by
 rw [pN] at *; omega
def iH (S : Sp) (o : Nat) : Nat → List Rw
 | 0 => []
 | k + 1 => if kq S ((ex (fQ S o) S.n).getD k ⟨0, 0⟩) = o then iH S o k ++ [⟨(ex (fQ S o) S.n).getD k ⟨0, 0⟩, o⟩] else iH S o k
abbrev xu (S : Sp) (o : Nat) : List Rw := iH S o (ex (fQ S o) S.n).length
def i5 (S : Sp) : Nat → List Rw
 | 0 => []
 | o + 1 => if o = 0 then [] else i5 S o ++ xu S o
abbrev eL (S : Sp) : List Rw := i5 S (2 ^ S.may.length)
theorem zH {S : Sp} {o k : Nat} (h : kq S ((ex (fQ S o) S.n).getD k ⟨0, 0⟩) = o) : iH S o k ++ [⟨(ex (fQ S o) S.n).getD k ⟨0, 0⟩, o⟩] = iH S o (k + 1) := (if_pos h).symm
theorem Bb {S : Sp} {o k : Nat} (h : ¬ kq S ((ex (fQ S o) S.n).getD k ⟨0, 0⟩) = o) : iH S o k = iH S o (k + 1) := (if_neg h).symm
theorem ul {S : Sp} {o : Nat} (h : 0 < o) : i5 S o ++ xu S o = i5 S (o + 1) := (if_neg (by omega)).symm
theorem nT (S : Sp) (o : Nat) : ∀ k, (iH S o k).length ≤ k
 | 0 => by simp [iH]
 | k + 1 => by
  have := nT S o k
  rw [iH]
  split <;> simp <;> omega
theorem sk {S : Sp} (h8 : S.n ≤ 8) : ∀ o, (i5 S o).length ≤ o * 65536
 | 0 => by simp [i5]
 | o + 1 => by
  have ih := sk h8 o
  have h1 := nT S o (ex (fQ S o) S.n).length
  have h2 := sX (s := fQ S o) h8
  rw [i5]
  split
  ·simp
  ·simp only [List.length_append]; show (i5 S o).length + (iH S o (ex (fQ S o) S.n).length).length ≤ _; omega
theorem lX {S : Sp} {o : Nat} {x : Rw} : ∀ k, x ∈ iH S o k ↔ ∃ j, j < k ∧ x = ⟨(ex (fQ S o) S.n).getD j ⟨0, 0⟩, o⟩ ∧ kq S x.c = o
 | 0 => by simp [iH]
 | k + 1 => by
  rw [iH]
  split
  ·rename_i h
   rw [List.mem_append, List.mem_singleton, lX k]
   constructor
   ·rintro (⟨j, hj, r⟩ | rfl)
    ·exact ⟨j, by omega, r⟩
    ·exact ⟨k, by omega, rfl, h⟩
   ·rintro ⟨j, hj, r, r2⟩
    rcases Nat.lt_succ_iff_lt_or_eq.1 hj with hj | rfl
    ·exact .inl ⟨j, hj, r, r2⟩
    ·exact .inr r
  ·rename_i h
   rw [lX k]
   constructor
   ·rintro ⟨j, hj, r⟩; exact ⟨j, by omega, r⟩
   ·rintro ⟨j, hj, r, r2⟩
    rcases Nat.lt_succ_iff_lt_or_eq.1 hj with hj | rfl
    ·exact ⟨j, hj, r, r2⟩
    ·subst r; exact absurd r2 h
theorem Fp {S : Sp} {o : Nat} {x : Rw} (hr : dJ S = true) (h0 : 0 < o) (ho : o < 2 ^ S.may.length) : x ∈ xu S o ↔ nD S x = true ∧ x.o = o := by
 unfold xu
 rw [lX]
 constructor
 ·rintro ⟨j, hj, rfl, h2⟩
  have hp := mC.1 (dS (d := ⟨0, 0⟩) hj)
  have hin : pk S ⟨(ex (fQ S o) S.n).getD j ⟨0, 0⟩, o⟩ = true := jz.2 ⟨hr, h0, ho, (fW.1 hp).1⟩
  exact ⟨fx.2 ⟨hin, h2, hp⟩, rfl⟩
 ·rintro ⟨h1, rfl⟩
  obtain ⟨g1, g2, g3⟩ := fx.1 h1
  obtain ⟨j, hj, he⟩ := fk (d := ⟨0, 0⟩) (mC.2 g3)
  have he' : (ex (fQ S x.o) S.n).getD j ⟨0, 0⟩ = x.c := he
  exact ⟨j, hj, by rw [he'], g2⟩
theorem xG {S : Sp} {x : Rw} (hr : dJ S = true) : ∀ o, o ≤ 2 ^ S.may.length → (x ∈ i5 S o ↔ nD S x = true ∧ x.o < o)
 | 0, _ => by simp [i5]
 | o + 1, ho => by
  rw [i5]
  split
  ·rename_i h
   subst h
   constructor
   ·intro h; cases h
   ·rintro ⟨h1, h2⟩
    have := (gp.1 (fx.1 h1).1).2.1
    omega
  ·rename_i h
   rw [List.mem_append, xG hr o (by omega), Fp hr (by omega) (by omega)]
   constructor
   ·rintro (⟨h1, h2⟩ | ⟨h1, h2⟩)
    ·exact ⟨h1, by omega⟩
    ·exact ⟨h1, by omega⟩
   ·rintro ⟨h1, h2⟩
    rcases Nat.lt_succ_iff_lt_or_eq.1 h2 with h2 | h2
    ·exact .inl ⟨h1, h2⟩
    ·exact .inr ⟨h1, h2⟩
theorem nq {S : Sp} {x : Rw} (hr : dJ S = true) : x ∈ eL S ↔ nD S x = true := by
 rw [xG hr _ (Nat.le_refl _)]
 exact ⟨fun h => h.1, fun h => ⟨h, (nO (fx.1 h).1).1⟩⟩
theorem BM {l : List Cb} (h : iF l) {i j : Nat} (hij : i < j) (hj : j < l.length) : uM (l.getD i ⟨0, 0⟩) (l.getD j ⟨0, 0⟩) = true := by
 have := List.pairwise_iff_getElem.1 h i j (by omega) hj hij
 simpa [List.getD_eq_getElem?_getD, List.getElem?_eq_getElem hj, List.getElem?_eq_getElem (show i < l.length by omega)] using this
theorem qn (S : Sp) (o : Nat) : ∀ k, k ≤ (ex (fQ S o) S.n).length → pI (iH S o k)
 | 0, _ => by simp [iH, pI]
 | k + 1, hk => by
  have ih := qn S o k (by omega)
  rw [iH]
  split
  ·refine List.pairwise_append.2 ⟨ih, by simp, fun a ha b hb => ?_⟩
   rw [List.mem_singleton] at hb
   subst hb
   obtain ⟨j, hj, rfl, _⟩ := (lX k).1 ha
   have := BM (oE (fQ S o) S.n) hj (by omega)
   unfold ze
   rw [this]
   simp
  ·exact ih
theorem D8 {S : Sp} {o : Nat} {x : Rw} (h : x ∈ xu S o) : x.o = o := by
 obtain ⟨_, _, rfl, _⟩ := (lX _).1 h
 rfl
theorem Eo {S : Sp} {x : Rw} : ∀ o, x ∈ i5 S o → x.o < o
 | 0, h => by simp [i5] at h
 | o + 1, h => by
  rw [i5] at h
  split at h
  ·cases h
  ·rcases List.mem_append.1 h with h | h
   ·have := Eo o h; omega
   ·have := D8 h; omega
theorem nS (S : Sp) : ∀ o, pI (i5 S o)
 | 0 => by simp [i5, pI]
 | o + 1 => by
  have ih := nS S o
  rw [i5]
  split
  ·simp [pI]
  ·refine List.pairwise_append.2 ⟨ih, qn S o _ (Nat.le_refl _), fun a ha b hb => ?_⟩
   have h1 := Eo o ha
   have h2 := D8 hb
   rw [pN]
   omega
def nK (l : List Rw) (x : Rw) : Nat → Nat
 | 0 => 0
 | i + 1 => if ze x (l.getD i ⟨⟨0, 0⟩, 0⟩) = true then nK l x i else i + 1
def Fu (l : List Rw) (x : Rw) : List Rw := l.take (nK l x l.length) ++ x :: l.drop (nK l x l.length)
def fi (l : List Rw) : Nat → List Rw
 | 0 => []
 | k + 1 => Fu (fi l k) (l.getD k ⟨⟨0, 0⟩, 0⟩)
theorem DU (l : List Rw) (x : Rw) : ∀ k, nK l x k ≤ k
 | 0 => by simp [nK]
 | k + 1 => by
  have := DU l x k
  rw [nK]
  split <;> omega
theorem EY {l : List Rw} {x : Rw} {i : Nat} (h0 : 0 < i) (h : ze x (l.getD (i - 1) ⟨⟨0, 0⟩, 0⟩) = true) : nK l x i = nK l x (i - 1) := by
 obtain ⟨j, rfl⟩ : ∃ j, i = j + 1 := ⟨i - 1, by omega⟩
 rw [nK, if_pos (by simpa using h)]; rfl
theorem Ad {l : List Rw} {x : Rw} {i : Nat} (h : i = 0 ∨ ze x (l.getD (i - 1) ⟨⟨0, 0⟩, 0⟩) = false) : nK l x i = i := by
 rcases h with rfl | h
 ·rfl
 ·cases i with
  | zero => rfl
  | succ j => rw [nK, if_neg (by simp at h; simp [h])]
theorem Gi (l : List Rw) (x : Rw) : (Fu l x).length = l.length + 1 := by
 have := DU l x l.length
 simp [Fu]; omega
theorem nH (l : List Rw) : ∀ k, (fi l k).length = k
 | 0 => rfl
 | k + 1 => by rw [fi, Gi, nH l k]
theorem tm {l : List Rw} (h : pI l) : ∀ k, k ≤ l.length → fi l k = l.take k
 | 0, _ => rfl
 | k + 1, hk => by
  have ih := tm h k (by omega)
  have e : l.getD k ⟨⟨0, 0⟩, 0⟩ = l[k] := by simp [show k < l.length by omega]
  have hp : nK (l.take k) l[k] (l.take k).length = (l.take k).length := Ad (by
   by_cases h0 : (l.take k).length = 0
   ·exact .inl h0
   ·right
    have hl : (l.take k).length = k := by simp; omega
    rw [hl] at h0 ⊢
    have hlt := List.pairwise_iff_getElem.1 h (k - 1) k (by omega) (by omega) (by omega)
    have e2 : (l.take k).getD (k - 1) ⟨⟨0, 0⟩, 0⟩ = l[k - 1] := by
     simp [List.getD_eq_getElem?_getD, List.getElem?_take, show k - 1 < k by omega, List.getElem?_eq_getElem (show k - 1 < l.length by omega)]
    rw [e2]
    refine Bool.eq_false_iff.2 fun hb => ?_
    have := Fq hlt hb
    rw [uK] at this
    cases this)
  rw [fi, ih, e, Fu, hp, List.take_length, List.drop_length, List.take_succ_eq_append_getElem (by omega)]
theorem Fo (S : Sp) : fi (eL S) (eL S).length = eL S := by
 rw [tm (nS S _) _ (Nat.le_refl _), List.take_length]
def mj (l : List Rw) (n o : Nat) : Nat → Nat
 | 0 => 0
 | k + 1 => if (l.getD k ⟨⟨0, 0⟩, 0⟩).o.testBit o = true then mj l n o k ||| qg (l.getD k ⟨⟨0, 0⟩, 0⟩).c.m (l.getD k ⟨⟨0, 0⟩, 0⟩).c.v n else mj l n o k
theorem HO {l : List Rw} {n o k : Nat} (h : (l.getD k ⟨⟨0, 0⟩, 0⟩).o.testBit o = true) : mj l n o k ||| qg (l.getD k ⟨⟨0, 0⟩, 0⟩).c.m (l.getD k ⟨⟨0, 0⟩, 0⟩).c.v n = mj l n o (k + 1) := (if_pos h).symm
theorem Ik {l : List Rw} {n o k : Nat} (h : ¬ (l.getD k ⟨⟨0, 0⟩, 0⟩).o.testBit o = true) : mj l n o k = mj l n o (k + 1) := (if_neg h).symm
def MS (x : Rw) (o p : Nat) : Prop := x.o.testBit o = true ∧ hold x.c p
theorem jY {l : List Rw} {n o : Nat} (hn : n ≤ 8) (p : Nat) : ∀ k, k ≤ l.length → ((mj l n o k).testBit p = true ↔ p < 2 ^ n ∧ ∃ j, j < k ∧ MS (l.getD j ⟨⟨0, 0⟩, 0⟩) o p)
 | 0, _ => by simp [mj]
 | k + 1, hk => by
  have ih := jY (l := l) (o := o) hn p k (by omega)
  rw [mj]
  split
  ·rename_i h
   rw [Nat.testBit_or, Bool.or_eq_true, ih, jh hn, Bool.and_eq_true, decide_eq_true_eq, decide_eq_true_eq]
   constructor
   ·rintro (⟨h1, j, hj, r⟩ | ⟨h1, h2⟩)
    ·exact ⟨h1, j, by omega, r⟩
    ·exact ⟨h1, k, by omega, h, h2⟩
   ·rintro ⟨h1, j, hj, r⟩
    rcases Nat.lt_succ_iff_lt_or_eq.1 hj with hj | rfl
    ·exact .inl ⟨h1, j, hj, r⟩
    ·exact .inr ⟨h1, r.2⟩
  ·rename_i h
   rw [ih]
   constructor
   ·rintro ⟨h1, j, hj, r⟩; exact ⟨h1, j, by omega, r⟩
   ·rintro ⟨h1, j, hj, r⟩
    rcases Nat.lt_succ_iff_lt_or_eq.1 hj with hj | rfl
    ·exact ⟨h1, j, hj, r⟩
    ·exact absurd r.1 h
def Hs (S : Sp) (x : Rw) : Bool := d9 x.c.m x.c.v S.n && (decide (0 < x.o) && decide (x.o < 2 ^ S.on.length))
def pw (S : Sp) (l : List Rw) : Bool := l.all (Hs S)
def xP (S : Sp) (l : List Rw) (o : Nat) : Bool := ee (Bk S o) (mj l S.n.toNat o l.length) && ee (mj l S.n.toNat o l.length) (jm S o)
def ko (S : Sp) (l : List Rw) : Bool := dJ S && (pw S l && (List.range S.on.length).all (xP S l))
theorem iN {S : Sp} {l : List Rw} : ko S l = true ↔ dJ S = true ∧ pw S l = true ∧ ∀ o, o < S.on.length → xP S l o = true := by
 unfold ko
 rw [Bool.and_eq_true, Bool.and_eq_true, List.all_eq_true]
 simp only [List.mem_range]
theorem mv {S : Sp} {l : List Rw} : pw S l = true ↔ ∀ k, k < l.length → Hs S (l.getD k ⟨⟨0, 0⟩, 0⟩) = true := by
 unfold pw
 rw [List.all_eq_true]
 constructor
 ·intro h k hk; exact h _ (dS hk)
 ·intro h x hx
  obtain ⟨k, hk, rfl⟩ := fk (d := ⟨⟨0, 0⟩, 0⟩) hx
  exact h k hk
theorem ji {S : Sp} {x : Rw} : Hs S x = true ↔ d9 x.c.m x.c.v S.n = true ∧ 0 < x.o ∧ x.o < 2 ^ S.on.length := by
 unfold Hs
 rw [Bool.and_eq_true, Bool.and_eq_true, decide_eq_true_eq, decide_eq_true_eq]
end
section
open Go Go.RowKit
theorem jX {b : Bool} (h : (!b) = false) : b = true := by cases b <;> simp_all
theorem ja {b : Bool} (h : (!b) = true) : b = false := by cases b <;> simp_all
theorem EL {b : Bool} (h : b = true) : Value.bool true = .bool b := by rw [h]
theorem qh {b : Bool} (h : ¬ b = true) : Value.bool false = .bool b := by rw [Bool.eq_false_iff.2 h]
theorem uF {n er : Int} {sa : Nat} (h : (0 ≤ n ∧ n ≤ 8 ∧ sa = fh n.toNat ∧ er = 0) ∨ (¬ (0 ≤ n ∧ n ≤ 8) ∧ er = 1)) (h0 : ¬ ¬ er = 0) : 0 ≤ n ∧ n ≤ 8 ∧ sa = fh n.toNat := by
 rcases h with ⟨h1, h2, h3, _⟩ | ⟨_, h2⟩
 ·exact ⟨h1, h2, h3⟩
 ·omega
theorem MR {n er : Int} {sa : Nat} (h : (0 ≤ n ∧ n ≤ 8 ∧ sa = fh n.toNat ∧ er = 0) ∨ (¬ (0 ≤ n ∧ n ≤ 8) ∧ er = 1)) (h0 : ¬ er = 0) : ¬ (0 ≤ n ∧ n ≤ 8) := by
 rcases h with ⟨_, _, _, h2⟩ | ⟨h1, _⟩
 ·exact absurd h2 h0
 ·exact h1
theorem Hf {S : Sp} {m u o : Nat} (h1 : dJ S = true) (h2 : (0 : Int) < (o : Int)) : decide (((andNot o (kq S ⟨m, u⟩) : Nat) : Int) = 0) = pk S ⟨⟨m, u⟩, o⟩ := by
 unfold pk
 rw [h1, decide_eq_true (show 0 < o by omega), Bool.true_and, Bool.true_and, Bool.eq_iff_iff, decide_eq_true_eq, decide_eq_true_eq]
 exact Int.ofNat_inj
theorem FM {S : Sp} {m u o : Nat} (h2 : ¬ (0 : Int) < (o : Int)) : ¬ pk S ⟨⟨m, u⟩, o⟩ = true := fun hi => by
 have h3 : 0 < o := (gp.1 hi).2.1
 omega
theorem H4 {S : Sp} {x : Rw} (h2 : dJ S = false) : ¬ pk S x = true := fun hi => by
 have := (gp.1 hi).1
 rw [h2] at this; cases this
theorem Jp {a b k : Nat} (ha : a < 2 ^ k) : a + 2 ^ k = a ||| 2 ^ k := by
 have h := Nat.two_pow_add_eq_or_of_lt ha 1
 rw [Nat.mul_one] at h
 rw [Nat.add_comm, h, Nat.or_comm]
theorem Jo {a k : Nat} (h : a.testBit k = false) : a + 2 ^ k = a ||| 2 ^ k := by
 have e : a = 2 ^ (k + 1) * (a / 2 ^ (k + 1)) + a % 2 ^ (k + 1) := (Nat.div_add_mod a _).symm
 have hlow : a % 2 ^ (k + 1) < 2 ^ k := by
  refine gw.2 fun j hj => ?_
  rw [Nat.testBit_mod_two_pow]
  by_cases hjk : j = k
  ·subst hjk; rw [h, Bool.and_false]
  ·rw [decide_eq_false (by omega), Bool.false_and]
 have hlt : a % 2 ^ (k + 1) + 2 ^ k < 2 ^ (k + 1) := by have := Nat.pow_succ 2 k; omega
 have e2 : a + 2 ^ k = 2 ^ (k + 1) * (a / 2 ^ (k + 1)) + (a % 2 ^ (k + 1) + 2 ^ k) := by omega
 rw [e2, Nat.two_pow_add_eq_or_of_lt hlt, Jp (b := 0) hlow, ← Nat.or_assoc, ← Nat.two_pow_add_eq_or_of_lt (Nat.mod_lt _ (Nat.two_pow_pos _)), ← e]
theorem OE {m u o m2 u2 o2 : Nat} (h : ¬ (o : Int) = (o2 : Int)) : decide ((o : Int) < (o2 : Int)) = ze ⟨⟨m, u⟩, o⟩ ⟨⟨m2, u2⟩, o2⟩ := by
 rw [Bool.eq_iff_iff, pN, decide_eq_true_eq]
 simp only
 omega
theorem OH {m u o m2 u2 o2 : Nat} (h : ¬ ¬ (o : Int) = (o2 : Int)) (h2 : ¬ (m : Int) = (m2 : Int)) : decide ((m : Int) < (m2 : Int)) = ze ⟨⟨m, u⟩, o⟩ ⟨⟨m2, u2⟩, o2⟩ := by
 rw [Bool.eq_iff_iff, pN, decide_eq_true_eq]
 simp only
 omega
theorem OX {m u o m2 u2 o2 : Nat} (h : ¬ ¬ (o : Int) = (o2 : Int)) (h2 : ¬ ¬ (m : Int) = (m2 : Int)) : decide ((u : Int) < (u2 : Int)) = ze ⟨⟨m, u⟩, o⟩ ⟨⟨m2, u2⟩, o2⟩ := by
 rw [Bool.eq_iff_iff, pN, decide_eq_true_eq]
 simp only
 omega
theorem Bv {l : List Rw} {x : Rw} {i : Nat} (h0 : 0 < i) (h : ze x (l.getD ((i : Int) - 1).toNat ⟨⟨0, 0⟩, 0⟩) = true) : nK l x i = nK l x (i - 1) :=
 EY h0 (by rwa [show ((i : Int) - 1).toNat = i - 1 by omega] at h)
theorem xd {l : List Rw} {x : Rw} {i : Nat} (h : i = 0 ∨ ze x (l.getD ((i : Int) - 1).toNat ⟨⟨0, 0⟩, 0⟩) = false) : nK l x i = i :=
 Ad (by rwa [show ((i : Int) - 1).toNat = i - 1 by omega] at h)
theorem uI {sz : Nat} {v : Value} {h : Nat} {α : Type} {l : List α} (e : ((l.drop 0).take (h - 0)).length = h - 0) : iR (fS sz v 0 h h) = ((l.drop 0).take (h - 0)).length := e.symm
theorem HG {s : Nat} {n : Int} (h8 : n ≤ 8) {i : Nat} (hi : i < (ex s n).length) : ((ex s n).getD i ⟨0, 0⟩).m < 256 ∧ ((ex s n).getD i ⟨0, 0⟩).v < 256 := by
 have := k9 (jU (F8 hi))
 have h2 := fo h8
 omega
theorem uf {o i : Nat} (h : ((o / 2 ^ ((i : Nat) : Int).toNat &&& 1 : Nat) : Int) = 1) : o.testBit i = true := kQ.1 h
theorem t6 {o i : Nat} (h : ¬ ((o / 2 ^ ((i : Nat) : Int).toNat &&& 1 : Nat) : Int) = 1) : ¬ o.testBit i = true := fun k => h (kQ.2 k)
theorem BS {a b : Nat} (h : (a : Int) = (b : Int)) : a = b := Int.ofNat_inj.1 h
end
section
open Go Go.RowKit Go.ChangeShapes Go.WideShapes Go.ChangeAt Go.Joins Go.Deep
section
variable {H : Type} {encH : TypeId × Value → H} {P : Program} {w : World} {base : Nat} {held : Bool} {r : Reach} {b0 : Nat} {t e : TypeId}
theorem Ha {u : TypeId} (ht : P.underlying t = some (.array 4 u)) (hu : P.underlying u = some (.int .u64)) (hc : P.cellsOf u = 1) {n : Nat} {cs : List Value} {y : DataW H × List MemPlace} (hl : cs.length = 4) (h : DataW.trod encH P w base (fun _ => true) held n t cs = some y) : ∃ s : Nat, cs = gr s ∧ s < 2 ^ 256 := by
 match cs, hl with
 | [c0, c1, c2, c3], _ =>
  obtain ⟨y0, y1, y2, y3, n, hx, h0, h1, h2, h3⟩ := trod_array4 ht hc h
  obtain ⟨n0, e0, _, w0⟩ := DataW.trod_int hu h0
  obtain ⟨n1, e1, _, w1⟩ := DataW.trod_int hu h1
  obtain ⟨n2, e2, _, w2⟩ := DataW.trod_int hu h2
  obtain ⟨n3, e3, _, w3⟩ := DataW.trod_int hu h3
  simp only [List.cons.injEq, and_true] at e0 e1 e2 e3
  subst e0 e1 e2 e3
  obtain ⟨k0, rfl, l0⟩ := yx w0
  obtain ⟨k1, rfl, l1⟩ := yx w1
  obtain ⟨k2, rfl, l2⟩ := yx w2
  obtain ⟨k3, rfl, l3⟩ := yx w3
  obtain ⟨s, hs, hv⟩ := yQ l0 l1 l2 l3
  refine ⟨s, ?_, hs⟩
  have := congrArg (fun v : Value => v.cells.toList) hv
  exact this
theorem open_spec {v : Value} {d : DataW H} {p : List MemPlace} {f0 f1 f2 : Field} {u eS : TypeId} (hs : P.underlying t = some (.struct #[f0, f1, f2])) (hone : oneCellFields P #[f0, f1, f2] = true) (hC : P.cellsOf t = 3) (h0 : P.underlying f0.type = some (.int .i64)) (h1 : P.underlying f1.type = some (.slice eS)) (h2 : P.underlying f2.type = some (.slice eS))
  (hc : P.cellsOf eS = 4) (hS : P.underlying eS = some (.array 4 u)) (hu : P.underlying u = some (.int .u64)) (hcu : P.cellsOf u = 1) (hv : Value.okWide P w r b0 t v) (h : DataW.Trod encH P w base (fun _ => true) held t v d p) :
  ∃ (S : Sp) (onV mayV : Value), v = .agg #[.int .i64 S.n, onV, mayV] ∧ dO gr 4 w onV S.on ∧ dO gr 4 w mayV S.may ∧ (-9223372036854775808 ≤ S.n ∧ S.n ≤ 9223372036854775807) ∧ (∀ s ∈ S.on, s < 2 ^ 256) ∧ ∀ s ∈ S.may, s < 2 ^ 256 := by
 obtain ⟨v0, v1, v2, y0, y1, y2, n, rfl, _, _, g0, g1, g2⟩ := open_agg3 hs hone hC hv h
 obtain ⟨z, e0, _, w0⟩ := DataW.trod_int h0 g0
 simp only [List.cons.injEq, and_true] at e0
 subst e0
 obtain ⟨l1, k1, q1⟩ := open_sl (α := Nat) h1 hc (by decide) dI (fun n cs y hl hh => Ha hS hu hcu hl hh) g1
 obtain ⟨l2, k2, q2⟩ := open_sl (α := Nat) h2 hc (by decide) dI (fun n cs y hl hh => Ha hS hu hcu hl hh) g2
 exact ⟨⟨z, l1, l2⟩, v1, v2, rfl, k1, k2, Ny w0, q1, q2⟩
theorem open_pair {v : Value} {d : DataW H} {p : List MemPlace} {f0 f1 : Field} (hs : P.underlying t = some (.struct #[f0, f1])) (hone : oneCellFields P #[f0, f1] = true) (hC : P.cellsOf t = 2) (h0 : P.underlying f0.type = some (.int .i64)) (h1 : P.underlying f1.type = some (.int .i64))
  (hv : Value.okWide P w r b0 t v) (h : DataW.Trod encH P w base (fun _ => true) held t v d p) : ∃ a b : Int, v = .agg #[.int .i64 a, .int .i64 b] := by
 obtain ⟨v0, v1, y0, y1, n, rfl, _, _, g0, g1⟩ := open_agg2 hs hone hC hv h
 obtain ⟨z0, e0, _, _⟩ := DataW.trod_int h0 g0
 obtain ⟨z1, e1, _, _⟩ := DataW.trod_int h1 g1
 simp only [List.cons.injEq, and_true] at e0 e1
 subst e0 e1
 exact ⟨z0, z1, rfl⟩
instance : Inhabited Rw := ⟨⟨⟨0, 0⟩, 0⟩⟩
instance : Inhabited Cb := ⟨⟨0, 0⟩⟩
end
end
end Go.Proofs.YteimkklmmanncaaGreat
