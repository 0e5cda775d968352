/- Primes out of cubes of one literal less, again and again. No program in it. Each cube within a set is held by a prime; the primes' points are the set's. No program in it. Plain words for covers without a search: sides of sets, the cover by the sides, its points, that no cube of it is too much. No pr -/
import Derived.Test.YteimkklmmanncaaGreatPrime
namespace Go.Proofs.YteimkklmmanncaaGreat
set_option linter.unusedVariables false
set_option linter.unusedSimpArgs false
section
open Go Go.RowKit
theorem tZ {m u : Nat} {n : Int} {v : Value} (h : v = if d7 m u n = true then .tuple #[eT (q7 m u n.toNat), .int .i64 0] else .tuple #[eT 0, .int .i64 1]) :
  ∃ (sa : Nat) (er : Int), v = .tuple #[eT sa, .int .i64 er] ∧ ((d7 m u n = true ∧ sa = q7 m u n.toNat ∧ er = 0) ∨ (d7 m u n = false ∧ er = 1)) := by
 by_cases hr : d7 m u n = true
 ·rw [if_pos hr] at h
  exact ⟨_, _, h, .inl ⟨hr, rfl, rfl⟩⟩
 ·rw [if_neg hr] at h
  exact ⟨_, _, h, .inr ⟨by simpa using hr, rfl⟩⟩
theorem HM {m u s sa : Nat} {n er : Int} (h : (d7 m u n = true ∧ sa = q7 m u n.toNat ∧ er = 0) ∨ (d7 m u n = false ∧ er = 1)) (h0 : er = 0) : eA sa s = pv m u s n := by
 rcases h with ⟨h1, rfl, _⟩ | ⟨_, h2⟩
 ·exact Pw h1
 ·omega
theorem FP {m u s sa : Nat} {n er : Int} (h : (d7 m u n = true ∧ sa = q7 m u n.toNat ∧ er = 0) ∨ (d7 m u n = false ∧ er = 1)) (h0 : ¬ er = 0) : false = pv m u s n := by
 rcases h with ⟨_, _, h2⟩ | ⟨h1, _⟩
 ·exact absurd h2 h0
 ·exact Rk h1
theorem KH {m u m2 u2 : Nat} (h : (m : Int) < (m2 : Int)) : true = vH ⟨m, u⟩ ⟨m2, u2⟩ := (kG.2 (.inl (by simp only; omega))).symm
theorem Ia {m u m2 u2 : Nat} (_h : ¬ (m : Int) < (m2 : Int)) (h2 : (m : Int) = (m2 : Int)) : decide ((u : Int) < (u2 : Int)) = vH ⟨m, u⟩ ⟨m2, u2⟩ := by
 rw [Bool.eq_iff_iff, kG, decide_eq_true_eq]
 simp only
 omega
theorem I4 {m u m2 u2 : Nat} (h : ¬ (m : Int) < (m2 : Int)) (h2 : ¬ (m : Int) = (m2 : Int)) : false = vH ⟨m, u⟩ ⟨m2, u2⟩ := by
 symm
 refine Bool.eq_false_iff.2 fun h3 => ?_
 rw [kG] at h3
 simp only at h3
 omega
theorem HT {l : List Cb} {c : Cb} {i : Nat} (hi : 0 < i) (h : (!vH (l.getD ((i : Int) - 1).toNat ⟨0, 0⟩) c) = true) : m7 l c i = m7 l c (i - 1) := by
 obtain ⟨j, rfl⟩ : ∃ j, i = j + 1 := ⟨i - 1, by omega⟩
 have e : ((j + 1 : Nat) : Int) - 1 = (j : Int) := by omega
 rw [e, Int.toNat_natCast] at h
 simp only [m7]
 rw [if_neg (by simpa using h)]
 rfl
theorem Et {l : List Cb} {c : Cb} {i : Nat} (h : i = 0 ∨ (!vH (l.getD ((i : Int) - 1).toNat ⟨0, 0⟩) c) = false) : m7 l c i = i := by
 rcases h with rfl | h
 ·rfl
 ·cases i with
  | zero => rfl
  | succ j =>
   have e : ((j + 1 : Nat) : Int) - 1 = (j : Int) := by omega
   rw [e, Int.toNat_natCast] at h
   simp only [m7]
   rw [if_pos (by simpa using h)]
theorem qR {sz : Nat} {v : Value} {h : Nat} {α : Type} {l : List α} (e : ((l.drop 0).take (h - 0)).length = h - 0) : jb (fZ sz v 0 h h) = ((l.drop 0).take (h - 0)).length := e.symm
def ji (c : Cb) (i : Nat) : Cb := ⟨jN c.m (i : Int), c.v &&& jN c.m (i : Int)⟩
def Ft (c : Cb) (i : Nat) : Cb := ⟨c.m, c.v ^^^ 2 ^ i⟩
def imp (s : Nat) (n : Int) (c : Cb) : Prop := pv c.m c.v s n = true
theorem gm {s : Nat} {n : Int} {c : Cb} : imp s n c ↔ d7 c.m c.v n = true ∧ ∀ p, p < 2 ^ n.toNat → p &&& c.m = c.v → s.testBit p = true := by
 unfold imp pv
 rw [Bool.and_eq_true]
 constructor
 ·rintro ⟨h1, h2⟩
  obtain ⟨h0, h8, hm, hv⟩ := d4.1 h1
  refine ⟨h1, fun p hp hpm => ?_⟩
  have := fl h8
  exact ea.1 h2 p (by omega) (by rw [jJ (by omega)]; simp [hp, hpm])
 ·rintro ⟨h1, h2⟩
  obtain ⟨h0, h8, hm, hv⟩ := d4.1 h1
  refine ⟨h1, ea.2 fun p _ hp => ?_⟩
  rw [jJ (by omega)] at hp
  simp at hp
  exact h2 p hp.1 hp.2
theorem eZ {m v : Nat} (h : v &&& m = v) (j : Nat) : v.testBit j = (v.testBit j && m.testBit j) := by
 conv => lhs; rw [← h, Nat.testBit_and]
theorem yJ {m v i p : Nat} (hi : i < 8) (hb : m.testBit i = true) (hv : v &&& m = v) : p &&& jN m (i : Int) = v &&& jN m (i : Int) ↔ (p &&& m = v ∨ p &&& m = v ^^^ 2 ^ i) := by
 have hw := fun j => eQ (m := m) hi j
 have hvb := eZ hv
 constructor
 ·intro h
  have hj : ∀ j, j ≠ i → (p.testBit j && m.testBit j) = (v.testBit j && m.testBit j) := fun j hj => by
   have := congrArg (fun x => x.testBit j) h
   simp only [Nat.testBit_and, hw, decide_eq_true hj, Bool.and_true] at this
   exact this
  by_cases e : p.testBit i = v.testBit i
  ·left
   refine Nat.eq_of_testBit_eq fun j => ?_
   rw [Nat.testBit_and, hvb j]
   by_cases hji : j = i
   ·subst hji; rw [e]
   ·exact hj j hji
  ·right
   refine Nat.eq_of_testBit_eq fun j => ?_
   rw [Nat.testBit_and, Nat.testBit_xor, Nat.testBit_two_pow]
   by_cases hji : j = i
   ·subst hji
    rw [hb]
    cases hp : p.testBit j <;> cases hq : v.testBit j <;> simp_all
   ·have : ¬ i = j := fun h => hji h.symm
    rw [hj j hji, ← hvb j]
    simp [this]
 ·rintro (h | h)
  ·refine Nat.eq_of_testBit_eq fun j => ?_
   have := congrArg (fun x => x.testBit j) h
   simp only [Nat.testBit_and] at this
   rw [Nat.testBit_and, Nat.testBit_and, hw, ← Bool.and_assoc, this, ← Bool.and_assoc, ← hvb j]
  ·refine Nat.eq_of_testBit_eq fun j => ?_
   have := congrArg (fun x => x.testBit j) h
   simp only [Nat.testBit_and, Nat.testBit_xor, Nat.testBit_two_pow] at this
   rw [Nat.testBit_and, Nat.testBit_and, hw, ← Bool.and_assoc, this, ← Bool.and_assoc, ← hvb j]
   by_cases hji : j = i
   ·subst hji; simp
   ·have : ¬ i = j := fun h => hji h.symm
    simp [this]
theorem CB {m v i : Nat} {n : Int} (h : d7 m v n = true) : d7 (jN m (i : Int)) (v &&& jN m (i : Int)) n = true := by
 obtain ⟨h0, h8, hm, hv⟩ := d4.1 h
 have := xe m (i : Int)
 exact d4.2 ⟨h0, h8, by omega, by rw [Nat.and_assoc, Nat.and_self]⟩
theorem D5 {m v i : Nat} {n : Int} (h : d7 m v n = true) (hb : m.testBit i = true) : d7 m (v ^^^ 2 ^ i) n = true := by
 obtain ⟨h0, h8, hm, hv⟩ := d4.1 h
 refine d4.2 ⟨h0, h8, hm, Nat.eq_of_testBit_eq fun j => ?_⟩
 have hvb := eZ hv j
 rw [Nat.testBit_and, Nat.testBit_xor, Nat.testBit_two_pow]
 by_cases hji : i = j
 ·subst hji; simp [hb]
 ·simp only [hji, decide_false, Bool.xor_false]
  exact hvb.symm
theorem z7 {s i : Nat} {n : Int} {c : Cb} (hr : d7 c.m c.v n = true) (hi : i < n.toNat) (hb : c.m.testBit i = true) : imp s n (ji c i) ↔ imp s n c ∧ imp s n (Ft c i) := by
 obtain ⟨h0, h8, hm, hv⟩ := d4.1 hr
 have hw := fun p => yJ (p := p) (i := i) (by omega) hb hv
 rw [gm, gm, gm]
 constructor
 ·rintro ⟨h1, h2⟩
  exact ⟨⟨hr, fun p hp hpm => h2 p hp ((hw p).2 (.inl hpm))⟩, ⟨D5 hr hb, fun p hp hpm => h2 p hp ((hw p).2 (.inr hpm))⟩⟩
 ·rintro ⟨⟨_, h1⟩, ⟨_, h2⟩⟩
  refine ⟨CB hr, fun p hp hpm => ?_⟩
  rcases (hw p).1 hpm with h | h
  ·exact h1 p hp h
  ·exact h2 p hp h
def ox (m : Nat) : Nat → Nat
 | 0 => 0
 | k + 1 => ox m k + if m.testBit k = true then 1 else 0
theorem w6 (m : Nat) : ∀ k, ox m k ≤ k
 | 0 => Nat.le_refl _
 | k + 1 => by
  have := w6 m k
  simp only [ox]
  split <;> omega
theorem Cj {m i : Nat} (hi : i < 8) (hb : m.testBit i = true) : ∀ k, ox (jN m (i : Int)) k + (if i < k then 1 else 0) = ox m k
 | 0 => by simp [ox]
 | k + 1 => by
  have ih := Cj hi hb k
  simp only [ox, eQ hi]
  by_cases e : k = i
  ·subst e
   rw [if_neg (Nat.lt_irrefl _)] at ih
   simp [hb, ← ih]
  ·rw [decide_eq_true e, Bool.and_true]
   by_cases h2 : i < k
   ·rw [if_pos h2] at ih
    simp only [show i < k + 1 from by omega, if_true]
    omega
   ·rw [if_neg h2] at ih
    simp only [show ¬ i < k + 1 from by omega, if_false]
    omega
theorem yw {m : Nat} : ∀ k, ox m k = k → ∀ i, i < k → m.testBit i = true
 | 0, _, i, hi => absurd hi (Nat.not_lt_zero _)
 | k + 1, h, i, hi => by
  have := w6 m k
  simp only [ox] at h
  split at h
  ·rename_i hk
   rcases Nat.lt_succ_iff_lt_or_eq.1 hi with h2 | rfl
   ·exact yw k (by omega) i h2
   ·exact hk
  ·omega
theorem ry {m : Nat} : ∀ k, (∀ i, i < k → m.testBit i = true) → ox m k = k
 | 0, _ => rfl
 | k + 1, h => by
  have := ry k (fun i hi => h i (by omega))
  simp only [ox, this, h k (Nat.lt_succ_self _), if_true]
theorem GA {m k : Nat} (h : ox m k < k) : ∃ i, i < k ∧ m.testBit i = false := by
 refine Decidable.byContradiction fun hn => ?_
 have := ry (m := m) k (fun i hi => by
  refine Decidable.byContradiction fun h2 => hn ⟨i, hi, by simpa using h2⟩)
 omega
def rF (n : Int) (c : Cb) : Nat := ox c.m n.toNat
theorem HN {n : Int} {c : Cb} {i : Nat} (h8 : n ≤ 8) (hi : i < n.toNat) (hb : c.m.testBit i = true) : rF n (ji c i) + 1 = rF n c := by
 have h := Cj (m := c.m) (i := i) (by omega) hb n.toNat
 rwa [if_pos hi] at h
theorem yt {s : Nat} {n : Int} {d : Cb} (h : imp s n d) (hc : rF n d < n.toNat) : ∃ c i, i < n.toNat ∧ c.m.testBit i = true ∧ imp s n c ∧ imp s n (Ft c i) ∧ d = ji c i ∧ rF n c = rF n d + 1 := by
 obtain ⟨i, hi, hb⟩ := GA hc
 have hr := (gm.1 h).1
 obtain ⟨h0, h8, hm, hv⟩ := d4.1 hr
 have hvb := eZ hv
 have hi8 : i < 8 := by omega
 have hb2 : (d.m ||| 2 ^ i).testBit i = true := by simp
 have e1 : jN (d.m ||| 2 ^ i) (i : Int) = d.m := Nat.eq_of_testBit_eq fun j => by
  rw [eQ hi8, Nat.testBit_or, Nat.testBit_two_pow]
  by_cases e : j = i
  ·subst e; simp [hb]
  ·have : ¬ i = j := fun h => e h.symm
   simp [this, e]
 have hrc : d7 (d.m ||| 2 ^ i) d.v n = true := by
  refine d4.2 ⟨h0, h8, Nat.or_lt_two_pow hm (Nat.pow_lt_pow_right (by decide) hi), Nat.eq_of_testBit_eq fun j => ?_⟩
  rw [Nat.testBit_and, Nat.testBit_or, hvb j]
  cases d.v.testBit j <;> cases d.m.testBit j <;> simp
 have hd : d = ji ⟨d.m ||| 2 ^ i, d.v⟩ i := by
  unfold ji
  simp only [e1, hv]
 have hw := (z7 (s := s) (c := ⟨d.m ||| 2 ^ i, d.v⟩) hrc hi hb2).1 (hd ▸ h)
 refine ⟨⟨d.m ||| 2 ^ i, d.v⟩, i, hi, hb2, hw.1, hw.2, hd, ?_⟩
 have := HN (c := ⟨d.m ||| 2 ^ i, d.v⟩) h8 hi hb2
 rw [← hd] at this
 exact this.symm
def i9 (now : List Cb) (c : Cb) (i : Nat) : Prop := c.m.testBit i = true ∧ Ft c i ∈ now
def jv (now : List Cb) (n : Int) (seen : List Cb) (d : Cb) : Prop := ∃ c, c ∈ seen ∧ ∃ i, i < n.toNat ∧ i9 now c i ∧ d = ji c i
def gq (now : List Cb) (n : Int) (seen : List Cb) (d : Cb) : Prop := d ∈ seen ∧ ∃ i, i < n.toNat ∧ i9 now d i
def ol (s : Nat) (n : Int) (t : Nat) (now : List Cb) : Prop := ∀ c, c ∈ now ↔ imp s n c ∧ rF n c + 1 = t
section
variable {s t : Nat} {n : Int} {now : List Cb}
theorem Iy (c : Cb) (i : Nat) : rF n (Ft c i) = rF n c := rfl
theorem yl (h : ol s n t now) {c : Cb} (hc : c ∈ now) {i : Nat} (hi : i < n.toNat) : i9 now c i ↔ kL c.m c.v s n i = true := by
 obtain ⟨h1, h2⟩ := (h c).1 hc
 have hr := (gm.1 h1).1
 unfold i9 kL
 rw [Bool.and_eq_true]
 constructor
 ·rintro ⟨hb, hf⟩
  exact ⟨hb, (z7 hr hi hb).2 ⟨h1, ((h _).1 hf).1⟩⟩
 ·rintro ⟨hb, hw⟩
  exact ⟨hb, (h _).2 ⟨((z7 hr hi hb).1 hw).2, h2⟩⟩
theorem xw (h : ol s n t now) {c : Cb} (hc : c ∈ now) : gq now n now c ↔ gT c.m c.v s n = false := by
 have h1 := ((h c).1 hc).1
 rw [← Bool.not_eq_true, gg]
 constructor
 ·rintro ⟨_, i, hi, hp⟩ ⟨_, h3⟩
  have := h3 i hi
  rw [(yl h hc hi).1 hp] at this
  cases this
 ·intro h2
  refine ⟨hc, Classical.byContradiction fun hn => h2 ⟨h1, fun i hi => ?_⟩⟩
  refine Bool.eq_false_iff.2 fun hs => hn ⟨i, hi, (yl h hc hi).2 hs⟩
theorem DE (h8 : n ≤ 8) (h : ol s n (t + 1) now) (ht : t ≤ n.toNat) {nl : List Cb} (hn : ∀ d, d ∈ nl ↔ jv now n now d) : ol s n t nl := by
 intro d
 rw [hn]
 constructor
 ·rintro ⟨c, hc, i, hi, hp, rfl⟩
  obtain ⟨h1, h2⟩ := (h c).1 hc
  have hr := (gm.1 h1).1
  refine ⟨(z7 hr hi hp.1).2 ⟨h1, ((h _).1 hp.2).1⟩, ?_⟩
  have := HN (c := c) h8 hi hp.1
  omega
 ·rintro ⟨h1, h2⟩
  obtain ⟨c, i, hi, hb, hc, hf, hd, hcnt⟩ := yt h1 (by omega)
  exact ⟨c, (h c).2 ⟨hc, by omega⟩, i, hi, ⟨hb, (h _).2 ⟨hf, by rw [Iy]; omega⟩⟩, hd⟩
def vZ (s : Nat) (n : Int) (t : Nat) (out : List Cb) : Prop := ∀ c, c ∈ out ↔ gT c.m c.v s n = true ∧ t ≤ rF n c
theorem Kb {out out2 ml : List Cb} (h : ol s n (t + 1) now) (ho : vZ s n (t + 1) out) (hm : ∀ d, d ∈ ml ↔ gq now n now d) (h2 : ∀ c, c ∈ out2 ↔ c ∈ out ∨ (c ∈ now ∧ c ∉ ml)) : vZ s n t out2 := by
 intro c
 rw [h2, ho, hm]
 constructor
 ·rintro (⟨h3, h4⟩ | ⟨h3, h4⟩)
  ·exact ⟨h3, by omega⟩
  ·rw [xw h h3, Bool.not_eq_false] at h4
   exact ⟨h4, by have := ((h c).1 h3).2; omega⟩
 ·rintro ⟨h3, h4⟩
  by_cases e : t + 1 ≤ rF n c
  ·exact .inl ⟨h3, e⟩
  ·have hc : c ∈ now := (h c).2 ⟨(gg.1 h3).1, by omega⟩
   exact .inr ⟨hc, by rw [xw h hc, Bool.not_eq_false]; exact h3⟩
theorem vS (ht : t ≤ n.toNat + 1) (h : ol s n t []) : ∀ (k : Nat) (c : Cb), imp s n c → rF n c + 1 + k = t → False
 | 0, c, hc, e => by have := (h c).2 ⟨hc, e⟩; simp at this
 | k + 1, c, hc, e => by
  obtain ⟨c', i, hi, hb, hc', hf, hd, hcnt⟩ := yt hc (by omega)
  exact vS ht h k c' hc' (by omega)
theorem MK {out : List Cb} (ht : t ≤ n.toNat + 1) (h : ol s n t []) (ho : vZ s n t out) (hr : iU out) : out = eJ s n := by
 refine wI hr (pL s n) fun c => ?_
 rw [ho, nE]
 constructor
 ·exact fun h => h.1
 ·intro hp
  refine ⟨hp, Decidable.byContradiction fun hlt => ?_⟩
  exact vS ht h (t - (rF n c + 1)) c (gg.1 hp).1 (by omega)
theorem JA : vZ s n (n.toNat + 1) [] := by
 intro c
 constructor
 ·intro h; simp at h
 ·rintro ⟨_, h⟩
  have := w6 c.m n.toNat
  unfold rF at h
  omega
theorem Bo (hs : vt s n = true) {ks : List Cb} (hk : ∀ c, c ∈ ks ↔ ∃ x ∈ eq s, c = ⟨2 ^ n.toNat - 1, x.toNat⟩) : ol s n (n.toNat + 1) ks := by
 unfold vt at hs
 simp only [Bool.and_eq_true, decide_eq_true_eq] at hs
 obtain ⟨h0, h8, hw⟩ := hs
 have hp8 := fl h8
 have hpt : ∀ p, p < 256 → s.testBit p = true → p < 2 ^ n.toNat := fun p hp h => by
  have := ea.1 hw p hp h
  rw [fR] at this
  simpa using this
 intro c
 rw [hk]
 constructor
 ·rintro ⟨x, hx, rfl⟩
  obtain ⟨p, hp, hb, rfl⟩ := je.1 hx
  have hlt := hpt p hp hb
  have e : ∀ q, q < 2 ^ n.toNat → q &&& (2 ^ n.toNat - 1) = q := fun q hq => by rw [Nat.and_two_pow_sub_one_eq_mod, Nat.mod_eq_of_lt hq]
  refine ⟨gm.2 ⟨d4.2 ⟨h0, h8, by have := Nat.two_pow_pos n.toNat; simp only; omega, e p hlt⟩, fun q hq h => ?_⟩, ?_⟩
  ·simp only [Int.toNat_natCast] at h
   rw [e q hq] at h
   rw [h]; exact hb
  ·unfold rF
   rw [ry n.toNat (fun i hi => by rw [Nat.testBit_two_pow_sub_one]; simpa using hi)]
 ·rintro ⟨h1, h2⟩
  have h3 := gm.1 h1
  obtain ⟨_, _, hm, hv⟩ := d4.1 h3.1
  have hm2 : c.m = 2 ^ n.toNat - 1 := Nat.eq_of_testBit_eq fun j => by
   rw [Nat.testBit_two_pow_sub_one]
   by_cases hj : j < n.toNat
   ·rw [yw n.toNat (by unfold rF at h2; omega) j hj]; simp [hj]
   ·rw [Nat.testBit_lt_two_pow (Nat.lt_of_lt_of_le hm (Nat.pow_le_pow_right (by decide) (by omega)))]; simp [hj]
  have hlt := (lT h3.1).2
  refine ⟨(c.v : Int), je.2 ⟨c.v, by omega, h3.2 c.v hlt hv, rfl⟩, ?_⟩
  cases c
  simp only [Int.toNat_natCast, Cb.mk.injEq, and_true]
  exact hm2
end
theorem B6 {α : Type} [DecidableEq α] : ∀ {l l' : List α}, l.Nodup → (∀ a ∈ l, a ∈ l') → l.length ≤ l'.length
 | [], _, _, _ => by simp
 | a :: l, l', h, hs => by
  obtain ⟨h1, h2⟩ := List.nodup_cons.1 h
  have ha := hs a (by simp)
  have := B6 (l := l) (l' := l'.erase a) h2 (fun b hb => by
   have hne : b ≠ a := fun e => h1 (e ▸ hb)
   exact (List.mem_erase_of_ne hne).2 (hs b (by simp [hb])))
  rw [List.length_erase_of_mem ha] at this
  have := List.length_pos_of_mem ha
  simp only [List.length_cons]
  omega
theorem qE {n : Int} {v : Value} (h : v = if 0 ≤ n ∧ n ≤ 8 then .tuple #[eT (fo n.toNat), .int .i64 0] else .tuple #[eT 0, .int .i64 1]) :
  ∃ (sa : Nat) (er : Int), v = .tuple #[eT sa, .int .i64 er] ∧ ((0 ≤ n ∧ n ≤ 8 ∧ sa = fo n.toNat ∧ er = 0) ∨ (¬ (0 ≤ n ∧ n ≤ 8) ∧ er = 1)) := by
 by_cases hr : 0 ≤ n ∧ n ≤ 8
 ·rw [if_pos hr] at h
  exact ⟨_, _, h, .inl ⟨hr.1, hr.2, rfl, rfl⟩⟩
 ·rw [if_neg hr] at h
  exact ⟨_, _, h, .inr ⟨hr, rfl⟩⟩
theorem Fw {s sa : Nat} {n er : Int} (h : (0 ≤ n ∧ n ≤ 8 ∧ sa = fo n.toNat ∧ er = 0) ∨ (¬ (0 ≤ n ∧ n ≤ 8) ∧ er = 1)) (h0 : ¬ er = 0) : ¬ vt s n = true := by
 rcases h with ⟨_, _, _, h2⟩ | ⟨h1, _⟩
 ·exact absurd h2 h0
 ·unfold vt
  simp only [Bool.and_eq_true, decide_eq_true_eq]
  exact fun h2 => h1 ⟨h2.1, h2.2.1⟩
theorem ED {s sa : Nat} {n er : Int} (h : (0 ≤ n ∧ n ≤ 8 ∧ sa = fo n.toNat ∧ er = 0) ∨ (¬ (0 ≤ n ∧ n ≤ 8) ∧ er = 1)) (h0 : ¬ ¬ er = 0) (hw : (!eA s sa) = true) : ¬ vt s n = true := by
 rcases h with ⟨_, _, rfl, _⟩ | ⟨_, h2⟩
 ·unfold vt
  simp only [Bool.and_eq_true, decide_eq_true_eq]
  intro h2
  rw [h2.2.2] at hw
  cases hw
 ·omega
theorem IV {s sa : Nat} {n er : Int} (h : (0 ≤ n ∧ n ≤ 8 ∧ sa = fo n.toNat ∧ er = 0) ∨ (¬ (0 ≤ n ∧ n ≤ 8) ∧ er = 1)) (h0 : ¬ ¬ er = 0) (hw : (!eA s sa) = false) : vt s n = true := by
 rcases h with ⟨h1, h2, rfl, _⟩ | ⟨_, h2⟩
 ·unfold vt
  rw [decide_eq_true h1, decide_eq_true h2]
  simpa using hw
 ·omega
theorem ku {s : Nat} {n : Int} (h : vt s n = true) : 0 ≤ n ∧ n ≤ 8 := by
 unfold vt at h
 simp only [Bool.and_eq_true, decide_eq_true_eq] at h
 exact ⟨h.1, h.2.1⟩
theorem N0 {P : Program} {f : Nat → Value} {w : World} {d : Option Nat} {ty t t2 : TypeId} {ps : String} {af : Array Edge} {g : Option (Nat × Bool)} {x y : Operand} {n : Int}
  (hx : dP f x = .int .u8 (IntKind.u8.wrap (1 * 2 ^ (min n.toNat IntKind.u8.bits)))) (hy : dP f y = .int .u8 1) (h0 : 0 ≤ n) (h8 : n ≤ 8) :
  (execOp (dP f) ⟨d, .binOp .sub t x y t2, ty, ps, af, g⟩).run P w = .ok (.value (.int .u8 ((2 ^ n.toNat - 1 : Nat) : Int))) w := by
 rw [HD hx hy]
 have : ∀ k : Nat, k ≤ 8 → IntKind.u8.wrap (IntKind.u8.wrap (1 * 2 ^ (min k IntKind.u8.bits)) - 1) = ((2 ^ k - 1 : Nat) : Int) := fun k hk => by
  have : k = 0 ∨ k = 1 ∨ k = 2 ∨ k = 3 ∨ k = 4 ∨ k = 5 ∨ k = 6 ∨ k = 7 ∨ k = 8 := by omega
  rcases this with rfl | rfl | rfl | rfl | rfl | rfl | rfl | rfl | rfl <;> decide
 rw [this n.toNat (by omega)]
theorem G4 {M k p : Nat} {l : List Int} {ks : List Cb} (h : ∀ c, c ∈ ks ↔ ∃ j, j < k ∧ c = ⟨M, (l.getD j 0).toNat⟩) (hp : l.getD k 0 = (p : Int)) : ∀ c, c ∈ iI ks ⟨M, p⟩ ↔ ∃ j, j < k + 1 ∧ c = ⟨M, (l.getD j 0).toNat⟩ := by
 intro c
 rw [gv, h]
 constructor
 ·rintro (⟨j, hj, rfl⟩ | rfl)
  ·exact ⟨j, by omega, rfl⟩
  ·exact ⟨k, by omega, by rw [hp, Int.toNat_natCast]⟩
 ·rintro ⟨j, hj, rfl⟩
  rcases Nat.lt_succ_iff_lt_or_eq.1 hj with hj | rfl
  ·exact .inl ⟨j, hj, rfl⟩
  ·exact .inr (by rw [hp, Int.toNat_natCast])
theorem Hy {M k : Nat} {l : List Int} {ks : List Cb} (h : ∀ c, c ∈ ks ↔ ∃ j, j < k ∧ c = ⟨M, (l.getD j 0).toNat⟩) (hk : k = l.length) : ∀ c, c ∈ ks ↔ ∃ x ∈ l, c = ⟨M, x.toNat⟩ := by
 intro c
 rw [h]
 constructor
 ·rintro ⟨j, hj, rfl⟩
  exact ⟨_, dV (by omega), rfl⟩
 ·rintro ⟨x, hx, rfl⟩
  obtain ⟨j, hj, rfl⟩ := List.mem_iff_getElem.1 hx
  exact ⟨j, by omega, by simp [hj]⟩
section
variable {s t : Nat} {n : Int} {now seen nl ml out : List Cb}
theorem BV {α : Type} (l : List α) : (fx l).length = l.length := by simp [fx]
theorem AH {α : Type} {l : List α} {k : α} {v : Bool} (h : (k, v) ∈ fx l) : k ∈ l ∧ v = true := by
 unfold fx at h
 obtain ⟨a, ha, e⟩ := List.mem_map.1 h
 cases e
 exact ⟨ha, rfl⟩
theorem Hh (h : ol s n t now) (h0 : (0 : Int) < ((fx now).length : Int)) : ∃ t', t = t' + 1 := by
 rw [BV] at h0
 obtain ⟨c, hc⟩ := List.exists_mem_of_length_pos (l := now) (by omega)
 exact ⟨_, ((h c).1 hc).2.symm⟩
theorem D0 {l : List Cb} (h0 : ¬ (0 : Int) < ((fx l).length : Int)) : l = [] := by
 rw [BV] at h0
 exact List.eq_nil_of_length_eq_zero (by omega)
theorem wP (h : ol s n t now) (h8 : n ≤ 8) {c : Cb} (hc : c ∈ now) : c.m < 256 ∧ c.v < 256 := by
 have h1 := lT (gm.1 ((h c).1 hc).1).1
 have := fl h8
 omega
theorem Dg : ∀ d, d ∈ ([] : List Cb) ↔ jv now n [] d := fun d => by simp [jv]
theorem As : ∀ d, d ∈ ([] : List Cb) ↔ gq now n [] d := fun d => by simp [gq]
theorem GD {kk : Cb} (h : ∀ d, d ∈ nl ↔ jv now n seen d) : ∀ d, d ∈ nl ↔ jv now n seen d ∨ ∃ q, q < 0 ∧ i9 now kk q ∧ d = ji kk q := fun d => by rw [h]; simp
theorem AZ {kk : Cb} (h : ∀ d, d ∈ ml ↔ gq now n seen d) : ∀ d, d ∈ ml ↔ gq now n seen d ∨ (d = kk ∧ ∃ q, q < 0 ∧ i9 now kk q) := fun d => by rw [h]; simp
theorem Ih {kk : Cb} {i : Nat} (h : ∀ d, d ∈ nl ↔ jv now n seen d ∨ ∃ q, q < i ∧ i9 now kk q ∧ d = ji kk q) (hp : i9 now kk i) :
  ∀ d, d ∈ iI nl (ji kk i) ↔ jv now n seen d ∨ ∃ q, q < i + 1 ∧ i9 now kk q ∧ d = ji kk q := fun d => by
 rw [gv, h]
 constructor
 ·rintro ((h1 | ⟨q, h1, h2, h3⟩) | h1)
  ·exact .inl h1
  ·exact .inr ⟨q, by omega, h2, h3⟩
  ·exact .inr ⟨i, by omega, hp, h1⟩
 ·rintro (h1 | ⟨q, h1, h2, h3⟩)
  ·exact .inl (.inl h1)
  ·rcases Nat.lt_succ_iff_lt_or_eq.1 h1 with h1 | rfl
   ·exact .inl (.inr ⟨q, h1, h2, h3⟩)
   ·exact .inr h3
theorem x5 {kk : Cb} {i : Nat} (h : ∀ d, d ∈ nl ↔ jv now n seen d ∨ ∃ q, q < i ∧ i9 now kk q ∧ d = ji kk q) (hp : ¬ i9 now kk i) :
  ∀ d, d ∈ nl ↔ jv now n seen d ∨ ∃ q, q < i + 1 ∧ i9 now kk q ∧ d = ji kk q := fun d => by
 rw [h]
 constructor
 ·rintro (h1 | ⟨q, h1, h2, h3⟩)
  ·exact .inl h1
  ·exact .inr ⟨q, by omega, h2, h3⟩
 ·rintro (h1 | ⟨q, h1, h2, h3⟩)
  ·exact .inl h1
  ·rcases Nat.lt_succ_iff_lt_or_eq.1 h1 with h1 | rfl
   ·exact .inr ⟨q, h1, h2, h3⟩
   ·exact absurd h2 hp
theorem CR {kk : Cb} {i : Nat} (h : ∀ d, d ∈ ml ↔ gq now n seen d ∨ (d = kk ∧ ∃ q, q < i ∧ i9 now kk q)) (hp : i9 now kk i) :
  ∀ d, d ∈ iI ml kk ↔ gq now n seen d ∨ (d = kk ∧ ∃ q, q < i + 1 ∧ i9 now kk q) := fun d => by
 rw [gv, h]
 constructor
 ·rintro ((h1 | ⟨h1, q, h2, h3⟩) | h1)
  ·exact .inl h1
  ·exact .inr ⟨h1, q, by omega, h3⟩
  ·exact .inr ⟨h1, i, by omega, hp⟩
 ·rintro (h1 | ⟨h1, q, h2, h3⟩)
  ·exact .inl (.inl h1)
  ·exact .inr h1
theorem ue {kk : Cb} {i : Nat} (h : ∀ d, d ∈ ml ↔ gq now n seen d ∨ (d = kk ∧ ∃ q, q < i ∧ i9 now kk q)) (hp : ¬ i9 now kk i) :
  ∀ d, d ∈ ml ↔ gq now n seen d ∨ (d = kk ∧ ∃ q, q < i + 1 ∧ i9 now kk q) := fun d => by
 rw [h]
 constructor
 ·rintro (h1 | ⟨h1, q, h2, h3⟩)
  ·exact .inl h1
  ·exact .inr ⟨h1, q, by omega, h3⟩
 ·rintro (h1 | ⟨h1, q, h2, h3⟩)
  ·exact .inl h1
  ·rcases Nat.lt_succ_iff_lt_or_eq.1 h2 with h2 | rfl
   ·exact .inr ⟨h1, q, h2, h3⟩
   ·exact absurd h3 hp
theorem Kt {kk : Cb} {i : Nat} (h : ∀ d, d ∈ nl ↔ jv now n seen d ∨ ∃ q, q < i ∧ i9 now kk q ∧ d = ji kk q) (hi : i = n.toNat) : ∀ d, d ∈ nl ↔ jv now n (kk :: seen) d := fun d => by
 subst hi
 rw [h]
 unfold jv
 constructor
 ·rintro (⟨c, hc, r⟩ | ⟨q, h1, h2, h3⟩)
  ·exact ⟨c, List.mem_cons_of_mem _ hc, r⟩
  ·exact ⟨kk, List.mem_cons_self, q, h1, h2, h3⟩
 ·rintro ⟨c, hc, i, hi, r⟩
  rcases List.mem_cons.1 hc with rfl | hc
  ·exact .inr ⟨i, hi, r⟩
  ·exact .inl ⟨c, hc, i, hi, r⟩
theorem DT {kk : Cb} {i : Nat} (h : ∀ d, d ∈ ml ↔ gq now n seen d ∨ (d = kk ∧ ∃ q, q < i ∧ i9 now kk q)) (hi : i = n.toNat) : ∀ d, d ∈ ml ↔ gq now n (kk :: seen) d := fun d => by
 subst hi
 rw [h]
 unfold gq
 constructor
 ·rintro (⟨h1, r⟩ | ⟨rfl, r⟩)
  ·exact ⟨List.mem_cons_of_mem _ h1, r⟩
  ·exact ⟨List.mem_cons_self, r⟩
 ·rintro ⟨h1, r⟩
  rcases List.mem_cons.1 h1 with rfl | h1
  ·exact .inr ⟨rfl, r⟩
  ·exact .inl ⟨h1, r⟩
theorem yr {m v i : Nat} (h1 : ((m / 2 ^ ((i : Nat) : Int).toNat &&& 1 : Nat) : Int) = 1) (h2 : (ij (fx now) ⟨m, v ^^^ 1 * 2 ^ ((i : Nat) : Int).toNat⟩).getD false = true) : i9 now ⟨m, v⟩ i := by
 rw [Int.toNat_natCast] at h1 h2
 rw [lF, decide_eq_true_eq, Nat.one_mul] at h2
 exact ⟨lz.1 h1, h2⟩
theorem yq {m v i : Nat} (h1 : ¬ ((m / 2 ^ ((i : Nat) : Int).toNat &&& 1 : Nat) : Int) = 1) : ¬ i9 now ⟨m, v⟩ i := by
 rw [Int.toNat_natCast] at h1
 exact fun h => h1 (lz.2 h.1)
theorem yp {m v i : Nat} (h2 : (ij (fx now) ⟨m, v ^^^ 1 * 2 ^ ((i : Nat) : Int).toNat⟩).getD false = false) : ¬ i9 now ⟨m, v⟩ i := by
 rw [Int.toNat_natCast] at h2
 rw [lF, decide_eq_false_iff_not, Nat.one_mul] at h2
 exact fun h => h2 h.2
theorem GQ (h : ∀ d, d ∈ nl ↔ jv now n seen d) (hs : ∀ c, c ∈ seen ↔ c ∈ now) : ∀ d, d ∈ nl ↔ jv now n now d := fun d => by
 rw [h]; unfold jv; simp only [hs]
theorem Bg (h : ∀ d, d ∈ ml ↔ gq now n seen d) (hs : ∀ c, c ∈ seen ↔ c ∈ now) : ∀ d, d ∈ ml ↔ gq now n now d := fun d => by
 rw [h]; unfold gq; simp only [hs]
theorem B7 {w : World} {it b : Nat} (h : eL iN Value.bool w it b (fx now) seen) : ∀ c ∈ seen, c ∈ now := fun c hc => by
 have := h.sub c hc
 rwa [yn] at this
theorem BE {w : World} {it b : Nat} (h : eL iN Value.bool w it b (fx now) seen) (hd : ∀ p ∈ fx now, p.1 ∈ seen) : ∀ c, c ∈ seen ↔ c ∈ now := fun c =>
 ⟨B7 h c, fun hc => hd (c, true) (List.mem_map.2 ⟨c, hc, rfl⟩)⟩
theorem eL.len_le {α β : Type} [DecidableEq α] {enc : α → Value} {encV : β → Value} {w : World} {it b : Nat} {l : List (α × β)} {seen : List α} (h : eL enc encV w it b l seen) : seen.length ≤ l.length := by
 have := B6 h.nodup h.sub
 simpa using this
theorem Pr : ∀ c, c ∈ out ↔ c ∈ out ∨ (c ∈ ([] : List Cb) ∧ c ∉ ml) := fun c => by simp
theorem LM {out2 : List Cb} {kk : Cb} (h : ∀ c, c ∈ out2 ↔ c ∈ out ∨ (c ∈ seen ∧ c ∉ ml)) (hk : kk ∉ ml) : ∀ c, c ∈ y6 out2 kk ↔ c ∈ out ∨ (c ∈ kk :: seen ∧ c ∉ ml) := fun c => by
 rw [Jn, h, List.mem_cons]
 constructor
 ·rintro (rfl | h1 | ⟨h1, h2⟩)
  ·exact .inr ⟨.inl rfl, hk⟩
  ·exact .inl h1
  ·exact .inr ⟨.inr h1, h2⟩
 ·rintro (h1 | ⟨rfl | h1, h2⟩)
  ·exact .inr (.inl h1)
  ·exact .inl rfl
  ·exact .inr (.inr ⟨h1, h2⟩)
theorem Ng {out2 : List Cb} {kk : Cb} (h : ∀ c, c ∈ out2 ↔ c ∈ out ∨ (c ∈ seen ∧ c ∉ ml)) (hk : kk ∈ ml) : ∀ c, c ∈ out2 ↔ c ∈ out ∨ (c ∈ kk :: seen ∧ c ∉ ml) := fun c => by
 rw [h, List.mem_cons]
 constructor
 ·rintro (h1 | ⟨h1, h2⟩)
  ·exact .inl h1
  ·exact .inr ⟨.inr h1, h2⟩
 ·rintro (h1 | ⟨rfl | h1, h2⟩)
  ·exact .inl h1
  ·exact absurd hk h2
  ·exact .inr ⟨h1, h2⟩
theorem LF {out2 : List Cb} (h : ∀ c, c ∈ out2 ↔ c ∈ out ∨ (c ∈ seen ∧ c ∉ ml)) (hs : ∀ c, c ∈ seen ↔ c ∈ now) : ∀ c, c ∈ out2 ↔ c ∈ out ∨ (c ∈ now ∧ c ∉ ml) := fun c => by rw [h, hs]
theorem Pq {out2 : List Cb} {kk : Cb} (hL : ol s n (t + 1) now) (hO : vZ s n (t + 1) out) (h : ∀ c, c ∈ out2 ↔ c ∈ out ∨ (c ∈ seen ∧ c ∉ ml)) (hk : kk ∈ now) (hs : kk ∉ seen) : kk ∉ out2 := fun hm => by
 rcases (h kk).1 hm with h1 | h1
 ·have h2 := ((hO kk).1 h1).2
  have h3 := ((hL kk).1 hk).2
  omega
 ·exact hs h1.1
theorem Iu {out2 : List Cb} (hL : ol s n (t + 1) now) (h8 : n ≤ 8) (hO : vZ s n (t + 1) out) (h : ∀ c, c ∈ out2 ↔ c ∈ out ∨ (c ∈ seen ∧ c ∉ ml)) (hs : ∀ c ∈ seen, c ∈ now) (hR : iU out2) : out2.length ≤ 65536 :=
 y9 hR fun c hc => by
  rcases (h c).1 hc with h1 | h1
  ·have h2 := lT (kx ((hO c).1 h1).1)
   have := fl h8
   omega
  ·exact wP hL h8 (hs c h1.1)
theorem Du {kk : Cb} (h : (!(ij (fx ml) ⟨kk.m, kk.v⟩).getD false) = true) : kk ∉ ml := by
 rw [lF] at h
 simpa using h
theorem BK {kk : Cb} (h : (!(ij (fx ml) ⟨kk.m, kk.v⟩).getD false) = false) : kk ∈ ml := by
 rw [lF] at h
 simpa using h
end
theorem Md {s : Nat} {n : Int} {v : Value} {w' : World} {N : Nat} {T : TypeId} (h : if vt s n = true then ∃ x, v = .tuple #[x, .int .i64 0] ∧ dh ik 2 T w' N x (eJ s n) else v = .tuple #[.slice none 0 0, .int .i64 1]) :
  ∃ (x : Value) (er : Int) (l : List Cb), v = .tuple #[x, .int .i64 er] ∧ dh ik 2 T w' N x l ∧ ((vt s n = true ∧ er = 0 ∧ l = eJ s n) ∨ (vt s n = false ∧ er = 1 ∧ l = [])) := by
 by_cases ho : vt s n = true
 ·rw [if_pos ho] at h
  obtain ⟨x, h1, h2⟩ := h
  exact ⟨x, 0, _, h1, h2, .inl ⟨ho, rfl, rfl⟩⟩
 ·rw [if_neg ho] at h
  exact ⟨_, 1, [], h, dh.nil, .inr ⟨by simpa using ho, rfl, rfl⟩⟩
theorem ui {s : Nat} {n : Int} (h : n ≤ 8) : (eJ s n).length ≤ 65536 := by
 have h1 := uj s n (2 ^ n.toNat)
 have h2 := fl h
 have h3 : 2 ^ n.toNat * 2 ^ n.toNat ≤ 256 * 256 := Nat.mul_le_mul h2 h2
 unfold eJ
 omega
end
section
open Go Go.RowKit
theorem m0 {a b : Cb} : jj a b = true ↔ ∀ j, a.m.testBit j = true → b.m.testBit j = true ∧ a.v.testBit j = b.v.testBit j := by
 unfold jj
 rw [Bool.and_eq_true, decide_eq_true_eq, decide_eq_true_eq]
 constructor
 ·rintro ⟨h1, h2⟩ j hj
  have e1 := congrArg (fun x => x.testBit j) h1
  have e2 := congrArg (fun x => x.testBit j) h2
  simp only [eh, Nat.testBit_and, Nat.testBit_xor, Nat.zero_testBit, hj, Bool.true_and, Bool.and_true] at e1 e2
  exact ⟨by simpa using e1, by simpa using e2⟩
 ·intro h
  constructor
  ·refine Nat.eq_of_testBit_eq fun j => ?_
   rw [eh, Nat.zero_testBit]
   cases hj : a.m.testBit j with
   | false => rfl
   | true => rw [(h j hj).1]; rfl
  ·refine Nat.eq_of_testBit_eq fun j => ?_
   rw [Nat.testBit_and, Nat.testBit_xor, Nat.zero_testBit]
   cases hj : a.m.testBit j with
   | false => simp
   | true => rw [(h j hj).2]; simp
theorem DB (a : Cb) : jj a a = true := m0.2 fun _ h => ⟨h, rfl⟩
theorem AJ {a b c : Cb} (h : jj a b = true) (k : jj b c = true) : jj a c = true := by
 rw [m0] at *
 exact fun j hj => ⟨(k j (h j hj).1).1, (h j hj).2.trans (k j (h j hj).1).2⟩
theorem Kr {c : Cb} {i : Nat} (hi : i < 8) : jj (ji c i) c = true := m0.2 fun j hj => by
 have hj' : (jN c.m (i : Int)).testBit j = true := hj
 have hv : (ji c i).v.testBit j = (c.v &&& jN c.m (i : Int)).testBit j := rfl
 rw [eQ hi, Bool.and_eq_true] at hj'
 refine ⟨hj'.1, ?_⟩
 rw [hv, Nat.testBit_and, eQ hi, hj'.1, hj'.2]
 simp
theorem lH {a b : Cb} {p : Nat} (ha : a.v &&& a.m = a.v) (h : jj a b = true) (hp : p &&& b.m = b.v) : p &&& a.m = a.v := by
 rw [m0] at h
 refine Nat.eq_of_testBit_eq fun j => ?_
 have e := congrArg (fun x => x.testBit j) hp
 simp only [Nat.testBit_and] at e
 rw [Nat.testBit_and, eZ ha j]
 cases hj : a.m.testBit j with
 | false => simp
 | true =>
  obtain ⟨h1, h2⟩ := h j hj
  rw [h2, ← e, h1]
  simp
def k8 (l : List Cb) (n : Nat) : Nat → Nat
 | 0 => 0
 | k + 1 => k8 l n k ||| q7 (l.getD k ⟨0, 0⟩).m (l.getD k ⟨0, 0⟩).v n
theorem s6 {l : List Cb} {n : Nat} (hn : n ≤ 8) (p : Nat) : ∀ k, (k8 l n k).testBit p = true ↔ ∃ j, j < k ∧ p < 2 ^ n ∧ p &&& (l.getD j ⟨0, 0⟩).m = (l.getD j ⟨0, 0⟩).v
 | 0 => by simp [k8]
 | k + 1 => by
  simp only [k8, Nat.testBit_or, Bool.or_eq_true, s6 hn p k, jJ hn, Bool.and_eq_true, decide_eq_true_eq]
  constructor
  ·rintro (⟨j, hj, h⟩ | h)
   ·exact ⟨j, by omega, h⟩
   ·exact ⟨k, by omega, h⟩
  ·rintro ⟨j, hj, h⟩
   rcases Nat.lt_succ_iff_lt_or_eq.1 hj with hj | rfl
   ·exact .inl ⟨j, hj, h⟩
   ·exact .inr h
theorem fq {α : Type} {l : List α} {a d : α} (h : a ∈ l) : ∃ j, j < l.length ∧ l.getD j d = a := by
 obtain ⟨j, hj, rfl⟩ := List.mem_iff_getElem.1 h
 exact ⟨j, hj, by simp [hj]⟩
theorem JT {s : Nat} {n : Int} {i : Nat} (h : i < (eJ s n).length) : gT ((eJ s n).getD i ⟨0, 0⟩).m ((eJ s n).getD i ⟨0, 0⟩).v s n = true := nE.1 (dV h)
end
section
open Go Go.RowKit
def rE (p i : Nat) (one : Bool) : Nat := if p.testBit i = one then p else p ^^^ 2 ^ i
theorem nu (p i j : Nat) : (p ^^^ 2 ^ i).testBit j = if j = i then !p.testBit j else p.testBit j := by
 rw [Nat.testBit_xor, Nat.testBit_two_pow]
 by_cases e : i = j
 ·subst e; simp
 ·have : ¬ j = i := fun h => e h.symm
  simp [e, this]
theorem iX (p i j : Nat) (one : Bool) : (rE p i one).testBit j = if j = i then one else p.testBit j := by
 unfold rE
 split
 ·rename_i h
  split
  ·rename_i e; subst e; exact h
  ·rfl
 ·rename_i h
  rw [nu]
  split
  ·rename_i e; subst e; cases hp : p.testBit j <;> cases one <;> simp_all
  ·rfl
theorem kQ {p i : Nat} {one : Bool} (h : p.testBit i = one) : rE p i one = p := if_pos h
theorem f7 {p n : Nat} : p < 2 ^ n ↔ ∀ j, n ≤ j → p.testBit j = false := by
 constructor
 ·intro h j hj
  exact Nat.testBit_lt_two_pow (Nat.lt_of_lt_of_le h (Nat.pow_le_pow_right (by decide) hj))
 ·exact Nat.lt_pow_two_of_testBit p
theorem kB {p i n : Nat} {one : Bool} (hi : i < n) : rE p i one < 2 ^ n ↔ p < 2 ^ n := by
 rw [f7, f7]
 constructor
 ·intro h j hj
  have := h j hj
  rwa [iX, if_neg (by omega)] at this
 ·intro h j hj
  rw [iX, if_neg (by omega)]
  exact h j hj
theorem zu {p i n : Nat} (hi : i < n) (h : p < 2 ^ n) : p ^^^ 2 ^ i < 2 ^ n := Nat.xor_lt_two_pow h (Nat.pow_lt_pow_right (by decide) hi)
theorem qw (p i j : Nat) (one : Bool) : rE (p ^^^ 2 ^ j) i one = if j = i then rE p i one else rE p i one ^^^ 2 ^ j := by
 refine Nat.eq_of_testBit_eq fun q => ?_
 split
 ·rename_i e
  subst e
  rw [iX, iX, nu]
  split <;> rfl
 ·rename_i e
  rw [iX, nu, nu, iX]
  by_cases h1 : q = i
  ·subst h1
   have : ¬ q = j := fun h => e h.symm
   simp [this]
  ·simp [h1]
theorem Cs (i : Nat) (h : i < 8) (p : Nat) (hp : p < 256) : p ^^^ 2 ^ i < 256 := zu (n := 8) h hp
theorem sT {l : List Int} {F : Nat → Int → Nat} {hit : Int → Nat → Prop} (hF : ∀ o p, p ∈ l → ∀ q, ((F o p).testBit q = true ↔ o.testBit q = true ∨ hit p q)) :
  ∀ (z q : Nat), ((l.foldl F z).testBit q = true ↔ z.testBit q = true ∨ ∃ p, p ∈ l ∧ hit p q) := by
 induction l with
 | nil => intro z q; simp
 | cons a l ih =>
  intro z q
  rw [List.foldl_cons, ih (fun o p hp => hF o p (List.mem_cons_of_mem _ hp)), hF z a (List.mem_cons_self ..)]
  constructor
  ·rintro ((h | h) | ⟨p, h1, h2⟩)
   ·exact .inl h
   ·exact .inr ⟨a, List.mem_cons_self .., h⟩
   ·exact .inr ⟨p, List.mem_cons_of_mem _ h1, h2⟩
  ·rintro (h | ⟨p, h1, h2⟩)
   ·exact .inl (.inl h)
   ·rcases List.mem_cons.1 h1 with rfl | h1
    ·exact .inl (.inr h2)
    ·exact .inr ⟨p, h1, h2⟩
theorem nQ {s i q : Nat} {one : Bool} : (po s i one).testBit q = true ↔ q < 256 ∧ s.testBit q = true ∧ q.testBit i = one := by
 unfold po
 rw [sT (hit := fun p q => p.toNat.testBit i = one ∧ q = p.toNat)]
 ·simp only [Nat.zero_testBit, Bool.false_eq_true, false_or]
  constructor
  ·rintro ⟨p, hp, h1, h2⟩
   obtain ⟨k, h3, h4, rfl⟩ := je.1 hp
   rw [Int.toNat_natCast] at h1 h2
   subst h2
   exact ⟨h3, h4, h1⟩
  ·rintro ⟨h1, h2, h3⟩
   exact ⟨(q : Int), je.2 ⟨q, h1, h2, rfl⟩, by simpa using h3, by simp⟩
 ·intro o p hp q
  obtain ⟨k, h3, h4, rfl⟩ := je.1 hp
  have e : (decide ((k : Int).toNat / 2 ^ i % 2 = 1) == one) = true ↔ k.testBit i = one := by
   rw [Int.toNat_natCast, ← ie]
   cases k.testBit i <;> cases one <;> simp
  rw [Int.toNat_natCast] at e ⊢
  by_cases hk : k.testBit i = one
  ·rw [if_pos (e.2 hk), lC h3]
   simp [hk, or_comm]
  ·rw [if_neg (fun h => hk (e.1 h))]
   simp [hk]
def j7 (l : List Int) (h i k : Nat) : Nat := (l.take k).foldl (fun o p => lc o ((p.toNat ^^^ 2 ^ i : Nat) : Int)) h
def dp (s i : Nat) (one : Bool) : Nat := j7 (eq (po s i one)) (po s i one) i (eq (po s i one)).length
theorem uu {l : List Int} {h i k : Nat} (hk : k < l.length) : j7 l h i (k + 1) = lc (j7 l h i k) (((l.getD k 0).toNat ^^^ 2 ^ i : Nat) : Int) := by
 unfold j7
 rw [List.take_succ_eq_append_getElem hk, List.foldl_append]
 simp [List.getD_eq_getElem?_getD, List.getElem?_eq_getElem hk]
theorem fP {s i p : Nat} {one : Bool} (hi : i < 8) : (dp s i one).testBit p = true ↔ p < 256 ∧ s.testBit (rE p i one) = true := by
 unfold dp j7
 rw [List.take_length, sT (hit := fun x q => q = x.toNat ^^^ 2 ^ i)]
 ·rw [nQ]
  constructor
  ·rintro (⟨h1, h2, h3⟩ | ⟨x, hx, rfl⟩)
   ·exact ⟨h1, by rw [kQ h3]; exact h2⟩
   ·obtain ⟨k, h3, h4, rfl⟩ := je.1 hx
    obtain ⟨_, h5, h6⟩ := nQ.1 h4
    rw [Int.toNat_natCast]
    exact ⟨Cs i hi k h3, by rw [qw, if_pos rfl, kQ h6]; exact h5⟩
  ·rintro ⟨h1, h2⟩
   by_cases h3 : p.testBit i = one
   ·exact .inl ⟨h1, by rwa [kQ h3] at h2, h3⟩
   ·refine .inr ⟨((p ^^^ 2 ^ i : Nat) : Int), je.2 ⟨p ^^^ 2 ^ i, Cs i hi p h1, ?_, rfl⟩, ?_⟩
    ·have e : rE p i one = p ^^^ 2 ^ i := if_neg h3
     rw [e] at h2
     refine nQ.2 ⟨Cs i hi p h1, h2, ?_⟩
     rw [nu, if_pos rfl]
     cases hp : p.testBit i <;> cases one <;> simp_all
    ·rw [Int.toNat_natCast, Nat.xor_assoc, Nat.xor_self, Nat.xor_zero]
 ·intro o x hx q
  obtain ⟨k, h3, h4, rfl⟩ := je.1 hx
  rw [Int.toNat_natCast, lC (Cs i hi k h3)]
  simp [or_comm]
theorem gx {s i p : Nat} {one : Bool} (hi : i < 8) (hp : p < 256) : (dp s i one).testBit p = s.testBit (rE p i one) := by
 rw [Bool.eq_iff_iff, fP hi]
 simp [hp]
def xE (s t : Nat) : Bool := decide (wd s 0 = wd t 0 ∧ wd s 1 = wd t 1 ∧ wd s 2 = wd t 2 ∧ wd s 3 = wd t 3)
theorem qN {s t : Nat} : xE s t = true ↔ ∀ p, p < 256 → s.testBit p = t.testBit p := by
 unfold xE
 rw [decide_eq_true_eq]
 constructor
 ·rintro ⟨h0, h1, h2, h3⟩ p hp
  have key : ∀ i, wd s i = wd t i → p / 64 = i → s.testBit p = t.testBit p := fun i h e => by
   have h5 := congrArg (fun x => x.testBit (p % 64)) h
   simp only [iz] at h5
   have e2 : 64 * i + p % 64 = p := by omega
   rw [e2] at h5
   simpa [Nat.mod_lt] using h5
  have : p / 64 = 0 ∨ p / 64 = 1 ∨ p / 64 = 2 ∨ p / 64 = 3 := by omega
  rcases this with e | e | e | e
  ·exact key 0 h0 e
  ·exact key 1 h1 e
  ·exact key 2 h2 e
  ·exact key 3 h3 e
 ·intro h
  exact ⟨sX (by decide) h, sX (by decide) h, sX (by decide) h, sX (by decide) h⟩
def iA (i one : Nat) (c : Cb) : Cb := ⟨c.m ||| 1 * 2 ^ i, c.v ||| one * 2 ^ i⟩
def s7 (n : Nat) (on0 on1 : Nat) (a b : List Cb) : Nat := (0 ||| andNot on0 (k8 a n a.length)) ||| andNot on1 (k8 b n b.length)
def eM (n : Nat) : Nat → Nat → Nat → Nat → List Cb
 | 0, _, _, _ => []
 | f + 1, on, may, i =>
  if xE on 0 = true then [] else if xE may (fo n) = true then [⟨0, 0⟩] else
  let a := eM n f (andNot (dp on i false) (dp may i true)) (dp may i false) (i + 1)
  let b := eM n f (andNot (dp on i true) (dp may i false)) (dp may i true) (i + 1)
  (a.map (iA i 0) ++ b.map (iA i 1)) ++ eM n f (s7 n (dp on i false) (dp on i true) a b) (dp may i false &&& dp may i true) (i + 1)
structure m8 (n on may i : Nat) : Prop where
 le : i ≤ n
 sub : ∀ p, p < 256 → on.testBit p = true → may.testBit p = true
 out : ∀ p, p < 256 → may.testBit p = true → p < 2 ^ n
 free : ∀ p j, p < 256 → j < i → on.testBit (p ^^^ 2 ^ j) = on.testBit p
 freeM : ∀ p j, p < 256 → j < i → may.testBit (p ^^^ 2 ^ j) = may.testBit p
theorem Hg {n on may : Nat} (h : ∀ p, p < 256 → on.testBit p = true → may.testBit p = true) (k : ∀ p, p < 256 → may.testBit p = true → p < 2 ^ n) : m8 n on may 0 :=
 ⟨Nat.zero_le _, h, k, fun _ j _ hj => absurd hj (Nat.not_lt_zero j), fun _ j _ hj => absurd hj (Nat.not_lt_zero j)⟩
theorem AV {s : Nat} : ∀ (n : Nat), (∀ p j, p < 2 ^ n → j < n → s.testBit (p ^^^ 2 ^ j) = s.testBit p) → ∀ p, p < 2 ^ n → s.testBit p = s.testBit 0
 | 0, _, p, hp => by
  have : p = 0 := by simpa using hp
  rw [this]
 | n + 1, h, p, hp => by
  have hle : 2 ^ n ≤ 2 ^ (n + 1) := Nat.pow_le_pow_right (by decide) (by omega)
  have ih := AV n fun p j hp hj => h p j (Nat.lt_of_lt_of_le hp hle) (by omega)
  by_cases hb : p.testBit n = true
  ·rw [← h p n hp (by omega)]
   refine ih _ (f7.2 fun j hj => ?_)
   rw [nu]
   split
   ·rename_i e; subst e; rw [hb]; rfl
   ·exact f7.1 hp j (by omega)
  ·refine ih p (f7.2 fun j hj => ?_)
   by_cases e : j = n
   ·subst e; simpa using hb
   ·exact f7.1 hp j (by omega)
theorem fW {n : Nat} (h : n ≤ 8) : 2 ^ n ≤ 256 := by
 have : 2 ^ n ≤ 2 ^ 8 := Nat.pow_le_pow_right (by decide) h
 simpa using this
theorem m8.end {n on may : Nat} (h8 : n ≤ 8) (h : m8 n on may n) : xE on 0 = true ∨ xE may (fo n) = true := by
 have hp := fW h8
 have h1 := AV n fun p j hq hj => h.freeM p j (by omega) hj
 by_cases h0 : may.testBit 0 = true
 ·right
  rw [qN]
  intro p hp2
  rw [fR]
  by_cases hpn : p < 2 ^ n
  ·rw [h1 p hpn, h0]; simp [hpn]
  ·cases hm : may.testBit p with
   | false => simp [hpn]
   | true => exact absurd (h.out p hp2 hm) hpn
 ·left
  rw [qN]
  intro p hp2
  rw [Nat.zero_testBit]
  refine Bool.eq_false_iff.2 fun ho => ?_
  have hm := h.sub p hp2 ho
  exact h0 (by rw [← h1 p (h.out p hp2 hm)]; exact hm)
def hold (c : Cb) (p : Nat) : Prop := p &&& c.m = c.v
theorem sU {c : Cb} {p : Nat} : hold c p ↔ ∀ j, (p.testBit j && c.m.testBit j) = c.v.testBit j := by
 unfold hold
 constructor
 ·intro h j; rw [← h, Nat.testBit_and]
 ·intro h; exact Nat.eq_of_testBit_eq fun j => by rw [Nat.testBit_and]; exact h j
theorem xu {c : Cb} {p j : Nat} (h : c.m.testBit j = false) : hold c (p ^^^ 2 ^ j) ↔ hold c p := by
 rw [sU, sU]
 have : ∀ q, ((p ^^^ 2 ^ j).testBit q && c.m.testBit q) = (p.testBit q && c.m.testBit q) := fun q => by
  rw [nu]
  split
  ·rename_i e; subst e; simp [h]
  ·rfl
 simp only [this]
theorem xf {c : Cb} {p i : Nat} {one : Bool} (h : c.m.testBit i = false) : hold c (rE p i one) ↔ hold c p := by
 unfold rE
 split
 ·exact Iff.rfl
 ·exact xu h
theorem jx (c : Cb) (i one j : Nat) : (iA i one c).m.testBit j = (c.m.testBit j || decide (j = i)) := by
 show (c.m ||| 1 * 2 ^ i).testBit j = _
 rw [Nat.one_mul, Nat.testBit_or, Nat.testBit_two_pow]
 by_cases e : i = j
 ·subst e; simp
 ·have : ¬ j = i := fun h => e h.symm
  simp [e, this]
theorem nb (c : Cb) (i j : Nat) : (iA i 0 c).v.testBit j = c.v.testBit j := by
 show (c.v ||| 0 * 2 ^ i).testBit j = _
 rw [Nat.zero_mul, Nat.or_zero]
theorem nD (c : Cb) (i j : Nat) : (iA i 1 c).v.testBit j = (c.v.testBit j || decide (j = i)) := by
 show (c.v ||| 1 * 2 ^ i).testBit j = _
 rw [Nat.one_mul, Nat.testBit_or, Nat.testBit_two_pow]
 by_cases e : i = j
 ·subst e; simp
 ·have : ¬ j = i := fun h => e h.symm
  simp [e, this]
theorem sD {c : Cb} {i p one : Nat} (h1 : one = 0 ∨ one = 1) (hv : c.v &&& c.m = c.v) (h : c.m.testBit i = false) : hold (iA i one c) p ↔ p.testBit i = decide (one = 1) ∧ hold c p := by
 have hvi : c.v.testBit i = false := by rw [eZ hv, h, Bool.and_false]
 rw [sU, sU]
 rcases h1 with rfl | rfl
 ·simp only [jx, nb]
  constructor
  ·intro k
   have hi : p.testBit i = false := by have := k i; simpa [h, hvi] using this
   refine ⟨by simpa using hi, fun j => ?_⟩
   have := k j
   by_cases e : j = i
   ·subst e; simp [h, hvi]
   ·simpa [e] using this
  ·rintro ⟨k0, k⟩ j
   have := k j
   by_cases e : j = i
   ·subst e; simp [hvi]; simpa using k0
   ·simpa [e] using this
 ·simp only [jx, nD]
  constructor
  ·intro k
   have hi : p.testBit i = true := by have := k i; simpa [h, hvi] using this
   refine ⟨by simpa using hi, fun j => ?_⟩
   have := k j
   by_cases e : j = i
   ·subst e; simp [h, hvi]
   ·simpa [e] using this
  ·rintro ⟨k0, k⟩ j
   have := k j
   by_cases e : j = i
   ·subst e; simp [hvi]; simpa using k0
   ·simpa [e] using this
def jn (n may i : Nat) (l : List Cb) : Prop := ∀ c, c ∈ l → c.m < 2 ^ n ∧ c.v &&& c.m = c.v ∧ (∀ j, j < i → c.m.testBit j = false) ∧ ∀ p, p < 2 ^ n → hold c p → may.testBit p = true
def EE (n on : Nat) (l : List Cb) : Prop := ∀ p, p < 2 ^ n → on.testBit p = true → ∃ c, c ∈ l ∧ hold c p
theorem qJ {l : List Cb} {n : Nat} (hn : n ≤ 8) (p : Nat) : (k8 l n l.length).testBit p = true ↔ p < 2 ^ n ∧ ∃ c, c ∈ l ∧ hold c p := by
 rw [s6 hn]
 constructor
 ·rintro ⟨j, hj, h1, h2⟩
  exact ⟨h1, _, dV hj, h2⟩
 ·rintro ⟨h1, c, hc, h2⟩
  obtain ⟨j, hj, rfl⟩ := fq (d := ⟨0, 0⟩) hc
  exact ⟨j, hj, h1, h2⟩
section
variable {n on may i : Nat}
theorem m8.side (h8 : n ≤ 8) (h : m8 n on may i) (hi : i < n) (x : Bool) : m8 n (andNot (dp on i x) (dp may i (!x))) (dp may i x) (i + 1) := by
 have hi8 : i < 8 := by omega
 refine ⟨hi, fun p hp hq => ?_, fun p hp hq => ?_, fun p j hp hj => ?_, fun p j hp hj => ?_⟩
 ·rw [eh, Bool.and_eq_true] at hq
  obtain ⟨h1, h2⟩ := (fP hi8).1 hq.1
  exact (fP hi8).2 ⟨hp, h.sub _ ((kB (n := 8) hi8).2 hp) h2⟩
 ·obtain ⟨h1, h2⟩ := (fP hi8).1 hq
  exact (kB hi).1 (h.out _ ((kB (n := 8) hi8).2 hp) h2)
 ·have hpj : p ^^^ 2 ^ j < 256 := Cs j (by omega) p hp
  simp only [eh, gx hi8 hp, gx hi8 hpj, qw]
  split
  ·rfl
  ·rename_i hne
   have hlt : ∀ y, rE p i y < 256 := fun y => (kB (n := 8) hi8).2 hp
   rw [h.free _ j (hlt _) (by omega), h.freeM _ j (hlt _) (by omega)]
 ·have hpj : p ^^^ 2 ^ j < 256 := Cs j (by omega) p hp
  simp only [gx hi8 hp, gx hi8 hpj, qw]
  split
  ·rfl
  ·rename_i hne
   have hlt : ∀ y, rE p i y < 256 := fun y => (kB (n := 8) hi8).2 hp
   rw [h.freeM _ j (hlt _) (by omega)]
theorem jV {on0 on1 : Nat} {a b : List Cb} {p : Nat} : (s7 n on0 on1 a b).testBit p = ((on0.testBit p && !(k8 a n a.length).testBit p) || (on1.testBit p && !(k8 b n b.length).testBit p)) := by
 unfold s7
 rw [Nat.zero_or, Nat.testBit_or, eh, eh]
theorem Ct {l : List Cb} {j p : Nat} (h8 : n ≤ 8) (hj : j < n) (h : ∀ c, c ∈ l → c.m.testBit j = false) : (k8 l n l.length).testBit (p ^^^ 2 ^ j) = (k8 l n l.length).testBit p := by
 rw [Bool.eq_iff_iff, qJ h8, qJ h8]
 have hlt : p ^^^ 2 ^ j < 2 ^ n ↔ p < 2 ^ n := by
  constructor
  ·intro h2
   have := zu hj h2
   rwa [Nat.xor_assoc, Nat.xor_self, Nat.xor_zero] at this
  ·exact zu hj
 rw [hlt]
 constructor
 ·rintro ⟨h1, c, hc, h2⟩; exact ⟨h1, c, hc, (xu (h c hc)).1 h2⟩
 ·rintro ⟨h1, c, hc, h2⟩; exact ⟨h1, c, hc, (xu (h c hc)).2 h2⟩
theorem m8.rest (h8 : n ≤ 8) (h : m8 n on may i) (hi : i < n) {a b : List Cb} (ha : jn n (dp may i false) (i + 1) a) (hb : jn n (dp may i true) (i + 1) b)
  (ca : EE n (andNot (dp on i false) (dp may i true)) a) (cb : EE n (andNot (dp on i true) (dp may i false)) b) :
  m8 n (s7 n (dp on i false) (dp on i true) a b) (dp may i false &&& dp may i true) (i + 1) := by
 have hi8 : i < 8 := by omega
 have hlt : ∀ p y, p < 256 → rE p i y < 256 := fun p y hp => (kB (n := 8) hi8).2 hp
 refine ⟨hi, fun p hp hq => ?_, fun p hp hq => ?_, fun p j hp hj => ?_, fun p j hp hj => ?_⟩
 ·rw [jV, Bool.or_eq_true, Bool.and_eq_true, Bool.and_eq_true] at hq
  rw [Nat.testBit_and, Bool.and_eq_true]
  have one : ∀ (x : Bool) (l : List Cb), (dp on i x).testBit p = true → (!(k8 l n l.length).testBit p) = true → EE n (andNot (dp on i x) (dp may i (!x))) l → (dp may i x).testBit p = true ∧ (dp may i (!x)).testBit p = true := by
   intro x l h1 h2 hc
   have hm : (dp may i x).testBit p = true := by
    rw [gx hi8 hp] at h1 ⊢
    exact h.sub _ (hlt p x hp) h1
   refine ⟨hm, Classical.byContradiction fun hn => ?_⟩
   have hpn : p < 2 ^ n := by
    rw [gx hi8 hp] at hm
    exact (kB hi).1 (h.out _ (hlt p x hp) hm)
   have := hc p hpn (by rw [eh, h1, Bool.eq_false_iff.2 hn]; rfl)
   rw [(qJ h8 p).2 ⟨hpn, this⟩] at h2
   cases h2
  rcases hq with ⟨h1, h2⟩ | ⟨h1, h2⟩
  ·exact one false a h1 h2 ca
  ·exact (one true b h1 h2 cb).symm
 ·rw [Nat.testBit_and, Bool.and_eq_true] at hq
  obtain ⟨h1, h2⟩ := (fP hi8).1 hq.1
  exact (kB hi).1 (h.out _ (hlt p _ hp) h2)
 ·have hpj : p ^^^ 2 ^ j < 256 := Cs j (by omega) p hp
  rw [jV, jV, Ct h8 (by omega) (fun c hc => (ha c hc).2.2.1 j hj), Ct h8 (by omega) (fun c hc => (hb c hc).2.2.1 j hj)]
  simp only [gx hi8 hp, gx hi8 hpj, qw]
  split
  ·rfl
  ·rename_i hne
   rw [h.free _ j (hlt p _ hp) (by omega), h.free _ j (hlt p _ hp) (by omega)]
 ·have hpj : p ^^^ 2 ^ j < 256 := Cs j (by omega) p hp
  simp only [Nat.testBit_and, gx hi8 hp, gx hi8 hpj, qw]
  split
  ·rfl
  ·rename_i hne
   rw [h.freeM _ j (hlt p _ hp) (by omega), h.freeM _ j (hlt p _ hp) (by omega)]
theorem Bs {a : List Cb} {one : Nat} {c : Cb} : c ∈ a.map (iA i one) ↔ ∃ d, d ∈ a ∧ iA i one d = c := List.mem_map
theorem EQ (h8 : n ≤ 8) (hi : i < n) {a : List Cb} {one : Nat} {x : Bool} (h1 : (one = 0 ∧ x = false) ∨ (one = 1 ∧ x = true)) (ha : jn n (dp may i x) (i + 1) a) (_hf : ∀ p j, p < 256 → j < i → may.testBit (p ^^^ 2 ^ j) = may.testBit p) :
  jn n may i (a.map (iA i one)) := by
 intro c hc
 obtain ⟨d, hd, rfl⟩ := Bs.1 hc
 obtain ⟨k1, k2, k3, k4⟩ := ha d hd
 have ho : one = 0 ∨ one = 1 := h1.elim (fun h => .inl h.1) (fun h => .inr h.1)
 have hx : x = decide (one = 1) := by rcases h1 with ⟨rfl, rfl⟩ | ⟨rfl, rfl⟩ <;> rfl
 refine ⟨f7.2 fun j hj => ?_, Nat.eq_of_testBit_eq fun j => ?_, fun j hj => ?_, fun p hp hh => ?_⟩
 ·rw [jx, f7.1 k1 j hj, decide_eq_false (by omega)]; rfl
 ·rw [Nat.testBit_and, jx]
  have hvb := eZ k2 j
  rcases ho with rfl | rfl
  ·rw [nb, hvb]; cases d.v.testBit j <;> cases d.m.testBit j <;> simp
  ·rw [nD, hvb]; cases d.v.testBit j <;> cases d.m.testBit j <;> simp
 ·rw [jx, k3 j (by omega), decide_eq_false (by omega)]; rfl
 ·obtain ⟨g1, g2⟩ := (sD ho k2 (k3 i (by omega))).1 hh
  have := k4 p hp g2
  have hp8 : p < 256 := Nat.lt_of_lt_of_le hp (fW h8)
  rwa [gx (by omega) hp8, hx, kQ g1] at this
theorem jn.app {a b : List Cb} (ha : jn n may i a) (hb : jn n may i b) : jn n may i (a ++ b) := fun c hc => (List.mem_append.1 hc).elim (ha c) (hb c)
theorem kH (h8 : n ≤ 8) : ∀ (f on may i : Nat), m8 n on may i → n + 1 - i ≤ f → jn n may i (eM n f on may i) ∧ EE n on (eM n f on may i)
 | 0, on, may, i, h, hf => by have := h.le; omega
 | f + 1, on, may, i, h, hf => by
  rw [eM]
  split
  ·rename_i h0
   rw [qN] at h0
   refine ⟨fun c hc => (nomatch hc), fun p hp ho => ?_⟩
   rw [h0 p (Nat.lt_of_lt_of_le hp (fW h8)), Nat.zero_testBit] at ho
   cases ho
  ·rename_i h0
   split
   ·rename_i h1
    rw [qN] at h1
    refine ⟨fun c hc => ?_, fun p hp ho => ⟨⟨0, 0⟩, by simp, by simp [hold]⟩⟩
    rw [List.mem_singleton] at hc
    subst hc
    refine ⟨Nat.two_pow_pos n, rfl, fun j _ => Nat.zero_testBit j, fun p hp _ => ?_⟩
    rw [h1 p (Nat.lt_of_lt_of_le hp (fW h8)), fR]
    simp [hp]
   ·rename_i h1
    have hi : i < n := Nat.lt_of_le_of_ne h.le fun e => by
     subst e
     rcases h.end h8 with h2 | h2
     ·exact h0 h2
     ·exact h1 h2
    have hi8 : i < 8 := by omega
    dsimp only
    obtain ⟨a1, a2⟩ := kH h8 f _ _ _ (h.side h8 hi false) (by omega)
    obtain ⟨b1, b2⟩ := kH h8 f _ _ _ (h.side h8 hi true) (by omega)
    simp only [Bool.not_false, Bool.not_true] at a1 a2 b1 b2
    generalize eM n f (andNot (dp on i false) (dp may i true)) (dp may i false) (i + 1) = a at *
    generalize eM n f (andNot (dp on i true) (dp may i false)) (dp may i true) (i + 1) = b at *
    obtain ⟨c1, c2⟩ := kH h8 f _ _ _ (h.rest h8 hi a1 b1 a2 b2) (by omega)
    generalize eM n f (s7 n (dp on i false) (dp on i true) a b) (dp may i false &&& dp may i true) (i + 1) = c at *
    refine ⟨jn.app (jn.app (EQ h8 hi (.inl ⟨rfl, rfl⟩) a1 h.freeM) (EQ h8 hi (.inr ⟨rfl, rfl⟩) b1 h.freeM)) fun d hd => ?_, fun p hp ho => ?_⟩
    ·obtain ⟨k1, k2, k3, k4⟩ := c1 d hd
     refine ⟨k1, k2, fun j hj => k3 j (by omega), fun p hp hh => ?_⟩
     have hp8 : p < 256 := Nat.lt_of_lt_of_le hp (fW h8)
     have := k4 p hp hh
     rw [Nat.testBit_and, gx hi8 hp8, gx hi8 hp8, Bool.and_eq_true] at this
     cases hb : p.testBit i with
     | false => rw [kQ hb] at this; exact this.1
     | true => rw [kQ hb] at this; exact this.2
    ·have hp8 : p < 256 := Nat.lt_of_lt_of_le hp (fW h8)
     have key : ∀ (x : Bool) (one : Nat) (l : List Cb), p.testBit i = x → ((one = 0 ∧ x = false) ∨ (one = 1 ∧ x = true)) → jn n (dp may i x) (i + 1) l →
       ((k8 l n l.length).testBit p = true → ∃ d, d ∈ l.map (iA i one) ∧ hold d p) := by
      intro x one l hb h1 hl hpt
      obtain ⟨_, d, hd, hh⟩ := (qJ h8 p).1 hpt
      have ho : one = 0 ∨ one = 1 := h1.elim (fun h => .inl h.1) (fun h => .inr h.1)
      have hx : x = decide (one = 1) := by rcases h1 with ⟨rfl, rfl⟩ | ⟨rfl, rfl⟩ <;> rfl
      obtain ⟨k1, k2, k3, k4⟩ := hl d hd
      exact ⟨_, Bs.2 ⟨d, hd, rfl⟩, (sD ho k2 (k3 i (by omega))).2 ⟨by rw [hb, hx], hh⟩⟩
     cases hb : p.testBit i with
     | false =>
      have hon : (dp on i false).testBit p = true := by rw [gx hi8 hp8, kQ hb]; exact ho
      by_cases hpt : (k8 a n a.length).testBit p = true
      ·obtain ⟨d, hd, hh⟩ := key false 0 a hb (.inl ⟨rfl, rfl⟩) a1 hpt
       exact ⟨d, by simp only [List.mem_append]; exact .inl (.inl hd), hh⟩
      ·obtain ⟨d, hd, hh⟩ := c2 p hp (by rw [jV, hon, Bool.eq_false_iff.2 hpt]; rfl)
       exact ⟨d, by simp only [List.mem_append]; exact .inr hd, hh⟩
     | true =>
      have hon : (dp on i true).testBit p = true := by rw [gx hi8 hp8, kQ hb]; exact ho
      by_cases hpt : (k8 b n b.length).testBit p = true
      ·obtain ⟨d, hd, hh⟩ := key true 1 b hb (.inr ⟨rfl, rfl⟩) b1 hpt
       exact ⟨d, by simp only [List.mem_append]; exact .inl (.inr hd), hh⟩
      ·obtain ⟨d, hd, hh⟩ := c2 p hp (by rw [jV, hon, Bool.eq_false_iff.2 hpt]; simp)
       exact ⟨d, by simp only [List.mem_append]; exact .inr hd, hh⟩
theorem iW : ∀ (f on may i : Nat), (eM n f on may i).length ≤ 3 ^ f
 | 0, _, _, _ => by simp [eM]
 | f + 1, on, may, i => by
  rw [eM]
  have h3 : 3 ^ (f + 1) = 3 ^ f + 3 ^ f + 3 ^ f := by rw [Nat.pow_succ]; omega
  have h0 : 0 < 3 ^ f := Nat.pow_pos (by decide)
  split
  ·simp
  ·split
   ·simp; omega
   ·have h4 := iW f (andNot (dp on i false) (dp may i true)) (dp may i false) (i + 1)
    have h5 := iW f (andNot (dp on i true) (dp may i false)) (dp may i true) (i + 1)
    simp only [List.length_append, List.length_map]
    generalize eM n f (andNot (dp on i false) (dp may i true)) (dp may i false) (i + 1) = a at *
    generalize eM n f (andNot (dp on i true) (dp may i false)) (dp may i true) (i + 1) = b at *
    have h6 := iW f (s7 n (dp on i false) (dp on i true) a b) (dp may i false &&& dp may i true) (i + 1)
    omega
end
def mQ (x y : Nat) : Array Value := #[wv x 0, wv x 1, wv x 2, wv x 3, wv y 0, wv y 1, wv y 2, wv y 3]
def nL (s i k : Nat) : Array Value := mQ (if 0 < k then dp s i false else 0) (if 1 < k then dp s i true else 0)
theorem Bu (s i : Nat) : (#[.int .u64 0, .int .u64 0, .int .u64 0, .int .u64 0, .int .u64 0, .int .u64 0, .int .u64 0, .int .u64 0] : Array Value) = nL s i 0 := by
 simp [nL, mQ, wd]
theorem t5 {w : World} {b s i : Nat} {T : TypeId} (h : At w b #[.int .u64 0, .int .u64 0, .int .u64 0, .int .u64 0, .int .u64 0, .int .u64 0, .int .u64 0, .int .u64 0] T) : At w b (nL s i 0) T := by
 rw [← Bu]; exact h
theorem qr (s i k : Nat) : (nL s i k).size = 8 := rfl
theorem rP {s i k : Nat} (hk : k < 2) :
  ((nL s i k).toList.take (0 + k * 4) ++ (#[wv (dp s i (decide ((k : Int) = 1))) 0, wv (dp s i (decide ((k : Int) = 1))) 1, wv (dp s i (decide ((k : Int) = 1))) 2, wv (dp s i (decide ((k : Int) = 1))) 3] : Array Value).toList ++
   (nL s i k).toList.drop (0 + k * 4 + (#[wv (dp s i (decide ((k : Int) = 1))) 0, wv (dp s i (decide ((k : Int) = 1))) 1, wv (dp s i (decide ((k : Int) = 1))) 2, wv (dp s i (decide ((k : Int) = 1))) 3] : Array Value).toList.length)).toArray = nL s i (k + 1) := by
 have : k = 0 ∨ k = 1 := by omega
 rcases this with rfl | rfl <;> rfl
theorem uR {s t : Nat} (h : ((wd s 0 : Nat) : Int) = ((wd t 0 : Nat) : Int) ∧ ((wd s 1 : Nat) : Int) = ((wd t 1 : Nat) : Int) ∧ ((wd s 2 : Nat) : Int) = ((wd t 2 : Nat) : Int) ∧ ((wd s 3 : Nat) : Int) = ((wd t 3 : Nat) : Int)) : xE s t = true := by
 unfold xE
 rw [decide_eq_true_eq]
 obtain ⟨h0, h1, h2, h3⟩ := h
 exact ⟨Int.ofNat_inj.1 h0, Int.ofNat_inj.1 h1, Int.ofNat_inj.1 h2, Int.ofNat_inj.1 h3⟩
theorem tw {s t : Nat} (h : xE s t = true) : ((wd s 0 : Nat) : Int) = ((wd t 0 : Nat) : Int) ∧ ((wd s 1 : Nat) : Int) = ((wd t 1 : Nat) : Int) ∧ ((wd s 2 : Nat) : Int) = ((wd t 2 : Nat) : Int) ∧ ((wd s 3 : Nat) : Int) = ((wd t 3 : Nat) : Int) := by
 unfold xE at h
 rw [decide_eq_true_eq] at h
 obtain ⟨h0, h1, h2, h3⟩ := h
 exact ⟨by rw [h0], by rw [h1], by rw [h2], by rw [h3]⟩
theorem LR {n on may i : Nat} (h8 : n ≤ 8) (h : m8 n on may i) (h0 : ¬ xE on 0 = true) (h1 : ¬ xE may (fo n) = true) : i < n := Nat.lt_of_le_of_ne h.le fun e => by
 subst e
 rcases h.end h8 with h2 | h2
 ·exact h0 h2
 ·exact h1 h2
theorem Cp {l : List Cb} {i q k : Nat} (h : k < l.length) : (l.take (k + 1)).map (iA i q) = (l.take k).map (iA i q) ++ [iA i q (l.getD k ⟨0, 0⟩)] := by
 rw [List.take_succ_eq_append_getElem h, List.map_append]
 simp [List.getD_eq_getElem?_getD, List.getElem?_eq_getElem h]
theorem MV {s k : Nat} {i : Int} {one : Bool} {H : Nat} (h : (if 0 ≤ i ∧ i < 8 then po s i.toNat one else 0) = H) (hk : (k : Int) < ((eq H).length : Int)) : 0 ≤ i ∧ i < 8 := by
 refine Classical.byContradiction fun hn => ?_
 rw [if_neg hn] at h
 subst h
 have e : eq 0 = [] := by simp [eq]
 rw [e] at hk
 simp at hk
 omega
theorem HO {s : Nat} {i : Int} {one : Bool} {H : Nat} (h : (if 0 ≤ i ∧ i < 8 then po s i.toNat one else 0) = H) : j7 (eq H) H i.toNat (eq H).length = if 0 ≤ i ∧ i < 8 then dp s i.toNat one else 0 := by
 split at h
 ·rename_i hi
  rw [if_pos hi, dp, h]
 ·rename_i hi
  rw [if_neg hi]
  subst h
  have e : eq 0 = [] := by simp [eq]
  rw [e]; rfl
theorem Gs {s : Nat} {n : Int} {c d : Cb} (h : imp s n d) (hr : d7 c.m c.v n = true) (hh : jj d c = true) : imp s n c := by
 rw [gm] at h ⊢
 refine ⟨hr, fun p hp hc => h.2 p hp ?_⟩
 exact lH (d4.1 h.1).2.2.2 hh hc
theorem GX {c d : Cb} {i : Nat} (hi : i < 8) (h : jj c d = true) : jj (ji c i) (ji d i) = true := by
 rw [m0] at h ⊢
 intro j hj
 have hj' : (jN c.m (i : Int)).testBit j = true := hj
 rw [eQ hi, Bool.and_eq_true] at hj'
 obtain ⟨h1, h2⟩ := h j hj'.1
 have hm : (ji d i).m.testBit j = true := by
  show (jN d.m (i : Int)).testBit j = true
  rw [eQ hi, h1, hj'.2]; rfl
 refine ⟨hm, ?_⟩
 show (c.v &&& jN c.m (i : Int)).testBit j = (d.v &&& jN d.m (i : Int)).testBit j
 rw [Nat.testBit_and, Nat.testBit_and, eQ hi, eQ hi, h1, hj'.1, hj'.2, h2]
theorem Bn {s : Nat} {n : Int} {c : Cb} (h : imp s n c) : ∀ i : Nat, (i : Int) ≤ n → imp s n (e7 s n c i) ∧ jj (e7 s n c i) c = true ∧ ∀ j, j < i → (e7 s n c i).m.testBit j = true → ¬ imp s n (ji (e7 s n c i) j)
 | 0, _ => ⟨h, DB c, fun j hj => absurd hj (Nat.not_lt_zero j)⟩
 | i + 1, hi => by
  obtain ⟨h1, h2, h3⟩ := Bn h i (by omega)
  obtain ⟨h0, h8, _, _⟩ := d4.1 (gm.1 h).1
  by_cases hw : imp s n (ji (e7 s n c i) i)
  ·have e : e7 s n c (i + 1) = ji (e7 s n c i) i := vV hw
   rw [e]
   have hho : jj (ji (e7 s n c i) i) (e7 s n c i) = true := Kr (by omega)
   refine ⟨hw, AJ hho h2, fun j hj hm => ?_⟩
   have hm' : (jN (e7 s n c i).m (i : Int)).testBit j = true := hm
   rw [eQ (by omega), Bool.and_eq_true, decide_eq_true_eq] at hm'
   intro hn
   refine h3 j (by omega) hm'.1 (Gs hn (CB (gm.1 h1).1) (GX (by omega) hho))
  ·have e : e7 s n c (i + 1) = e7 s n c i := wT (Bool.eq_false_iff.2 hw)
   rw [e]
   refine ⟨h1, h2, fun j hj hm => ?_⟩
   rcases Nat.lt_succ_iff_lt_or_eq.1 hj with hj | rfl
   ·exact h3 j hj hm
   ·exact hw
theorem rC {s : Nat} {n : Int} {c : Cb} (h : imp s n c) : gT (jL s n c).m (jL s n c).v s n = true ∧ jj (jL s n c) c = true := by
 obtain ⟨h0, h8, _, _⟩ := d4.1 (gm.1 h).1
 obtain ⟨h1, h2, h3⟩ := Bn h n.toNat (by omega)
 refine ⟨gg.2 ⟨h1, fun i hi => ?_⟩, h2⟩
 unfold kL
 rw [Bool.and_eq_false_iff]
 by_cases hm : (jL s n c).m.testBit i = true
 ·exact .inr (Bool.eq_false_iff.2 (h3 i hi hm))
 ·exact .inl (Bool.eq_false_iff.2 hm)
def iT (s : Nat) (n : Int) (l : List Cb) : Nat → List Cb
 | 0 => []
 | k + 1 => iI (iT s n l k) (jL s n (l.getD k ⟨0, 0⟩))
abbrev Em (s : Nat) (n : Int) (l : List Cb) : List Cb := iT s n l l.length
theorem qy (s : Nat) (n : Int) (l : List Cb) : ∀ k, (iT s n l k).length ≤ k
 | 0 => by simp [iT]
 | k + 1 => Nat.le_trans (qp _ _) (by have := qy s n l k; omega)
theorem pX {s : Nat} {n : Int} {l : List Cb} {c : Cb} : ∀ k, c ∈ iT s n l k ↔ ∃ j, j < k ∧ c = jL s n (l.getD j ⟨0, 0⟩)
 | 0 => by simp [iT]
 | k + 1 => by
  rw [iT, gv, pX k]
  constructor
  ·rintro (⟨j, hj, h⟩ | h)
   ·exact ⟨j, by omega, h⟩
   ·exact ⟨k, by omega, h⟩
  ·rintro ⟨j, hj, h⟩
   rcases Nat.lt_succ_iff_lt_or_eq.1 hj with hj | rfl
   ·exact .inl ⟨j, hj, h⟩
   ·exact .inr h
end
section
open Go Go.RowKit
def QS (f : Nat → Bool) (k : Nat) : List Bool := (List.range 256).map fun p => decide (p < k) && f p
theorem de (f : Nat → Bool) (k : Nat) : (QS f k).length = 256 := by simp [QS]
theorem yN {s k : Nat} (h : k < 256) : (qv s).getD (k : Int).toNat false = s.testBit k := by
 rw [Int.toNat_natCast]; exact iO h
theorem Fk {α : Type} {enc : α → List Value} {sz : Nat} {T : TypeId} {ok : Bool} {e1 : Int} {L : List α} {v : Value} {w' : World} {N : Nat} (h : if ok = true then ∃ x, v = .tuple #[x, .int .i64 0] ∧ dh enc sz T w' N x L else v = .tuple #[.slice none 0 0, .int .i64 e1]) :
  ∃ (x : Value) (er : Int) (l : List α), v = .tuple #[x, .int .i64 er] ∧ dh enc sz T w' N x l ∧ ((ok = true ∧ er = 0 ∧ l = L) ∨ (ok = false ∧ er = e1 ∧ l = [])) := by
 by_cases ho : ok = true
 ·rw [if_pos ho] at h
  obtain ⟨x, h1, h2⟩ := h
  exact ⟨x, 0, _, h1, h2, .inl ⟨ho, rfl, rfl⟩⟩
 ·rw [if_neg ho] at h
  exact ⟨_, e1, [], h, dh.nil, .inr ⟨by simpa using ho, rfl, rfl⟩⟩
def xY (on may : Nat) (n : Int) : Bool := vt may n && eA on may
theorem j6 {on may : Nat} {n : Int} : xY on may n = true ↔ vt may n = true ∧ eA on may = true := by unfold xY; rw [Bool.and_eq_true]
theorem Na {on may sa : Nat} {n er : Int} (h : (0 ≤ n ∧ n ≤ 8 ∧ sa = fo n.toNat ∧ er = 0) ∨ (¬ (0 ≤ n ∧ n ≤ 8) ∧ er = 1)) (h0 : ¬ er = 0) : ¬ xY on may n = true := fun hk => Fw h h0 (j6.1 hk).1
theorem MZ {on may : Nat} {n : Int} (h : (!eA on may) = true) : ¬ xY on may n = true := fun hk => by
 rw [(j6.1 hk).2] at h; cases h
theorem Ld {on may sa : Nat} {n er : Int} (h : (0 ≤ n ∧ n ≤ 8 ∧ sa = fo n.toNat ∧ er = 0) ∨ (¬ (0 ≤ n ∧ n ≤ 8) ∧ er = 1)) (h0 : ¬ ¬ er = 0) (hw : (!eA may sa) = true) : ¬ xY on may n = true := fun hk => ED h h0 hw (j6.1 hk).1
theorem PR {on may sa : Nat} {n er : Int} (h : (0 ≤ n ∧ n ≤ 8 ∧ sa = fo n.toNat ∧ er = 0) ∨ (¬ (0 ≤ n ∧ n ≤ 8) ∧ er = 1)) (h0 : ¬ ¬ er = 0) (h1 : (!eA on may) = false) (hw : (!eA may sa) = false) : xY on may n = true :=
 j6.2 ⟨IV h h0 hw, by simpa using h1⟩
theorem zC {on may : Nat} {n : Nat} (h : xY on may (n : Int) = true) : n ≤ 8 ∧ m8 n on may 0 := by
 obtain ⟨h1, h2⟩ := j6.1 h
 obtain ⟨h0, h8⟩ := ku h1
 have hw : eA may (fo n) = true := by
  unfold vt at h1
  rw [decide_eq_true h0, decide_eq_true h8] at h1
  simpa using h1
 refine ⟨by omega, Hg (ea.1 h2) fun p hp hm => ?_⟩
 have := ea.1 hw p hp hm
 rw [fR] at this
 simpa using this
abbrev jh (on may : Nat) (n : Int) : List Cb := eM n.toNat (n.toNat + 1) on may 0
theorem N2 {n : Nat} (h : n ≤ 8) : 3 ^ (n + 1) ≤ 19683 := by
 have : 3 ^ (n + 1) ≤ 3 ^ 9 := Nat.pow_le_pow_right (by decide) (by omega)
 simpa using this
theorem AF {on may : Nat} {n : Int} (h : n ≤ 8) : (jh on may n).length ≤ 19683 := Nat.le_trans (iW _ _ _ _) (N2 (by omega))
theorem ve {on may : Nat} {n : Int} (h : xY on may n = true) {c : Cb} (hc : c ∈ jh on may n) : pv c.m c.v may n = true ∧ c.m < 256 ∧ c.v < 256 ∧ c.v &&& c.m = c.v := by
 obtain ⟨h0, h8⟩ := ku (j6.1 h).1
 obtain ⟨n, rfl⟩ := Int.eq_ofNat_of_zero_le h0
 obtain ⟨h8', hg⟩ := zC h
 obtain ⟨k1, k2, k3, k4⟩ := (kH h8' (n + 1) on may 0 hg (by omega)).1 c hc
 have hp := fW h8'
 have hle : c.v ≤ c.m := by rw [← k2]; exact Nat.and_le_right
 refine ⟨gm.2 ⟨d4.2 ⟨h0, h8, k1, k2⟩, fun p hp hh => k4 p hp hh⟩, by omega, by omega, k2⟩
theorem pW {α : Type} [DecidableEq α] {l : List α} {k : α} (h : k ∈ l) : iI l k = l := if_pos h
theorem vJ {α : Type} [DecidableEq α] {l : List α} {k : α} (h : k ∉ l) : iI l k = l ++ [k] := if_neg h
theorem P4 {ok : Bool} {er : Int} {l L : List Cb} (h : (ok = true ∧ er = 0 ∧ l = L) ∨ (ok = false ∧ er = 1 ∧ l = [])) (h0 : ¬ er = 0) : ¬ ok = true ∧ er = 1 := by
 rcases h with ⟨_, h2, _⟩ | ⟨h1, h2, _⟩
 ·exact absurd h2 h0
 ·exact ⟨by rw [h1]; decide, h2⟩
theorem Il {ok : Bool} {er : Int} {l L : List Cb} (h : (ok = true ∧ er = 0 ∧ l = L) ∨ (ok = false ∧ er = 1 ∧ l = [])) (h0 : ¬ ¬ er = 0) : ok = true ∧ l = L := by
 rcases h with ⟨h1, _, h2⟩ | ⟨_, h2, _⟩
 ·exact ⟨h1, h2⟩
 ·exact absurd (fun e => by rw [h2] at e; cases e) h0
end
section
open Go Go.RowKit
structure Sp where
 n : Int
 on : List Nat
 may : List Nat
def AA (S : Sp) (k : Nat) : Nat := S.on.getD k 0
def jq (S : Sp) (k : Nat) : Nat := S.may.getD k 0
def dO (S : Sp) : Bool :=
 decide (0 ≤ S.n) && (decide (S.n ≤ 8) && (decide (1 ≤ S.on.length) && (decide (S.on.length ≤ 4) && (decide (S.on.length = S.may.length) &&
  (List.range S.on.length).all fun k => eA (AA S k) (jq S k) && eA (jq S k) (fo S.n.toNat)))))
theorem d9 {S : Sp} : dO S = true ↔ 0 ≤ S.n ∧ S.n ≤ 8 ∧ 1 ≤ S.on.length ∧ S.on.length ≤ 4 ∧ S.on.length = S.may.length ∧ ∀ k, k < S.on.length → eA (AA S k) (jq S k) = true ∧ eA (jq S k) (fo S.n.toNat) = true := by
 unfold dO
 simp only [Bool.and_eq_true, decide_eq_true_eq, List.all_eq_true, List.mem_range]
theorem mn {S : Sp} (h : ¬ (0 ≤ S.n ∧ S.n ≤ 8 ∧ 1 ≤ S.on.length ∧ S.on.length ≤ 4 ∧ S.on.length = S.may.length)) : Value.bool false = .bool (dO S) :=
 congrArg Value.bool (Bool.eq_false_iff.2 fun hr => h (by
  obtain ⟨h1, h2, h3, h4, h5, _⟩ := d9.1 hr
  exact ⟨h1, h2, h3, h4, h5⟩)).symm
theorem vr {S : Sp} {k : Nat} (hk : k < S.on.length) (h : ¬ (eA (AA S k) (jq S k) = true ∧ eA (jq S k) (fo S.n.toNat) = true)) : Value.bool false = .bool (dO S) :=
 congrArg Value.bool (Bool.eq_false_iff.2 fun hr => h ((d9.1 hr).2.2.2.2.2 k hk)).symm
theorem EU {S : Sp} (h : 0 ≤ S.n ∧ S.n ≤ 8 ∧ 1 ≤ S.on.length ∧ S.on.length ≤ 4 ∧ S.on.length = S.may.length) (hk : ∀ k, k < S.on.length → eA (AA S k) (jq S k) = true ∧ eA (jq S k) (fo S.n.toNat) = true) : Value.bool true = .bool (dO S) :=
 congrArg Value.bool (d9.2 ⟨h.1, h.2.1, h.2.2.1, h.2.2.2.1, h.2.2.2.2, hk⟩).symm
def lj (S : Sp) (c : Cb) : Nat → Nat
 | 0 => 0
 | k + 1 => if pv c.m c.v (jq S k) S.n = true then lj S c k ||| 1 * 2 ^ k else lj S c k
abbrev kO (S : Sp) (c : Cb) : Nat := lj S c S.may.length
theorem Hz {S : Sp} {c : Cb} {k : Nat} (h : pv c.m c.v (jq S k) S.n = true) : lj S c k ||| 1 * 2 ^ k = lj S c (k + 1) := (if_pos h).symm
theorem IK {S : Sp} {c : Cb} {k : Nat} (h : pv c.m c.v (jq S k) S.n = false) : lj S c k = lj S c (k + 1) := (if_neg (by rw [h]; decide)).symm
theorem gH {S : Sp} {c : Cb} {j : Nat} : ∀ k, (lj S c k).testBit j = true ↔ j < k ∧ pv c.m c.v (jq S j) S.n = true
 | 0 => by simp [lj]
 | k + 1 => by
  rw [lj]
  split
  ·rename_i h
   rw [Nat.one_mul, Nat.testBit_or, Nat.testBit_two_pow, Bool.or_eq_true, gH k, decide_eq_true_eq]
   constructor
   ·rintro (⟨h1, h2⟩ | rfl)
    ·exact ⟨by omega, h2⟩
    ·exact ⟨by omega, h⟩
   ·rintro ⟨h1, h2⟩
    rcases Nat.lt_succ_iff_lt_or_eq.1 h1 with h1 | h1
    ·exact .inl ⟨h1, h2⟩
    ·exact .inr h1.symm
  ·rename_i h
   rw [gH k]
   constructor
   ·rintro ⟨h1, h2⟩; exact ⟨by omega, h2⟩
   ·rintro ⟨h1, h2⟩
    rcases Nat.lt_succ_iff_lt_or_eq.1 h1 with h1 | rfl
    ·exact ⟨h1, h2⟩
    ·exact absurd h2 h
theorem qF (S : Sp) (c : Cb) (k : Nat) : lj S c k < 2 ^ k := f7.2 fun j hj => Bool.eq_false_iff.2 fun h => by
 have := ((gH k).1 h).1
 omega
theorem Gi {k : Nat} (h : k ≤ 4) : 2 ^ k ≤ 16 := by
 have h2 : 2 ^ k ≤ 2 ^ 4 := Nat.pow_le_pow_right (by decide) h
 simpa using h2
def qb (S : Sp) (x : Rw) : Bool := dO S && (decide (0 < x.o) && decide (andNot x.o (kO S x.c) = 0))
theorem xg {a b : Nat} : andNot a b = 0 ↔ ∀ j, a.testBit j = true → b.testBit j = true := by
 constructor
 ·intro h j hj
  have h2 := congrArg (fun x => x.testBit j) h
  simp only [eh, Nat.zero_testBit, hj, Bool.true_and] at h2
  simpa using h2
 ·intro h
  refine Nat.eq_of_testBit_eq fun j => ?_
  rw [eh, Nat.zero_testBit]
  cases ha : a.testBit j with
  | false => rfl
  | true => rw [h j ha]; rfl
theorem gE {S : Sp} {x : Rw} : qb S x = true ↔ dO S = true ∧ 0 < x.o ∧ ∀ j, x.o.testBit j = true → j < S.may.length ∧ pv x.c.m x.c.v (jq S j) S.n = true := by
 unfold qb
 rw [Bool.and_eq_true, Bool.and_eq_true, decide_eq_true_eq, decide_eq_true_eq, xg]
 simp only [gH]
theorem oH {S : Sp} {x : Rw} (h : qb S x = true) : x.o < 2 ^ S.may.length ∧ x.o < 16 := by
 obtain ⟨h1, _, h3⟩ := gE.1 h
 obtain ⟨_, _, _, h4, h5, _⟩ := d9.1 h1
 have : x.o < 2 ^ S.may.length := f7.2 fun j hj => Bool.eq_false_iff.2 fun hb => by have := (h3 j hb).1; omega
 have := Gi (k := S.may.length) (by omega)
 omega
theorem o0 {a : Nat} (h : 0 < a) : ∃ j, a.testBit j = true := Classical.byContradiction fun hn => by
 have : a = 0 := Nat.eq_of_testBit_eq fun j => by rw [Nat.zero_testBit]; exact Bool.eq_false_iff.2 fun hb => hn ⟨j, hb⟩
 omega
theorem uV {a j : Nat} (h : a.testBit j = true) : 0 < a := Nat.pos_of_ne_zero fun e => by
 rw [e, Nat.zero_testBit] at h; cases h
theorem gz {S : Sp} {x : Rw} (h : qb S x = true) : d7 x.c.m x.c.v S.n = true := by
 obtain ⟨_, h2, h3⟩ := gE.1 h
 obtain ⟨j, hj⟩ := o0 h2
 exact tI (h3 j hj).2
def rM (a b : Rw) : Bool := jj a.c b.c && decide (andNot b.o a.o = 0)
theorem oY {a b : Rw} : rM a b = true ↔ jj a.c b.c = true ∧ ∀ j, b.o.testBit j = true → a.o.testBit j = true := by
 unfold rM
 rw [Bool.and_eq_true, decide_eq_true_eq, xg]
def ld (S : Sp) (o : Nat) : Nat → Nat
 | 0 => fo S.n.toNat
 | k + 1 => if o.testBit k = true then ld S o k &&& jq S k else ld S o k
abbrev gf (S : Sp) (o : Nat) : Nat := ld S o S.may.length
theorem Ey {S : Sp} {o k : Nat} (h : o.testBit k = true) : ld S o k &&& jq S k = ld S o (k + 1) := (if_pos h).symm
theorem EA {S : Sp} {o k : Nat} (h : ¬ o.testBit k = true) : ld S o k = ld S o (k + 1) := (if_neg h).symm
theorem jf {S : Sp} {o p : Nat} : ∀ k, (ld S o k).testBit p = true ↔ p < 2 ^ S.n.toNat ∧ ∀ j, j < k → o.testBit j = true → (jq S j).testBit p = true
 | 0 => by simp [ld, fR]
 | k + 1 => by
  rw [ld]
  split
  ·rename_i h
   rw [Nat.testBit_and, Bool.and_eq_true, jf k]
   constructor
   ·rintro ⟨⟨h1, h2⟩, h3⟩
    refine ⟨h1, fun j hj ho => ?_⟩
    rcases Nat.lt_succ_iff_lt_or_eq.1 hj with hj | rfl
    ·exact h2 j hj ho
    ·exact h3
   ·rintro ⟨h1, h2⟩
    exact ⟨⟨h1, fun j hj ho => h2 j (by omega) ho⟩, h2 k (by omega) h⟩
  ·rename_i h
   rw [jf k]
   constructor
   ·rintro ⟨h1, h2⟩
    refine ⟨h1, fun j hj ho => ?_⟩
    rcases Nat.lt_succ_iff_lt_or_eq.1 hj with hj | rfl
    ·exact h2 j hj ho
    ·exact absurd ho h
   ·rintro ⟨h1, h2⟩
    exact ⟨h1, fun j hj ho => h2 j (by omega) ho⟩
theorem HZ {S : Sp} (hr : dO S = true) (o : Nat) : vt (gf S o) S.n = true := by
 obtain ⟨h0, h8, _⟩ := d9.1 hr
 unfold vt
 rw [decide_eq_true h0, decide_eq_true h8, Bool.true_and, Bool.true_and, ea]
 intro p _ h
 rw [fR]
 simpa using ((jf _).1 h).1
theorem tQ {S : Sp} {c : Cb} {o : Nat} : pv c.m c.v (gf S o) S.n = true ↔ d7 c.m c.v S.n = true ∧ ∀ j, j < S.may.length → o.testBit j = true → pv c.m c.v (jq S j) S.n = true := by
 have e1 := gm (s := gf S o) (n := S.n) (c := c)
 have e2 := fun j => gm (s := jq S j) (n := S.n) (c := c)
 unfold imp at e1 e2
 rw [e1]
 constructor
 ·rintro ⟨h1, h2⟩
  exact ⟨h1, fun j hj ho => (e2 j).2 ⟨h1, fun p hp hc => ((jf _).1 (h2 p hp hc)).2 j hj ho⟩⟩
 ·rintro ⟨h1, h2⟩
  exact ⟨h1, fun p hp hc => (jf _).2 ⟨hp, fun j hj ho => ((e2 j).1 (h2 j hj ho)).2 p hp hc⟩⟩
theorem j4 {S : Sp} {x : Rw} : qb S x = true ↔ dO S = true ∧ 0 < x.o ∧ x.o < 2 ^ S.may.length ∧ pv x.c.m x.c.v (gf S x.o) S.n = true := by
 constructor
 ·intro h
  obtain ⟨h1, h2, h3⟩ := gE.1 h
  exact ⟨h1, h2, (oH h).1, tQ.2 ⟨gz h, fun j _ hj => (h3 j hj).2⟩⟩
 ·rintro ⟨h1, h2, h3, h4⟩
  refine gE.2 ⟨h1, h2, fun j hj => ?_⟩
  have hlt : j < S.may.length := Classical.byContradiction fun hn => by
   rw [f7.1 h3 j (by omega)] at hj; cases hj
  exact ⟨hlt, (tQ.1 h4).2 j hlt hj⟩
def tP (S : Sp) (x : Rw) : Nat → List Cb
 | 0 => []
 | k + 1 => if ¬ ji x.c k = x.c ∧ qb S ⟨ji x.c k, x.o⟩ = true then tP S x k ++ [ji x.c k] else tP S x k
theorem ye {S : Sp} {x : Rw} : ∀ k, (tP S x k).length = 0 ↔ ∀ i, i < k → ¬ (¬ ji x.c i = x.c ∧ qb S ⟨ji x.c i, x.o⟩ = true)
 | 0 => by simp [tP]
 | k + 1 => by
  have ih := ye (S := S) (x := x) k
  rw [tP]
  split
  ·rename_i h
   simp only [List.length_append, List.length_cons, List.length_nil]
   constructor
   ·intro h2; omega
   ·intro h2; exact absurd h (h2 k (by omega))
  ·rename_i h
   rw [ih]
   constructor
   ·intro h2 i hi
    rcases Nat.lt_succ_iff_lt_or_eq.1 hi with hi | rfl
    ·exact h2 i hi
    ·exact h
   ·intro h2 i hi; exact h2 i (by omega)
def oR (S : Sp) (x : Rw) : Bool := qb S x && (decide (kO S x.c = x.o) && decide ((tP S x S.n.toNat).length = 0))
theorem FY {c : Cb} {i : Nat} (hi : i < 8) (hv : c.v &&& c.m = c.v) : ji c i = c ↔ c.m.testBit i = false := by
 have hw := fun j => eQ (m := c.m) hi j
 constructor
 ·intro h
  have h1 : jN c.m (i : Int) = c.m := congrArg Cb.m h
  have := hw i
  rw [h1] at this
  cases hb : c.m.testBit i with
  | false => rfl
  | true => rw [hb] at this; simp at this
 ·intro h
  have h1 : jN c.m (i : Int) = c.m := Nat.eq_of_testBit_eq fun j => by
   rw [hw]
   by_cases e : j = i
   ·subst e; rw [h]; rfl
   ·simp [e]
  unfold ji
  rw [h1, hv]
theorem fH {S : Sp} {x : Rw} : oR S x = true ↔ qb S x = true ∧ kO S x.c = x.o ∧ gT x.c.m x.c.v (gf S x.o) S.n = true := by
 unfold oR
 rw [Bool.and_eq_true, Bool.and_eq_true, decide_eq_true_eq, decide_eq_true_eq, ye]
 constructor
 ·rintro ⟨h1, h2, h3⟩
  refine ⟨h1, h2, gg.2 ⟨(j4.1 h1).2.2.2, fun i hi => Bool.eq_false_iff.2 fun hs => ?_⟩⟩
  obtain ⟨h0, h8, hm, hv⟩ := d4.1 (gz h1)
  unfold kL at hs
  rw [Bool.and_eq_true] at hs
  refine h3 i hi ⟨fun he => ?_, j4.2 ⟨(j4.1 h1).1, (j4.1 h1).2.1, (j4.1 h1).2.2.1, hs.2⟩⟩
  rw [(FY (by omega) hv).1 he] at hs
  cases hs.1
 ·rintro ⟨h1, h2, h3⟩
  refine ⟨h1, h2, fun i hi ⟨g1, g2⟩ => ?_⟩
  obtain ⟨h0, h8, hm, hv⟩ := d4.1 (gz h1)
  have hs := (gg.1 h3).2 i hi
  unfold kL at hs
  have hb : x.c.m.testBit i = true := Classical.byContradiction fun hn => g1 ((FY (by omega) hv).2 (Bool.eq_false_iff.2 hn))
  have hw : pv (jN x.c.m (i : Int)) (x.c.v &&& jN x.c.m (i : Int)) (gf S x.o) S.n = true := (j4.1 g2).2.2.2
  rw [hb, hw] at hs
  cases hs
def eD (S : Sp) (x : Rw) : Nat → Cb
 | 0 => x.c
 | i + 1 => if qb S ⟨ji (eD S x i) i, x.o⟩ = true then ji (eD S x i) i else eD S x i
def uo (S : Sp) (x : Rw) : Rw := ⟨eD S x S.n.toNat, kO S (eD S x S.n.toNat)⟩
theorem vw {S : Sp} {x : Rw} {i : Nat} (h : qb S ⟨ji (eD S x i) i, x.o⟩ = true) : ji (eD S x i) i = eD S x (i + 1) := (if_pos h).symm
theorem vq {S : Sp} {x : Rw} {i : Nat} (h : qb S ⟨ji (eD S x i) i, x.o⟩ = false) : eD S x i = eD S x (i + 1) := (if_neg (by rw [h]; decide)).symm
theorem yG {S : Sp} {x : Rw} (h : qb S x = true) : ∀ i, eD S x i = e7 (gf S x.o) S.n x.c i
 | 0 => rfl
 | i + 1 => by
  have ih := yG h i
  obtain ⟨h1, h2, h3, _⟩ := j4.1 h
  have e : qb S ⟨ji (e7 (gf S x.o) S.n x.c i) i, x.o⟩ = pv (ji (e7 (gf S x.o) S.n x.c i) i).m (ji (e7 (gf S x.o) S.n x.c i) i).v (gf S x.o) S.n := by
   rw [Bool.eq_iff_iff]
   exact ⟨fun k => (j4.1 k).2.2.2, fun k => j4.2 ⟨h1, h2, h3, k⟩⟩
  rw [eD, ih, e]
  rfl
theorem tA {S : Sp} {x : Rw} (h : x.c.m < 256 ∧ x.c.v < 256) : ∀ i, (eD S x i).m < 256 ∧ (eD S x i).v < 256
 | 0 => h
 | i + 1 => by
  have ih := tA (S := S) h i
  rw [eD]
  split
  ·exact ⟨Nat.lt_of_le_of_lt (xe _ _) ih.1, Nat.lt_of_le_of_lt Nat.and_le_left ih.2⟩
  ·exact ih
theorem na {S : Sp} {x : Rw} (h : qb S x = true) : oR S (uo S x) = true ∧ rM (uo S x) x = true := by
 obtain ⟨h1, h2, h3, h4⟩ := j4.1 h
 have hg := rC (s := gf S x.o) (n := S.n) (c := x.c) h4
 have e : eD S x S.n.toNat = jL (gf S x.o) S.n x.c := yG h S.n.toNat
 have hsub : ∀ j, x.o.testBit j = true → (kO S (eD S x S.n.toNat)).testBit j = true := fun j hj => by
  have hlt : j < S.may.length := Classical.byContradiction fun hn => by
   rw [f7.1 h3 j (by omega)] at hj; cases hj
  rw [gH, e]
  exact ⟨hlt, (tQ.1 (gg.1 hg.1).1).2 j hlt hj⟩
 have hin : qb S (uo S x) = true := gE.2 ⟨h1, (o0 h2).elim fun j hj => uV (hsub j hj), fun j hj => (gH _).1 hj⟩
 refine ⟨fH.2 ⟨hin, rfl, gg.2 ⟨(j4.1 hin).2.2.2, fun i hi => Bool.eq_false_iff.2 fun hs => ?_⟩⟩, oY.2 ⟨by show jj (eD S x S.n.toNat) x.c = true; rw [e]; exact hg.2, hsub⟩⟩
 unfold kL at hs
 rw [Bool.and_eq_true] at hs
 have hk := (gg.1 hg.1).2 i hi
 unfold kL at hk
 rw [← e] at hk
 have hw : pv (jN (eD S x S.n.toNat).m (i : Int)) ((eD S x S.n.toNat).v &&& jN (eD S x S.n.toNat).m (i : Int)) (gf S x.o) S.n = true := by
  have := (tQ (S := S) (c := ji (eD S x S.n.toNat) i) (o := kO S (eD S x S.n.toNat))).1 hs.2
  exact (tQ (S := S) (c := ji (eD S x S.n.toNat) i) (o := x.o)).2 ⟨this.1, fun j hj ho => this.2 j hj (hsub j ho)⟩
 have hb : (eD S x S.n.toNat).m.testBit i = true := hs.1
 rw [hb, hw] at hk
 cases hk
def AC (a b : Rw) : Bool := decide (a.o < b.o) || (decide (a.o = b.o) && vH a.c b.c)
theorem qW {a b : Rw} : AC a b = true ↔ a.o < b.o ∨ a.o = b.o ∧ (a.c.m < b.c.m ∨ a.c.m = b.c.m ∧ a.c.v < b.c.v) := by
 unfold AC
 rw [Bool.or_eq_true, Bool.and_eq_true, decide_eq_true_eq, decide_eq_true_eq, kG]
def qO (l : List Rw) : Prop := l.Pairwise fun a b => AC a b = true
theorem vM (a : Rw) : AC a a = false := Bool.eq_false_iff.2 fun h => by rw [qW] at h; omega
theorem GK {a b c : Rw} (h : AC a b = true) (k : AC b c = true) : AC a c = true := by
 rw [qW] at *; omega
def iY (S : Sp) (o : Nat) : Nat → List Rw
 | 0 => []
 | k + 1 => if kO S ((eJ (gf S o) S.n).getD k ⟨0, 0⟩) = o then iY S o k ++ [⟨(eJ (gf S o) S.n).getD k ⟨0, 0⟩, o⟩] else iY S o k
abbrev BO (S : Sp) (o : Nat) : List Rw := iY S o (eJ (gf S o) S.n).length
def jT (S : Sp) : Nat → List Rw
 | 0 => []
 | o + 1 => if o = 0 then [] else jT S o ++ BO S o
abbrev eK (S : Sp) : List Rw := jT S (2 ^ S.may.length)
theorem Co {S : Sp} {o k : Nat} (h : kO S ((eJ (gf S o) S.n).getD k ⟨0, 0⟩) = o) : iY S o k ++ [⟨(eJ (gf S o) S.n).getD k ⟨0, 0⟩, o⟩] = iY S o (k + 1) := (if_pos h).symm
theorem AW {S : Sp} {o k : Nat} (h : ¬ kO S ((eJ (gf S o) S.n).getD k ⟨0, 0⟩) = o) : iY S o k = iY S o (k + 1) := (if_neg h).symm
theorem CO {S : Sp} {o : Nat} (h : 0 < o) : jT S o ++ BO S o = jT S (o + 1) := (if_neg (by omega)).symm
theorem rI (S : Sp) (o : Nat) : ∀ k, (iY S o k).length ≤ k
 | 0 => by simp [iY]
 | k + 1 => by
  have := rI S o k
  rw [iY]
  split <;> simp <;> omega
theorem tV {S : Sp} (h8 : S.n ≤ 8) : ∀ o, (jT S o).length ≤ o * 65536
 | 0 => by simp [jT]
 | o + 1 => by
  have ih := tV h8 o
  have h1 := rI S o (eJ (gf S o) S.n).length
  have h2 := ui (s := gf S o) h8
  rw [jT]
  split
  ·simp
  ·simp only [List.length_append]; show (jT S o).length + (iY S o (eJ (gf S o) S.n).length).length ≤ _; omega
theorem m4 {S : Sp} {o : Nat} {x : Rw} : ∀ k, x ∈ iY S o k ↔ ∃ j, j < k ∧ x = ⟨(eJ (gf S o) S.n).getD j ⟨0, 0⟩, o⟩ ∧ kO S x.c = o
 | 0 => by simp [iY]
 | k + 1 => by
  rw [iY]
  split
  ·rename_i h
   rw [List.mem_append, List.mem_singleton, m4 k]
   constructor
   ·rintro (⟨j, hj, r⟩ | rfl)
    ·exact ⟨j, by omega, r⟩
    ·exact ⟨k, by omega, rfl, h⟩
   ·rintro ⟨j, hj, r, r2⟩
    rcases Nat.lt_succ_iff_lt_or_eq.1 hj with hj | rfl
    ·exact .inl ⟨j, hj, r, r2⟩
    ·exact .inr r
  ·rename_i h
   rw [m4 k]
   constructor
   ·rintro ⟨j, hj, r⟩; exact ⟨j, by omega, r⟩
   ·rintro ⟨j, hj, r, r2⟩
    rcases Nat.lt_succ_iff_lt_or_eq.1 hj with hj | rfl
    ·exact ⟨j, hj, r, r2⟩
    ·subst r; exact absurd r2 h
theorem Hb {S : Sp} {o : Nat} {x : Rw} (hr : dO S = true) (h0 : 0 < o) (ho : o < 2 ^ S.may.length) : x ∈ BO S o ↔ oR S x = true ∧ x.o = o := by
 unfold BO
 rw [m4]
 constructor
 ·rintro ⟨j, hj, rfl, h2⟩
  have hp := nE.1 (dV (d := ⟨0, 0⟩) hj)
  have hin : qb S ⟨(eJ (gf S o) S.n).getD j ⟨0, 0⟩, o⟩ = true := j4.2 ⟨hr, h0, ho, (gg.1 hp).1⟩
  exact ⟨fH.2 ⟨hin, h2, hp⟩, rfl⟩
 ·rintro ⟨h1, rfl⟩
  obtain ⟨g1, g2, g3⟩ := fH.1 h1
  obtain ⟨j, hj, he⟩ := fq (d := ⟨0, 0⟩) (nE.2 g3)
  have he' : (eJ (gf S x.o) S.n).getD j ⟨0, 0⟩ = x.c := he
  exact ⟨j, hj, by rw [he'], g2⟩
theorem ya {S : Sp} {x : Rw} (hr : dO S = true) : ∀ o, o ≤ 2 ^ S.may.length → (x ∈ jT S o ↔ oR S x = true ∧ x.o < o)
 | 0, _ => by simp [jT]
 | o + 1, ho => by
  rw [jT]
  split
  ·rename_i h
   subst h
   constructor
   ·intro h; cases h
   ·rintro ⟨h1, h2⟩
    have := (gE.1 (fH.1 h1).1).2.1
    omega
  ·rename_i h
   rw [List.mem_append, ya hr o (by omega), Hb hr (by omega) (by omega)]
   constructor
   ·rintro (⟨h1, h2⟩ | ⟨h1, h2⟩)
    ·exact ⟨h1, by omega⟩
    ·exact ⟨h1, by omega⟩
   ·rintro ⟨h1, h2⟩
    rcases Nat.lt_succ_iff_lt_or_eq.1 h2 with h2 | h2
    ·exact .inl ⟨h1, h2⟩
    ·exact .inr ⟨h1, h2⟩
theorem oa {S : Sp} {x : Rw} (hr : dO S = true) : x ∈ eK S ↔ oR S x = true := by
 rw [ya hr _ (Nat.le_refl _)]
 exact ⟨fun h => h.1, fun h => ⟨h, (oH (fH.1 h).1).1⟩⟩
theorem CT {l : List Cb} (h : iU l) {i j : Nat} (hij : i < j) (hj : j < l.length) : vH (l.getD i ⟨0, 0⟩) (l.getD j ⟨0, 0⟩) = true := by
 have := List.pairwise_iff_getElem.1 h i j (by omega) hj hij
 simpa [List.getD_eq_getElem?_getD, List.getElem?_eq_getElem hj, List.getElem?_eq_getElem (show i < l.length by omega)] using this
theorem ri (S : Sp) (o : Nat) : ∀ k, k ≤ (eJ (gf S o) S.n).length → qO (iY S o k)
 | 0, _ => by simp [iY, qO]
 | k + 1, hk => by
  have ih := ri S o k (by omega)
  rw [iY]
  split
  ·refine List.pairwise_append.2 ⟨ih, by simp, fun a ha b hb => ?_⟩
   rw [List.mem_singleton] at hb
   subst hb
   obtain ⟨j, hj, rfl, _⟩ := (m4 k).1 ha
   have := CT (pL (gf S o) S.n) hj (by omega)
   unfold AC
   rw [this]
   simp
  ·exact ih
theorem E6 {S : Sp} {o : Nat} {x : Rw} (h : x ∈ BO S o) : x.o = o := by
 obtain ⟨_, _, rfl, _⟩ := (m4 _).1 h
 rfl
theorem Gc {S : Sp} {x : Rw} : ∀ o, x ∈ jT S o → x.o < o
 | 0, h => by simp [jT] at h
 | o + 1, h => by
  rw [jT] at h
  split at h
  ·cases h
  ·rcases List.mem_append.1 h with h | h
   ·have := Gc o h; omega
   ·have := E6 h; omega
theorem oW (S : Sp) : ∀ o, qO (jT S o)
 | 0 => by simp [jT, qO]
 | o + 1 => by
  have ih := oW S o
  rw [jT]
  split
  ·simp [qO]
  ·refine List.pairwise_append.2 ⟨ih, ri S o _ (Nat.le_refl _), fun a ha b hb => ?_⟩
   have h1 := Gc o ha
   have h2 := E6 hb
   rw [qW]
   omega
def oG (l : List Rw) (x : Rw) : Nat → Nat
 | 0 => 0
 | i + 1 => if AC x (l.getD i ⟨⟨0, 0⟩, 0⟩) = true then oG l x i else i + 1
def GH (l : List Rw) (x : Rw) : List Rw := l.take (oG l x l.length) ++ x :: l.drop (oG l x l.length)
def ft (l : List Rw) : Nat → List Rw
 | 0 => []
 | k + 1 => GH (ft l k) (l.getD k ⟨⟨0, 0⟩, 0⟩)
theorem Fc (l : List Rw) (x : Rw) : ∀ k, oG l x k ≤ k
 | 0 => by simp [oG]
 | k + 1 => by
  have := Fc l x k
  rw [oG]
  split <;> omega
theorem GF {l : List Rw} {x : Rw} {i : Nat} (h0 : 0 < i) (h : AC x (l.getD (i - 1) ⟨⟨0, 0⟩, 0⟩) = true) : oG l x i = oG l x (i - 1) := by
 obtain ⟨j, rfl⟩ : ∃ j, i = j + 1 := ⟨i - 1, by omega⟩
 rw [oG, if_pos (by simpa using h)]; rfl
theorem Ck {l : List Rw} {x : Rw} {i : Nat} (h : i = 0 ∨ AC x (l.getD (i - 1) ⟨⟨0, 0⟩, 0⟩) = false) : oG l x i = i := by
 rcases h with rfl | h
 ·rfl
 ·cases i with
  | zero => rfl
  | succ j => rw [oG, if_neg (by simp at h; simp [h])]
theorem HI (l : List Rw) (x : Rw) : (GH l x).length = l.length + 1 := by
 have := Fc l x l.length
 simp [GH]; omega
theorem oN (l : List Rw) : ∀ k, (ft l k).length = k
 | 0 => rfl
 | k + 1 => by rw [ft, HI, oN l k]
theorem ul {l : List Rw} (h : qO l) : ∀ k, k ≤ l.length → ft l k = l.take k
 | 0, _ => rfl
 | k + 1, hk => by
  have ih := ul h k (by omega)
  have e : l.getD k ⟨⟨0, 0⟩, 0⟩ = l[k] := by simp [show k < l.length by omega]
  have hp : oG (l.take k) l[k] (l.take k).length = (l.take k).length := Ck (by
   by_cases h0 : (l.take k).length = 0
   ·exact .inl h0
   ·right
    have hl : (l.take k).length = k := by simp; omega
    rw [hl] at h0 ⊢
    have hlt := List.pairwise_iff_getElem.1 h (k - 1) k (by omega) (by omega) (by omega)
    have e2 : (l.take k).getD (k - 1) ⟨⟨0, 0⟩, 0⟩ = l[k - 1] := by
     simp [List.getD_eq_getElem?_getD, List.getElem?_take, show k - 1 < k by omega, List.getElem?_eq_getElem (show k - 1 < l.length by omega)]
    rw [e2]
    refine Bool.eq_false_iff.2 fun hb => ?_
    have := GK hlt hb
    rw [vM] at this
    cases this)
  rw [ft, ih, e, GH, hp, List.take_length, List.drop_length, List.take_succ_eq_append_getElem (by omega)]
theorem GJ (S : Sp) : ft (eK S) (eK S).length = eK S := by
 rw [ul (oW S _) _ (Nat.le_refl _), List.take_length]
def mI (l : List Rw) (n o : Nat) : Nat → Nat
 | 0 => 0
 | k + 1 => if (l.getD k ⟨⟨0, 0⟩, 0⟩).o.testBit o = true then mI l n o k ||| q7 (l.getD k ⟨⟨0, 0⟩, 0⟩).c.m (l.getD k ⟨⟨0, 0⟩, 0⟩).c.v n else mI l n o k
theorem Kh {l : List Rw} {n o k : Nat} (h : (l.getD k ⟨⟨0, 0⟩, 0⟩).o.testBit o = true) : mI l n o k ||| q7 (l.getD k ⟨⟨0, 0⟩, 0⟩).c.m (l.getD k ⟨⟨0, 0⟩, 0⟩).c.v n = mI l n o (k + 1) := (if_pos h).symm
theorem Ij {l : List Rw} {n o k : Nat} (h : ¬ (l.getD k ⟨⟨0, 0⟩, 0⟩).o.testBit o = true) : mI l n o k = mI l n o (k + 1) := (if_neg h).symm
def NZ (x : Rw) (o p : Nat) : Prop := x.o.testBit o = true ∧ hold x.c p
theorem kC {l : List Rw} {n o : Nat} (hn : n ≤ 8) (p : Nat) : ∀ k, k ≤ l.length → ((mI l n o k).testBit p = true ↔ p < 2 ^ n ∧ ∃ j, j < k ∧ NZ (l.getD j ⟨⟨0, 0⟩, 0⟩) o p)
 | 0, _ => by simp [mI]
 | k + 1, hk => by
  have ih := kC (l := l) (o := o) hn p k (by omega)
  rw [mI]
  split
  ·rename_i h
   rw [Nat.testBit_or, Bool.or_eq_true, ih, jJ hn, Bool.and_eq_true, decide_eq_true_eq, decide_eq_true_eq]
   constructor
   ·rintro (⟨h1, j, hj, r⟩ | ⟨h1, h2⟩)
    ·exact ⟨h1, j, by omega, r⟩
    ·exact ⟨h1, k, by omega, h, h2⟩
   ·rintro ⟨h1, j, hj, r⟩
    rcases Nat.lt_succ_iff_lt_or_eq.1 hj with hj | rfl
    ·exact .inl ⟨h1, j, hj, r⟩
    ·exact .inr ⟨h1, r.2⟩
  ·rename_i h
   rw [ih]
   constructor
   ·rintro ⟨h1, j, hj, r⟩; exact ⟨h1, j, by omega, r⟩
   ·rintro ⟨h1, j, hj, r⟩
    rcases Nat.lt_succ_iff_lt_or_eq.1 hj with hj | rfl
    ·exact ⟨h1, j, hj, r⟩
    ·exact absurd r.1 h
def Ez (S : Sp) (x : Rw) : Bool := d7 x.c.m x.c.v S.n && (decide (0 < x.o) && decide (x.o < 2 ^ S.on.length))
def oK (S : Sp) (l : List Rw) : Bool := l.all (Ez S)
def xQ (S : Sp) (l : List Rw) (o : Nat) : Bool := eA (AA S o) (mI l S.n.toNat o l.length) && eA (mI l S.n.toNat o l.length) (jq S o)
def gW (S : Sp) (l : List Rw) : Bool := dO S && (oK S l && (List.range S.on.length).all (xQ S l))
theorem gr {S : Sp} {l : List Rw} : gW S l = true ↔ dO S = true ∧ oK S l = true ∧ ∀ o, o < S.on.length → xQ S l o = true := by
 unfold gW
 rw [Bool.and_eq_true, Bool.and_eq_true, List.all_eq_true]
 simp only [List.mem_range]
theorem kP {S : Sp} {l : List Rw} : oK S l = true ↔ ∀ k, k < l.length → Ez S (l.getD k ⟨⟨0, 0⟩, 0⟩) = true := by
 unfold oK
 rw [List.all_eq_true]
 constructor
 ·intro h k hk; exact h _ (dV hk)
 ·intro h x hx
  obtain ⟨k, hk, rfl⟩ := fq (d := ⟨⟨0, 0⟩, 0⟩) hx
  exact h k hk
theorem jo {S : Sp} {x : Rw} : Ez S x = true ↔ d7 x.c.m x.c.v S.n = true ∧ 0 < x.o ∧ x.o < 2 ^ S.on.length := by
 unfold Ez
 rw [Bool.and_eq_true, Bool.and_eq_true, decide_eq_true_eq, decide_eq_true_eq]
end
section
open Go Go.RowKit
theorem ic {b : Bool} (h : (!b) = false) : b = true := by cases b <;> simp_all
theorem i6 {b : Bool} (h : (!b) = true) : b = false := by cases b <;> simp_all
theorem ze {b : Bool} (h : b = true) : Value.bool true = .bool b := by rw [h]
theorem nI {b : Bool} (h : ¬ b = true) : Value.bool false = .bool b := by rw [Bool.eq_false_iff.2 h]
theorem xv {n er : Int} {sa : Nat} (h : (0 ≤ n ∧ n ≤ 8 ∧ sa = fo n.toNat ∧ er = 0) ∨ (¬ (0 ≤ n ∧ n ≤ 8) ∧ er = 1)) (h0 : ¬ ¬ er = 0) : 0 ≤ n ∧ n ≤ 8 ∧ sa = fo n.toNat := by
 rcases h with ⟨h1, h2, h3, _⟩ | ⟨_, h2⟩
 ·exact ⟨h1, h2, h3⟩
 ·omega
theorem Qd {n er : Int} {sa : Nat} (h : (0 ≤ n ∧ n ≤ 8 ∧ sa = fo n.toNat ∧ er = 0) ∨ (¬ (0 ≤ n ∧ n ≤ 8) ∧ er = 1)) (h0 : ¬ er = 0) : ¬ (0 ≤ n ∧ n ≤ 8) := by
 rcases h with ⟨_, _, _, h2⟩ | ⟨h1, _⟩
 ·exact absurd h2 h0
 ·exact h1
theorem IC {o i : Nat} : decide (((o / 2 ^ i % 2 : Nat) : Int) = 1) = o.testBit i := by
 rw [ie, v8]
def mZ (o : Nat) : Nat → Bool
 | 0 => false
 | k + 1 => mZ o k || o.testBit k
theorem Jl {o k : Nat} (h : o.testBit k = true) : true = mZ o (k + 1) := by rw [mZ, h, Bool.or_true]
theorem Kk {o k : Nat} (h : o.testBit k = false) : mZ o k = mZ o (k + 1) := by rw [mZ, h, Bool.or_false]
theorem wB {o : Nat} : ∀ k, mZ o k = true ↔ ∃ j, j < k ∧ o.testBit j = true
 | 0 => by simp [mZ]
 | k + 1 => by
  rw [mZ, Bool.or_eq_true, wB k]
  constructor
  ·rintro (⟨j, hj, h⟩ | h)
   ·exact ⟨j, by omega, h⟩
   ·exact ⟨k, by omega, h⟩
  ·rintro ⟨j, hj, h⟩
   rcases Nat.lt_succ_iff_lt_or_eq.1 hj with hj | rfl
   ·exact .inl ⟨j, hj, h⟩
   ·exact .inr h
def Qh (o outs : Nat) : Bool := decide (0 < o) && decide (o < 2 ^ outs)
theorem zl {o outs : Nat} : Qh o outs = true ↔ 0 < o ∧ o < 2 ^ outs := by unfold Qh; rw [Bool.and_eq_true, decide_eq_true_eq, decide_eq_true_eq]
theorem Pz {o outs k : Nat} (h : o.testBit k = true) (hk : outs ≤ k) : Qh o outs = false := Bool.eq_false_iff.2 fun hh => by
 rw [f7.1 (zl.1 hh).2 k hk] at h; cases h
theorem EK {o outs : Nat} (h8 : o < 256) (h : ∀ j, j < 8 → o.testBit j = true → j < outs) : Qh o outs = mZ o 8 := by
 have hz : ∀ j, 8 ≤ j → o.testBit j = false := (f7 (n := 8)).1 h8
 rw [Bool.eq_iff_iff, zl, wB]
 constructor
 ·rintro ⟨h1, _⟩
  obtain ⟨j, hj⟩ := o0 h1
  by_cases h8 : j < 8
  ·exact ⟨j, h8, hj⟩
  ·rw [hz j (by omega)] at hj; cases hj
 ·rintro ⟨j, hj, hb⟩
  refine ⟨uV hb, f7.2 fun i hi => Bool.eq_false_iff.2 fun hb2 => ?_⟩
  by_cases h8 : i < 8
  ·have := h i h8 hb2; omega
  ·rw [hz i (by omega)] at hb2; cases hb2
theorem KR {S : Sp} {m u o : Nat} (h1 : dO S = true) (h2 : (0 : Int) < (o : Int)) : decide (((andNot o (kO S ⟨m, u⟩) : Nat) : Int) = 0) = qb S ⟨⟨m, u⟩, o⟩ := by
 unfold qb
 rw [h1, decide_eq_true (show 0 < o by omega), Bool.true_and, Bool.true_and, Bool.eq_iff_iff, decide_eq_true_eq, decide_eq_true_eq]
 exact Int.ofNat_inj
theorem JJ {S : Sp} {m u o : Nat} (h2 : ¬ (0 : Int) < (o : Int)) : ¬ qb S ⟨⟨m, u⟩, o⟩ = true := fun hi => by
 have h3 : 0 < o := (gE.1 hi).2.1
 omega
theorem Kc {S : Sp} {x : Rw} (h2 : dO S = false) : ¬ qb S x = true := fun hi => by
 have := (gE.1 hi).1
 rw [h2] at this; cases this
theorem LN {a b k : Nat} (ha : a < 2 ^ k) : a + 2 ^ k = a ||| 2 ^ k := by
 have h := Nat.two_pow_add_eq_or_of_lt ha 1
 rw [Nat.mul_one] at h
 rw [Nat.add_comm, h, Nat.or_comm]
theorem Lc {a k : Nat} (h : a.testBit k = false) : a + 2 ^ k = a ||| 2 ^ k := by
 have e : a = 2 ^ (k + 1) * (a / 2 ^ (k + 1)) + a % 2 ^ (k + 1) := (Nat.div_add_mod a _).symm
 have hlow : a % 2 ^ (k + 1) < 2 ^ k := by
  refine f7.2 fun j hj => ?_
  rw [Nat.testBit_mod_two_pow]
  by_cases hjk : j = k
  ·subst hjk; rw [h, Bool.and_false]
  ·rw [decide_eq_false (by omega), Bool.false_and]
 have hlt : a % 2 ^ (k + 1) + 2 ^ k < 2 ^ (k + 1) := by have := Nat.pow_succ 2 k; omega
 have e2 : a + 2 ^ k = 2 ^ (k + 1) * (a / 2 ^ (k + 1)) + (a % 2 ^ (k + 1) + 2 ^ k) := by omega
 rw [e2, Nat.two_pow_add_eq_or_of_lt hlt, LN (b := 0) hlow, ← Nat.or_assoc, ← Nat.two_pow_add_eq_or_of_lt (Nat.mod_lt _ (Nat.two_pow_pos _)), ← e]
theorem Qz {m u o m2 u2 o2 : Nat} (h : ¬ (o : Int) = (o2 : Int)) : decide ((o : Int) < (o2 : Int)) = AC ⟨⟨m, u⟩, o⟩ ⟨⟨m2, u2⟩, o2⟩ := by
 rw [Bool.eq_iff_iff, qW, decide_eq_true_eq]
 simp only
 omega
theorem Qp {m u o m2 u2 o2 : Nat} (h : ¬ ¬ (o : Int) = (o2 : Int)) (h2 : ¬ (m : Int) = (m2 : Int)) : decide ((m : Int) < (m2 : Int)) = AC ⟨⟨m, u⟩, o⟩ ⟨⟨m2, u2⟩, o2⟩ := by
 rw [Bool.eq_iff_iff, qW, decide_eq_true_eq]
 simp only
 omega
theorem Ql {m u o m2 u2 o2 : Nat} (h : ¬ ¬ (o : Int) = (o2 : Int)) (h2 : ¬ ¬ (m : Int) = (m2 : Int)) : decide ((u : Int) < (u2 : Int)) = AC ⟨⟨m, u⟩, o⟩ ⟨⟨m2, u2⟩, o2⟩ := by
 rw [Bool.eq_iff_iff, qW, decide_eq_true_eq]
 simp only
 omega
theorem Ed {l : List Rw} {x : Rw} {i : Nat} (h0 : 0 < i) (h : AC x (l.getD ((i : Int) - 1).toNat ⟨⟨0, 0⟩, 0⟩) = true) : oG l x i = oG l x (i - 1) :=
 GF h0 (by rwa [show ((i : Int) - 1).toNat = i - 1 by omega] at h)
theorem yR {l : List Rw} {x : Rw} {i : Nat} (h : i = 0 ∨ AC x (l.getD ((i : Int) - 1).toNat ⟨⟨0, 0⟩, 0⟩) = false) : oG l x i = i :=
 Ck (by rwa [show ((i : Int) - 1).toNat = i - 1 by omega] at h)
theorem wQ {sz : Nat} {v : Value} {h : Nat} {α : Type} {l : List α} (e : ((l.drop 0).take (h - 0)).length = h - 0) : jb (fZ sz v 0 h h) = ((l.drop 0).take (h - 0)).length := e.symm
theorem Ht {s : Nat} {n : Int} (h8 : n ≤ 8) {i : Nat} (hi : i < (eJ s n).length) : ((eJ s n).getD i ⟨0, 0⟩).m < 256 ∧ ((eJ s n).getD i ⟨0, 0⟩).v < 256 := by
 have := lT (kx (JT hi))
 have h2 := fl h8
 omega
theorem uH {o i : Nat} (h : ((o / 2 ^ ((i : Nat) : Int).toNat &&& 1 : Nat) : Int) = 1) : o.testBit i = true := lz.1 h
theorem uU {o i : Nat} (h : ¬ ((o / 2 ^ ((i : Nat) : Int).toNat &&& 1 : Nat) : Int) = 1) : ¬ o.testBit i = true := fun k => h (lz.2 k)
theorem Df {a b : Nat} (h : (a : Int) = (b : Int)) : a = b := Int.ofNat_inj.1 h
end
section
open Go Go.RowKit Go.ChangeShapes Go.WideShapes Go.ChangeAt Go.Joins Go.Deep
section
variable {H : Type} {encH : TypeId × Value → H} {P : Program} {w : World} {base : Nat} {held : Bool} {r : Reach} {b0 : Nat} {t e : TypeId}
theorem Iq {u : TypeId} (ht : P.underlying t = some (.array 4 u)) (hu : P.underlying u = some (.int .u64)) (hc : P.cellsOf u = 1) {n : Nat} {cs : List Value} {y : DataW H × List MemPlace} (hl : cs.length = 4) (h : DataW.trod encH P w base (fun _ => true) held n t cs = some y) : ∃ s : Nat, cs = gp s ∧ s < 2 ^ 256 := by
 match cs, hl with
 | [c0, c1, c2, c3], _ =>
  obtain ⟨y0, y1, y2, y3, n, hx, h0, h1, h2, h3⟩ := trod_array4 ht hc h
  obtain ⟨n0, e0, _, w0⟩ := DataW.trod_int hu h0
  obtain ⟨n1, e1, _, w1⟩ := DataW.trod_int hu h1
  obtain ⟨n2, e2, _, w2⟩ := DataW.trod_int hu h2
  obtain ⟨n3, e3, _, w3⟩ := DataW.trod_int hu h3
  simp only [List.cons.injEq, and_true] at e0 e1 e2 e3
  subst e0 e1 e2 e3
  obtain ⟨k0, rfl, l0⟩ := Ar w0
  obtain ⟨k1, rfl, l1⟩ := Ar w1
  obtain ⟨k2, rfl, l2⟩ := Ar w2
  obtain ⟨k3, rfl, l3⟩ := Ar w3
  obtain ⟨s, hs, hv⟩ := y7 l0 l1 l2 l3
  refine ⟨s, ?_, hs⟩
  have := congrArg (fun v : Value => v.cells.toList) hv
  exact this
theorem open_spec {v : Value} {d : DataW H} {p : List MemPlace} {f0 f1 f2 : Field} {u eS : TypeId} (hs : P.underlying t = some (.struct #[f0, f1, f2])) (hone : oneCellFields P #[f0, f1, f2] = true) (hC : P.cellsOf t = 3) (h0 : P.underlying f0.type = some (.int .i64)) (h1 : P.underlying f1.type = some (.slice eS)) (h2 : P.underlying f2.type = some (.slice eS))
  (hc : P.cellsOf eS = 4) (hS : P.underlying eS = some (.array 4 u)) (hu : P.underlying u = some (.int .u64)) (hcu : P.cellsOf u = 1) (hv : Value.okWide P w r b0 t v) (h : DataW.Trod encH P w base (fun _ => true) held t v d p) :
  ∃ (S : Sp) (onV mayV : Value), v = .agg #[.int .i64 S.n, onV, mayV] ∧ dN gp 4 w onV S.on ∧ dN gp 4 w mayV S.may ∧ (-9223372036854775808 ≤ S.n ∧ S.n ≤ 9223372036854775807) ∧ (∀ s ∈ S.on, s < 2 ^ 256) ∧ ∀ s ∈ S.may, s < 2 ^ 256 := by
 obtain ⟨v0, v1, v2, y0, y1, y2, n, rfl, _, _, g0, g1, g2⟩ := open_agg3 hs hone hC hv h
 obtain ⟨z, e0, _, w0⟩ := DataW.trod_int h0 g0
 simp only [List.cons.injEq, and_true] at e0
 subst e0
 obtain ⟨l1, k1, q1⟩ := open_sl (α := Nat) h1 hc (by decide) dI (fun n cs y hl hh => Iq hS hu hcu hl hh) g1
 obtain ⟨l2, k2, q2⟩ := open_sl (α := Nat) h2 hc (by decide) dI (fun n cs y hl hh => Iq hS hu hcu hl hh) g2
 exact ⟨⟨z, l1, l2⟩, v1, v2, rfl, k1, k2, NQ w0, q1, q2⟩
theorem open_pair {v : Value} {d : DataW H} {p : List MemPlace} {f0 f1 : Field} (hs : P.underlying t = some (.struct #[f0, f1])) (hone : oneCellFields P #[f0, f1] = true) (hC : P.cellsOf t = 2) (h0 : P.underlying f0.type = some (.int .i64)) (h1 : P.underlying f1.type = some (.int .i64))
  (hv : Value.okWide P w r b0 t v) (h : DataW.Trod encH P w base (fun _ => true) held t v d p) : ∃ a b : Int, v = .agg #[.int .i64 a, .int .i64 b] := by
 obtain ⟨v0, v1, y0, y1, n, rfl, _, _, g0, g1⟩ := open_agg2 hs hone hC hv h
 obtain ⟨z0, e0, _, _⟩ := DataW.trod_int h0 g0
 obtain ⟨z1, e1, _, _⟩ := DataW.trod_int h1 g1
 simp only [List.cons.injEq, and_true] at e0 e1
 subst e0 e1
 exact ⟨z0, z1, rfl⟩
instance : Inhabited Rw := ⟨⟨⟨0, 0⟩, 0⟩⟩
instance : Inhabited Cb := ⟨⟨0, 0⟩⟩
end
end
end Go.Proofs.YteimkklmmanncaaGreat
