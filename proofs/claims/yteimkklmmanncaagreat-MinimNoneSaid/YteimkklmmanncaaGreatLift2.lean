/- Primes out of cubes of one literal less, again and again. No program in it. Each cube within a set is held by a prime; the primes' points are the set's. No program in it. Plain words for covers without a search: sides of sets, the cover by the sides, its points, that no cube of it is too much. No pr -/
import Derived.Test.YteimkklmmanncaaGreatPrime
namespace Go.Proofs.YteimkklmmanncaaGreat
set_option linter.unusedVariables false
set_option linter.unusedSimpArgs false
section
open Go Go.RowKit
theorem sW {m u : Nat} {n : Int} {v : Value} (h : v = if dY m u n = true then .tuple #[eP (qH m u n.toNat), .int .i64 0] else .tuple #[eP 0, .int .i64 1]) :
  ∃ (sa : Nat) (er : Int), v = .tuple #[eP sa, .int .i64 er] ∧ ((dY m u n = true ∧ sa = qH m u n.toNat ∧ er = 0) ∨ (dY m u n = false ∧ er = 1)) := by
 by_cases hr : dY m u n = true
 ·rw [if_pos hr] at h
  exact ⟨_, _, h, .inl ⟨hr, rfl, rfl⟩⟩
 ·rw [if_neg hr] at h
  exact ⟨_, _, h, .inr ⟨by simpa using hr, rfl⟩⟩
theorem GU {m u s sa : Nat} {n er : Int} (h : (dY m u n = true ∧ sa = qH m u n.toNat ∧ er = 0) ∨ (dY m u n = false ∧ er = 1)) (h0 : er = 0) : ep sa s = o0 m u s n := by
 rcases h with ⟨h1, rfl, _⟩ | ⟨_, h2⟩
 ·exact Nz h1
 ·omega
theorem D7 {m u s sa : Nat} {n er : Int} (h : (dY m u n = true ∧ sa = qH m u n.toNat ∧ er = 0) ∨ (dY m u n = false ∧ er = 1)) (h0 : ¬ er = 0) : false = o0 m u s n := by
 rcases h with ⟨_, _, h2⟩ | ⟨h1, _⟩
 ·exact absurd h2 h0
 ·exact Pk h1
theorem ID {m u m2 u2 : Nat} (h : (m : Int) < (m2 : Int)) : true = vG ⟨m, u⟩ ⟨m2, u2⟩ := (km.2 (.inl (by simp only; omega))).symm
theorem IH {m u m2 u2 : Nat} (_h : ¬ (m : Int) < (m2 : Int)) (h2 : (m : Int) = (m2 : Int)) : decide ((u : Int) < (u2 : Int)) = vG ⟨m, u⟩ ⟨m2, u2⟩ := by
 rw [Bool.eq_iff_iff, km, decide_eq_true_eq]
 simp only
 omega
theorem Hs {m u m2 u2 : Nat} (h : ¬ (m : Int) < (m2 : Int)) (h2 : ¬ (m : Int) = (m2 : Int)) : false = vG ⟨m, u⟩ ⟨m2, u2⟩ := by
 symm
 refine Bool.eq_false_iff.2 fun h3 => ?_
 rw [km] at h3
 simp only at h3
 omega
theorem I5 {l : List Cb} {c : Cb} {i : Nat} (hi : 0 < i) (h : (!vG (l.getD ((i : Int) - 1).toNat ⟨0, 0⟩) c) = true) : mQ l c i = mQ l c (i - 1) := by
 obtain ⟨j, rfl⟩ : ∃ j, i = j + 1 := ⟨i - 1, by omega⟩
 have e : ((j + 1 : Nat) : Int) - 1 = (j : Int) := by omega
 rw [e, Int.toNat_natCast] at h
 simp only [mQ]
 rw [if_neg (by simpa using h)]
 rfl
theorem DD {l : List Cb} {c : Cb} {i : Nat} (h : i = 0 ∨ (!vG (l.getD ((i : Int) - 1).toNat ⟨0, 0⟩) c) = false) : mQ l c i = i := by
 rcases h with rfl | h
 ·rfl
 ·cases i with
  | zero => rfl
  | succ j =>
   have e : ((j + 1 : Nat) : Int) - 1 = (j : Int) := by omega
   rw [e, Int.toNat_natCast] at h
   simp only [mQ]
   rw [if_pos (by simpa using h)]
theorem qt {sz : Nat} {v : Value} {h : Nat} {α : Type} {l : List α} (e : ((l.drop 0).take (h - 0)).length = h - 0) : iV (fV sz v 0 h h) = ((l.drop 0).take (h - 0)).length := e.symm
def i4 (c : Cb) (i : Nat) : Cb := ⟨jx c.m (i : Int), c.v &&& jx c.m (i : Int)⟩
def DP (c : Cb) (i : Nat) : Cb := ⟨c.m, c.v ^^^ 2 ^ i⟩
def imp (s : Nat) (n : Int) (c : Cb) : Prop := o0 c.m c.v s n = true
theorem fY {s : Nat} {n : Int} {c : Cb} : imp s n c ↔ dY c.m c.v n = true ∧ ∀ p, p < 2 ^ n.toNat → p &&& c.m = c.v → s.testBit p = true := by
 unfold imp o0
 rw [Bool.and_eq_true]
 constructor
 ·rintro ⟨h1, h2⟩
  obtain ⟨h0, h8, hm, hv⟩ := dW.1 h1
  refine ⟨h1, fun p hp hpm => ?_⟩
  have := fh h8
  exact d5.1 h2 p (by omega) (by rw [jq (by omega)]; simp [hp, hpm])
 ·rintro ⟨h1, h2⟩
  obtain ⟨h0, h8, hm, hv⟩ := dW.1 h1
  refine ⟨h1, d5.2 fun p _ hp => ?_⟩
  rw [jq (by omega)] at hp
  simp at hp
  exact h2 p hp.1 hp.2
theorem eU {m v : Nat} (h : v &&& m = v) (j : Nat) : v.testBit j = (v.testBit j && m.testBit j) := by
 conv => lhs; rw [← h, Nat.testBit_and]
theorem yd {m v i p : Nat} (hi : i < 8) (hb : m.testBit i = true) (hv : v &&& m = v) : p &&& jx m (i : Int) = v &&& jx m (i : Int) ↔ (p &&& m = v ∨ p &&& m = v ^^^ 2 ^ i) := by
 have hw := fun j => eM (m := m) hi j
 have hvb := eU hv
 constructor
 ·intro h
  have hj : ∀ j, j ≠ i → (p.testBit j && m.testBit j) = (v.testBit j && m.testBit j) := fun j hj => by
   have := congrArg (fun x => x.testBit j) h
   simp only [Nat.testBit_and, hw, decide_eq_true hj, Bool.and_true] at this
   exact this
  by_cases e : p.testBit i = v.testBit i
  ·left
   refine Nat.eq_of_testBit_eq fun j => ?_
   rw [Nat.testBit_and, hvb j]
   by_cases hji : j = i
   ·subst hji; rw [e]
   ·exact hj j hji
  ·right
   refine Nat.eq_of_testBit_eq fun j => ?_
   rw [Nat.testBit_and, Nat.testBit_xor, Nat.testBit_two_pow]
   by_cases hji : j = i
   ·subst hji
    rw [hb]
    cases hp : p.testBit j <;> cases hq : v.testBit j <;> simp_all
   ·have : ¬ i = j := fun h => hji h.symm
    rw [hj j hji, ← hvb j]
    simp [this]
 ·rintro (h | h)
  ·refine Nat.eq_of_testBit_eq fun j => ?_
   have := congrArg (fun x => x.testBit j) h
   simp only [Nat.testBit_and] at this
   rw [Nat.testBit_and, Nat.testBit_and, hw, ← Bool.and_assoc, this, ← Bool.and_assoc, ← hvb j]
  ·refine Nat.eq_of_testBit_eq fun j => ?_
   have := congrArg (fun x => x.testBit j) h
   simp only [Nat.testBit_and, Nat.testBit_xor, Nat.testBit_two_pow] at this
   rw [Nat.testBit_and, Nat.testBit_and, hw, ← Bool.and_assoc, this, ← Bool.and_assoc, ← hvb j]
   by_cases hji : j = i
   ·subst hji; simp
   ·have : ¬ i = j := fun h => hji h.symm
    simp [this]
theorem Al {m v i : Nat} {n : Int} (h : dY m v n = true) : dY (jx m (i : Int)) (v &&& jx m (i : Int)) n = true := by
 obtain ⟨h0, h8, hm, hv⟩ := dW.1 h
 have := wF m (i : Int)
 exact dW.2 ⟨h0, h8, by omega, by rw [Nat.and_assoc, Nat.and_self]⟩
theorem Dg {m v i : Nat} {n : Int} (h : dY m v n = true) (hb : m.testBit i = true) : dY m (v ^^^ 2 ^ i) n = true := by
 obtain ⟨h0, h8, hm, hv⟩ := dW.1 h
 refine dW.2 ⟨h0, h8, hm, Nat.eq_of_testBit_eq fun j => ?_⟩
 have hvb := eU hv j
 rw [Nat.testBit_and, Nat.testBit_xor, Nat.testBit_two_pow]
 by_cases hji : i = j
 ·subst hji; simp [hb]
 ·simp only [hji, decide_false, Bool.xor_false]
  exact hvb.symm
theorem yS {s i : Nat} {n : Int} {c : Cb} (hr : dY c.m c.v n = true) (hi : i < n.toNat) (hb : c.m.testBit i = true) : imp s n (i4 c i) ↔ imp s n c ∧ imp s n (DP c i) := by
 obtain ⟨h0, h8, hm, hv⟩ := dW.1 hr
 have hw := fun p => yd (p := p) (i := i) (by omega) hb hv
 rw [fY, fY, fY]
 constructor
 ·rintro ⟨h1, h2⟩
  exact ⟨⟨hr, fun p hp hpm => h2 p hp ((hw p).2 (.inl hpm))⟩, ⟨Dg hr hb, fun p hp hpm => h2 p hp ((hw p).2 (.inr hpm))⟩⟩
 ·rintro ⟨⟨_, h1⟩, ⟨_, h2⟩⟩
  refine ⟨Al hr, fun p hp hpm => ?_⟩
  rcases (hw p).1 hpm with h | h
  ·exact h1 p hp h
  ·exact h2 p hp h
def nD (m : Nat) : Nat → Nat
 | 0 => 0
 | k + 1 => nD m k + if m.testBit k = true then 1 else 0
theorem wb (m : Nat) : ∀ k, nD m k ≤ k
 | 0 => Nat.le_refl _
 | k + 1 => by
  have := wb m k
  simp only [nD]
  split <;> omega
theorem Bn {m i : Nat} (hi : i < 8) (hb : m.testBit i = true) : ∀ k, nD (jx m (i : Int)) k + (if i < k then 1 else 0) = nD m k
 | 0 => by simp [nD]
 | k + 1 => by
  have ih := Bn hi hb k
  simp only [nD, eM hi]
  by_cases e : k = i
  ·subst e
   rw [if_neg (Nat.lt_irrefl _)] at ih
   simp [hb, ← ih]
  ·rw [decide_eq_true e, Bool.and_true]
   by_cases h2 : i < k
   ·rw [if_pos h2] at ih
    simp only [show i < k + 1 from by omega, if_true]
    omega
   ·rw [if_neg h2] at ih
    simp only [show ¬ i < k + 1 from by omega, if_false]
    omega
theorem xT {m : Nat} : ∀ k, nD m k = k → ∀ i, i < k → m.testBit i = true
 | 0, _, i, hi => absurd hi (Nat.not_lt_zero _)
 | k + 1, h, i, hi => by
  have := wb m k
  simp only [nD] at h
  split at h
  ·rename_i hk
   rcases Nat.lt_succ_iff_lt_or_eq.1 hi with h2 | rfl
   ·exact xT k (by omega) i h2
   ·exact hk
  ·omega
theorem qW {m : Nat} : ∀ k, (∀ i, i < k → m.testBit i = true) → nD m k = k
 | 0, _ => rfl
 | k + 1, h => by
  have := qW k (fun i hi => h i (by omega))
  simp only [nD, this, h k (Nat.lt_succ_self _), if_true]
theorem F2 {m k : Nat} (h : nD m k < k) : ∃ i, i < k ∧ m.testBit i = false := by
 refine Decidable.byContradiction fun hn => ?_
 have := qW (m := m) k (fun i hi => by
  refine Decidable.byContradiction fun h2 => hn ⟨i, hi, by simpa using h2⟩)
 omega
def qY (n : Int) (c : Cb) : Nat := nD c.m n.toNat
theorem IR {n : Int} {c : Cb} {i : Nat} (h8 : n ≤ 8) (hi : i < n.toNat) (hb : c.m.testBit i = true) : qY n (i4 c i) + 1 = qY n c := by
 have h := Bn (m := c.m) (i := i) (by omega) hb n.toNat
 rwa [if_pos hi] at h
theorem xG {s : Nat} {n : Int} {d : Cb} (h : imp s n d) (hc : qY n d < n.toNat) : ∃ c i, i < n.toNat ∧ c.m.testBit i = true ∧ imp s n c ∧ imp s n (DP c i) ∧ d = i4 c i ∧ qY n c = qY n d + 1 := by
 obtain ⟨i, hi, hb⟩ := F2 hc
 have hr := (fY.1 h).1
 obtain ⟨h0, h8, hm, hv⟩ := dW.1 hr
 have hvb := eU hv
 have hi8 : i < 8 := by omega
 have hb2 : (d.m ||| 2 ^ i).testBit i = true := by simp
 have e1 : jx (d.m ||| 2 ^ i) (i : Int) = d.m := Nat.eq_of_testBit_eq fun j => by
  rw [eM hi8, Nat.testBit_or, Nat.testBit_two_pow]
  by_cases e : j = i
  ·subst e; simp [hb]
  ·have : ¬ i = j := fun h => e h.symm
   simp [this, e]
 have hrc : dY (d.m ||| 2 ^ i) d.v n = true := by
  refine dW.2 ⟨h0, h8, Nat.or_lt_two_pow hm (Nat.pow_lt_pow_right (by decide) hi), Nat.eq_of_testBit_eq fun j => ?_⟩
  rw [Nat.testBit_and, Nat.testBit_or, hvb j]
  cases d.v.testBit j <;> cases d.m.testBit j <;> simp
 have hd : d = i4 ⟨d.m ||| 2 ^ i, d.v⟩ i := by
  unfold i4
  simp only [e1, hv]
 have hw := (yS (s := s) (c := ⟨d.m ||| 2 ^ i, d.v⟩) hrc hi hb2).1 (hd ▸ h)
 refine ⟨⟨d.m ||| 2 ^ i, d.v⟩, i, hi, hb2, hw.1, hw.2, hd, ?_⟩
 have := IR (c := ⟨d.m ||| 2 ^ i, d.v⟩) h8 hi hb2
 rw [← hd] at this
 exact this.symm
def iT (now : List Cb) (c : Cb) (i : Nat) : Prop := c.m.testBit i = true ∧ DP c i ∈ now
def jo (now : List Cb) (n : Int) (seen : List Cb) (d : Cb) : Prop := ∃ c, c ∈ seen ∧ ∃ i, i < n.toNat ∧ iT now c i ∧ d = i4 c i
def gk (now : List Cb) (n : Int) (seen : List Cb) (d : Cb) : Prop := d ∈ seen ∧ ∃ i, i < n.toNat ∧ iT now d i
def nF (s : Nat) (n : Int) (t : Nat) (now : List Cb) : Prop := ∀ c, c ∈ now ↔ imp s n c ∧ qY n c + 1 = t
section
variable {s t : Nat} {n : Int} {now : List Cb}
theorem H4 (c : Cb) (i : Nat) : qY n (DP c i) = qY n c := rfl
theorem xU (h : nF s n t now) {c : Cb} (hc : c ∈ now) {i : Nat} (hi : i < n.toNat) : iT now c i ↔ ka c.m c.v s n i = true := by
 obtain ⟨h1, h2⟩ := (h c).1 hc
 have hr := (fY.1 h1).1
 unfold iT ka
 rw [Bool.and_eq_true]
 constructor
 ·rintro ⟨hb, hf⟩
  exact ⟨hb, (yS hr hi hb).2 ⟨h1, ((h _).1 hf).1⟩⟩
 ·rintro ⟨hb, hw⟩
  exact ⟨hb, (h _).2 ⟨((yS hr hi hb).1 hw).2, h2⟩⟩
theorem wl (h : nF s n t now) {c : Cb} (hc : c ∈ now) : gk now n now c ↔ gN c.m c.v s n = false := by
 have h1 := ((h c).1 hc).1
 rw [← Bool.not_eq_true, gf]
 constructor
 ·rintro ⟨_, i, hi, hp⟩ ⟨_, h3⟩
  have := h3 i hi
  rw [(xU h hc hi).1 hp] at this
  cases this
 ·intro h2
  refine ⟨hc, Classical.byContradiction fun hn => h2 ⟨h1, fun i hi => ?_⟩⟩
  refine Bool.eq_false_iff.2 fun hs => hn ⟨i, hi, (xU h hc hi).2 hs⟩
theorem CH (h8 : n ≤ 8) (h : nF s n (t + 1) now) (ht : t ≤ n.toNat) {nl : List Cb} (hn : ∀ d, d ∈ nl ↔ jo now n now d) : nF s n t nl := by
 intro d
 rw [hn]
 constructor
 ·rintro ⟨c, hc, i, hi, hp, rfl⟩
  obtain ⟨h1, h2⟩ := (h c).1 hc
  have hr := (fY.1 h1).1
  refine ⟨(yS hr hi hp.1).2 ⟨h1, ((h _).1 hp.2).1⟩, ?_⟩
  have := IR (c := c) h8 hi hp.1
  omega
 ·rintro ⟨h1, h2⟩
  obtain ⟨c, i, hi, hb, hc, hf, hd, hcnt⟩ := xG h1 (by omega)
  exact ⟨c, (h c).2 ⟨hc, by omega⟩, i, hi, ⟨hb, (h _).2 ⟨hf, by rw [H4]; omega⟩⟩, hd⟩
def wK (s : Nat) (n : Int) (t : Nat) (out : List Cb) : Prop := ∀ c, c ∈ out ↔ gN c.m c.v s n = true ∧ t ≤ qY n c
theorem G8 {out out2 ml : List Cb} (h : nF s n (t + 1) now) (ho : wK s n (t + 1) out) (hm : ∀ d, d ∈ ml ↔ gk now n now d) (h2 : ∀ c, c ∈ out2 ↔ c ∈ out ∨ (c ∈ now ∧ c ∉ ml)) : wK s n t out2 := by
 intro c
 rw [h2, ho, hm]
 constructor
 ·rintro (⟨h3, h4⟩ | ⟨h3, h4⟩)
  ·exact ⟨h3, by omega⟩
  ·rw [wl h h3, Bool.not_eq_false] at h4
   exact ⟨h4, by have := ((h c).1 h3).2; omega⟩
 ·rintro ⟨h3, h4⟩
  by_cases e : t + 1 ≤ qY n c
  ·exact .inl ⟨h3, e⟩
  ·have hc : c ∈ now := (h c).2 ⟨(gf.1 h3).1, by omega⟩
   exact .inr ⟨hc, by rw [wl h hc, Bool.not_eq_false]; exact h3⟩
theorem wC (ht : t ≤ n.toNat + 1) (h : nF s n t []) : ∀ (k : Nat) (c : Cb), imp s n c → qY n c + 1 + k = t → False
 | 0, c, hc, e => by have := (h c).2 ⟨hc, e⟩; simp at this
 | k + 1, c, hc, e => by
  obtain ⟨c', i, hi, hb, hc', hf, hd, hcnt⟩ := xG hc (by omega)
  exact wC ht h k c' hc' (by omega)
theorem Lp {out : List Cb} (ht : t ≤ n.toNat + 1) (h : nF s n t []) (ho : wK s n t out) (hr : iL out) : out = eE s n := by
 refine wL hr (pQ s n) fun c => ?_
 rw [ho, m0]
 constructor
 ·exact fun h => h.1
 ·intro hp
  refine ⟨hp, Decidable.byContradiction fun hlt => ?_⟩
  exact wC ht h (t - (qY n c + 1)) c (gf.1 hp).1 (by omega)
theorem GD : wK s n (n.toNat + 1) [] := by
 intro c
 constructor
 ·intro h; simp at h
 ·rintro ⟨_, h⟩
  have := wb c.m n.toNat
  unfold qY at h
  omega
theorem A7 (hs : uL s n = true) {ks : List Cb} (hk : ∀ c, c ∈ ks ↔ ∃ x ∈ eg s, c = ⟨2 ^ n.toNat - 1, x.toNat⟩) : nF s n (n.toNat + 1) ks := by
 unfold uL at hs
 simp only [Bool.and_eq_true, decide_eq_true_eq] at hs
 obtain ⟨h0, h8, hw⟩ := hs
 have hp8 := fh h8
 have hpt : ∀ p, p < 256 → s.testBit p = true → p < 2 ^ n.toNat := fun p hp h => by
  have := d5.1 hw p hp h
  rw [fP] at this
  simpa using this
 intro c
 rw [hk]
 constructor
 ·rintro ⟨x, hx, rfl⟩
  obtain ⟨p, hp, hb, rfl⟩ := iW.1 hx
  have hlt := hpt p hp hb
  have e : ∀ q, q < 2 ^ n.toNat → q &&& (2 ^ n.toNat - 1) = q := fun q hq => by rw [Nat.and_two_pow_sub_one_eq_mod, Nat.mod_eq_of_lt hq]
  refine ⟨fY.2 ⟨dW.2 ⟨h0, h8, by have := Nat.two_pow_pos n.toNat; simp only; omega, e p hlt⟩, fun q hq h => ?_⟩, ?_⟩
  ·simp only [Int.toNat_natCast] at h
   rw [e q hq] at h
   rw [h]; exact hb
  ·unfold qY
   rw [qW n.toNat (fun i hi => by rw [Nat.testBit_two_pow_sub_one]; simpa using hi)]
 ·rintro ⟨h1, h2⟩
  have h3 := fY.1 h1
  obtain ⟨_, _, hm, hv⟩ := dW.1 h3.1
  have hm2 : c.m = 2 ^ n.toNat - 1 := Nat.eq_of_testBit_eq fun j => by
   rw [Nat.testBit_two_pow_sub_one]
   by_cases hj : j < n.toNat
   ·rw [xT n.toNat (by unfold qY at h2; omega) j hj]; simp [hj]
   ·rw [Nat.testBit_lt_two_pow (Nat.lt_of_lt_of_le hm (Nat.pow_le_pow_right (by decide) (by omega)))]; simp [hj]
  have hlt := (ln h3.1).2
  refine ⟨(c.v : Int), iW.2 ⟨c.v, by omega, h3.2 c.v hlt hv, rfl⟩, ?_⟩
  cases c
  simp only [Int.toNat_natCast, Cb.mk.injEq, and_true]
  exact hm2
end
theorem Bm {α : Type} [DecidableEq α] : ∀ {l l' : List α}, l.Nodup → (∀ a ∈ l, a ∈ l') → l.length ≤ l'.length
 | [], _, _, _ => by simp
 | a :: l, l', h, hs => by
  obtain ⟨h1, h2⟩ := List.nodup_cons.1 h
  have ha := hs a (by simp)
  have := Bm (l := l) (l' := l'.erase a) h2 (fun b hb => by
   have hne : b ≠ a := fun e => h1 (e ▸ hb)
   exact (List.mem_erase_of_ne hne).2 (hs b (by simp [hb])))
  rw [List.length_erase_of_mem ha] at this
  have := List.length_pos_of_mem ha
  simp only [List.length_cons]
  omega
theorem qh {n : Int} {v : Value} (h : v = if 0 ≤ n ∧ n ≤ 8 then .tuple #[eP (fi n.toNat), .int .i64 0] else .tuple #[eP 0, .int .i64 1]) :
  ∃ (sa : Nat) (er : Int), v = .tuple #[eP sa, .int .i64 er] ∧ ((0 ≤ n ∧ n ≤ 8 ∧ sa = fi n.toNat ∧ er = 0) ∨ (¬ (0 ≤ n ∧ n ≤ 8) ∧ er = 1)) := by
 by_cases hr : 0 ≤ n ∧ n ≤ 8
 ·rw [if_pos hr] at h
  exact ⟨_, _, h, .inl ⟨hr.1, hr.2, rfl, rfl⟩⟩
 ·rw [if_neg hr] at h
  exact ⟨_, _, h, .inr ⟨hr, rfl⟩⟩
theorem Fa {s sa : Nat} {n er : Int} (h : (0 ≤ n ∧ n ≤ 8 ∧ sa = fi n.toNat ∧ er = 0) ∨ (¬ (0 ≤ n ∧ n ≤ 8) ∧ er = 1)) (h0 : ¬ er = 0) : ¬ uL s n = true := by
 rcases h with ⟨_, _, _, h2⟩ | ⟨h1, _⟩
 ·exact absurd h2 h0
 ·unfold uL
  simp only [Bool.and_eq_true, decide_eq_true_eq]
  exact fun h2 => h1 ⟨h2.1, h2.2.1⟩
theorem EF {s sa : Nat} {n er : Int} (h : (0 ≤ n ∧ n ≤ 8 ∧ sa = fi n.toNat ∧ er = 0) ∨ (¬ (0 ≤ n ∧ n ≤ 8) ∧ er = 1)) (h0 : ¬ ¬ er = 0) (hw : (!ep s sa) = true) : ¬ uL s n = true := by
 rcases h with ⟨_, _, rfl, _⟩ | ⟨_, h2⟩
 ·unfold uL
  simp only [Bool.and_eq_true, decide_eq_true_eq]
  intro h2
  rw [h2.2.2] at hw
  cases hw
 ·omega
theorem GW {s sa : Nat} {n er : Int} (h : (0 ≤ n ∧ n ≤ 8 ∧ sa = fi n.toNat ∧ er = 0) ∨ (¬ (0 ≤ n ∧ n ≤ 8) ∧ er = 1)) (h0 : ¬ ¬ er = 0) (hw : (!ep s sa) = false) : uL s n = true := by
 rcases h with ⟨h1, h2, rfl, _⟩ | ⟨_, h2⟩
 ·unfold uL
  rw [decide_eq_true h1, decide_eq_true h2]
  simpa using hw
 ·omega
theorem jY {s : Nat} {n : Int} (h : uL s n = true) : 0 ≤ n ∧ n ≤ 8 := by
 unfold uL at h
 simp only [Bool.and_eq_true, decide_eq_true_eq] at h
 exact ⟨h.1, h.2.1⟩
theorem NS {P : Program} {f : Nat → Value} {w : World} {d : Option Nat} {ty t t2 : TypeId} {ps : String} {af : Array Edge} {g : Option (Nat × Bool)} {x y : Operand} {n : Int}
  (hx : dO f x = .int .u8 (IntKind.u8.wrap (1 * 2 ^ (min n.toNat IntKind.u8.bits)))) (hy : dO f y = .int .u8 1) (h0 : 0 ≤ n) (h8 : n ≤ 8) :
  (execOp (dO f) ⟨d, .binOp .sub t x y t2, ty, ps, af, g⟩).run P w = .ok (.value (.int .u8 ((2 ^ n.toNat - 1 : Nat) : Int))) w := by
 rw [Me hx hy]
 have : ∀ k : Nat, k ≤ 8 → IntKind.u8.wrap (IntKind.u8.wrap (1 * 2 ^ (min k IntKind.u8.bits)) - 1) = ((2 ^ k - 1 : Nat) : Int) := fun k hk => by
  have : k = 0 ∨ k = 1 ∨ k = 2 ∨ k = 3 ∨ k = 4 ∨ k = 5 ∨ k = 6 ∨ k = 7 ∨ k = 8 := by omega
  rcases this with rfl | rfl | rfl | rfl | rfl | rfl | rfl | rfl | rfl <;> decide
 rw [this n.toNat (by omega)]
theorem Fv {M k p : Nat} {l : List Int} {ks : List Cb} (h : ∀ c, c ∈ ks ↔ ∃ j, j < k ∧ c = ⟨M, (l.getD j 0).toNat⟩) (hp : l.getD k 0 = (p : Int)) : ∀ c, c ∈ iy ks ⟨M, p⟩ ↔ ∃ j, j < k + 1 ∧ c = ⟨M, (l.getD j 0).toNat⟩ := by
 intro c
 rw [gm, h]
 constructor
 ·rintro (⟨j, hj, rfl⟩ | rfl)
  ·exact ⟨j, by omega, rfl⟩
  ·exact ⟨k, by omega, by rw [hp, Int.toNat_natCast]⟩
 ·rintro ⟨j, hj, rfl⟩
  rcases Nat.lt_succ_iff_lt_or_eq.1 hj with hj | rfl
  ·exact .inl ⟨j, hj, rfl⟩
  ·exact .inr (by rw [hp, Int.toNat_natCast])
theorem Hx {M k : Nat} {l : List Int} {ks : List Cb} (h : ∀ c, c ∈ ks ↔ ∃ j, j < k ∧ c = ⟨M, (l.getD j 0).toNat⟩) (hk : k = l.length) : ∀ c, c ∈ ks ↔ ∃ x ∈ l, c = ⟨M, x.toNat⟩ := by
 intro c
 rw [h]
 constructor
 ·rintro ⟨j, hj, rfl⟩
  exact ⟨_, dS (by omega), rfl⟩
 ·rintro ⟨x, hx, rfl⟩
  obtain ⟨j, hj, rfl⟩ := List.mem_iff_getElem.1 hx
  exact ⟨j, by omega, by simp [hj]⟩
section
variable {s t : Nat} {n : Int} {now seen nl ml out : List Cb}
theorem BK {α : Type} (l : List α) : (ft l).length = l.length := by simp [ft]
theorem BP {α : Type} {l : List α} {k : α} {v : Bool} (h : (k, v) ∈ ft l) : k ∈ l ∧ v = true := by
 unfold ft at h
 obtain ⟨a, ha, e⟩ := List.mem_map.1 h
 cases e
 exact ⟨ha, rfl⟩
theorem Fu (h : nF s n t now) (h0 : (0 : Int) < ((ft now).length : Int)) : ∃ t', t = t' + 1 := by
 rw [BK] at h0
 obtain ⟨c, hc⟩ := List.exists_mem_of_length_pos (l := now) (by omega)
 exact ⟨_, ((h c).1 hc).2.symm⟩
theorem Dt {l : List Cb} (h0 : ¬ (0 : Int) < ((ft l).length : Int)) : l = [] := by
 rw [BK] at h0
 exact List.eq_nil_of_length_eq_zero (by omega)
theorem vP (h : nF s n t now) (h8 : n ≤ 8) {c : Cb} (hc : c ∈ now) : c.m < 256 ∧ c.v < 256 := by
 have h1 := ln (fY.1 ((h c).1 hc).1).1
 have := fh h8
 omega
theorem Dk : ∀ d, d ∈ ([] : List Cb) ↔ jo now n [] d := fun d => by simp [jo]
theorem zD : ∀ d, d ∈ ([] : List Cb) ↔ gk now n [] d := fun d => by simp [gk]
theorem FK {kk : Cb} (h : ∀ d, d ∈ nl ↔ jo now n seen d) : ∀ d, d ∈ nl ↔ jo now n seen d ∨ ∃ q, q < 0 ∧ iT now kk q ∧ d = i4 kk q := fun d => by rw [h]; simp
theorem AX {kk : Cb} (h : ∀ d, d ∈ ml ↔ gk now n seen d) : ∀ d, d ∈ ml ↔ gk now n seen d ∨ (d = kk ∧ ∃ q, q < 0 ∧ iT now kk q) := fun d => by rw [h]; simp
theorem Hz {kk : Cb} {i : Nat} (h : ∀ d, d ∈ nl ↔ jo now n seen d ∨ ∃ q, q < i ∧ iT now kk q ∧ d = i4 kk q) (hp : iT now kk i) :
  ∀ d, d ∈ iy nl (i4 kk i) ↔ jo now n seen d ∨ ∃ q, q < i + 1 ∧ iT now kk q ∧ d = i4 kk q := fun d => by
 rw [gm, h]
 constructor
 ·rintro ((h1 | ⟨q, h1, h2, h3⟩) | h1)
  ·exact .inl h1
  ·exact .inr ⟨q, by omega, h2, h3⟩
  ·exact .inr ⟨i, by omega, hp, h1⟩
 ·rintro (h1 | ⟨q, h1, h2, h3⟩)
  ·exact .inl (.inl h1)
  ·rcases Nat.lt_succ_iff_lt_or_eq.1 h1 with h1 | rfl
   ·exact .inl (.inr ⟨q, h1, h2, h3⟩)
   ·exact .inr h3
theorem xY {kk : Cb} {i : Nat} (h : ∀ d, d ∈ nl ↔ jo now n seen d ∨ ∃ q, q < i ∧ iT now kk q ∧ d = i4 kk q) (hp : ¬ iT now kk i) :
  ∀ d, d ∈ nl ↔ jo now n seen d ∨ ∃ q, q < i + 1 ∧ iT now kk q ∧ d = i4 kk q := fun d => by
 rw [h]
 constructor
 ·rintro (h1 | ⟨q, h1, h2, h3⟩)
  ·exact .inl h1
  ·exact .inr ⟨q, by omega, h2, h3⟩
 ·rintro (h1 | ⟨q, h1, h2, h3⟩)
  ·exact .inl h1
  ·rcases Nat.lt_succ_iff_lt_or_eq.1 h1 with h1 | rfl
   ·exact .inr ⟨q, h1, h2, h3⟩
   ·exact absurd h2 hp
theorem CK {kk : Cb} {i : Nat} (h : ∀ d, d ∈ ml ↔ gk now n seen d ∨ (d = kk ∧ ∃ q, q < i ∧ iT now kk q)) (hp : iT now kk i) :
  ∀ d, d ∈ iy ml kk ↔ gk now n seen d ∨ (d = kk ∧ ∃ q, q < i + 1 ∧ iT now kk q) := fun d => by
 rw [gm, h]
 constructor
 ·rintro ((h1 | ⟨h1, q, h2, h3⟩) | h1)
  ·exact .inl h1
  ·exact .inr ⟨h1, q, by omega, h3⟩
  ·exact .inr ⟨h1, i, by omega, hp⟩
 ·rintro (h1 | ⟨h1, q, h2, h3⟩)
  ·exact .inl (.inl h1)
  ·exact .inr h1
theorem tN {kk : Cb} {i : Nat} (h : ∀ d, d ∈ ml ↔ gk now n seen d ∨ (d = kk ∧ ∃ q, q < i ∧ iT now kk q)) (hp : ¬ iT now kk i) :
  ∀ d, d ∈ ml ↔ gk now n seen d ∨ (d = kk ∧ ∃ q, q < i + 1 ∧ iT now kk q) := fun d => by
 rw [h]
 constructor
 ·rintro (h1 | ⟨h1, q, h2, h3⟩)
  ·exact .inl h1
  ·exact .inr ⟨h1, q, by omega, h3⟩
 ·rintro (h1 | ⟨h1, q, h2, h3⟩)
  ·exact .inl h1
  ·rcases Nat.lt_succ_iff_lt_or_eq.1 h2 with h2 | rfl
   ·exact .inr ⟨h1, q, h2, h3⟩
   ·exact absurd h3 hp
theorem Ia {kk : Cb} {i : Nat} (h : ∀ d, d ∈ nl ↔ jo now n seen d ∨ ∃ q, q < i ∧ iT now kk q ∧ d = i4 kk q) (hi : i = n.toNat) : ∀ d, d ∈ nl ↔ jo now n (kk :: seen) d := fun d => by
 subst hi
 rw [h]
 unfold jo
 constructor
 ·rintro (⟨c, hc, r⟩ | ⟨q, h1, h2, h3⟩)
  ·exact ⟨c, List.mem_cons_of_mem _ hc, r⟩
  ·exact ⟨kk, List.mem_cons_self, q, h1, h2, h3⟩
 ·rintro ⟨c, hc, i, hi, r⟩
  rcases List.mem_cons.1 hc with rfl | hc
  ·exact .inr ⟨i, hi, r⟩
  ·exact .inl ⟨c, hc, i, hi, r⟩
theorem Cs {kk : Cb} {i : Nat} (h : ∀ d, d ∈ ml ↔ gk now n seen d ∨ (d = kk ∧ ∃ q, q < i ∧ iT now kk q)) (hi : i = n.toNat) : ∀ d, d ∈ ml ↔ gk now n (kk :: seen) d := fun d => by
 subst hi
 rw [h]
 unfold gk
 constructor
 ·rintro (⟨h1, r⟩ | ⟨rfl, r⟩)
  ·exact ⟨List.mem_cons_of_mem _ h1, r⟩
  ·exact ⟨List.mem_cons_self, r⟩
 ·rintro ⟨h1, r⟩
  rcases List.mem_cons.1 h1 with rfl | h1
  ·exact .inr ⟨rfl, r⟩
  ·exact .inl ⟨h1, r⟩
theorem xK {m v i : Nat} (h1 : ((m / 2 ^ ((i : Nat) : Int).toNat &&& 1 : Nat) : Int) = 1) (h2 : (g7 (ft now) ⟨m, v ^^^ 1 * 2 ^ ((i : Nat) : Int).toNat⟩).getD false = true) : iT now ⟨m, v⟩ i := by
 rw [Int.toNat_natCast] at h1 h2
 rw [lh, decide_eq_true_eq, Nat.one_mul] at h2
 exact ⟨kZ.1 h1, h2⟩
theorem yi {m v i : Nat} (h1 : ¬ ((m / 2 ^ ((i : Nat) : Int).toNat &&& 1 : Nat) : Int) = 1) : ¬ iT now ⟨m, v⟩ i := by
 rw [Int.toNat_natCast] at h1
 exact fun h => h1 (kZ.2 h.1)
theorem ya {m v i : Nat} (h2 : (g7 (ft now) ⟨m, v ^^^ 1 * 2 ^ ((i : Nat) : Int).toNat⟩).getD false = false) : ¬ iT now ⟨m, v⟩ i := by
 rw [Int.toNat_natCast] at h2
 rw [lh, decide_eq_false_iff_not, Nat.one_mul] at h2
 exact fun h => h2 h.2
theorem F9 (h : ∀ d, d ∈ nl ↔ jo now n seen d) (hs : ∀ c, c ∈ seen ↔ c ∈ now) : ∀ d, d ∈ nl ↔ jo now n now d := fun d => by
 rw [h]; unfold jo; simp only [hs]
theorem Au (h : ∀ d, d ∈ ml ↔ gk now n seen d) (hs : ∀ c, c ∈ seen ↔ c ∈ now) : ∀ d, d ∈ ml ↔ gk now n now d := fun d => by
 rw [h]; unfold gk; simp only [hs]
theorem Ai {w : World} {it b : Nat} (h : eJ iC Value.bool w it b (ft now) seen) : ∀ c ∈ seen, c ∈ now := fun c hc => by
 have := h.sub c hc
 rwa [x6] at this
theorem Bs {w : World} {it b : Nat} (h : eJ iC Value.bool w it b (ft now) seen) (hd : ∀ p ∈ ft now, p.1 ∈ seen) : ∀ c, c ∈ seen ↔ c ∈ now := fun c =>
 ⟨Ai h c, fun hc => hd (c, true) (List.mem_map.2 ⟨c, hc, rfl⟩)⟩
theorem eJ.len_le {α β : Type} [DecidableEq α] {enc : α → Value} {encV : β → Value} {w : World} {it b : Nat} {l : List (α × β)} {seen : List α} (h : eJ enc encV w it b l seen) : seen.length ≤ l.length := by
 have := Bm h.nodup h.sub
 simpa using this
theorem Oh : ∀ c, c ∈ out ↔ c ∈ out ∨ (c ∈ ([] : List Cb) ∧ c ∉ ml) := fun c => by simp
theorem KA {out2 : List Cb} {kk : Cb} (h : ∀ c, c ∈ out2 ↔ c ∈ out ∨ (c ∈ seen ∧ c ∉ ml)) (hk : kk ∉ ml) : ∀ c, c ∈ zl out2 kk ↔ c ∈ out ∨ (c ∈ kk :: seen ∧ c ∉ ml) := fun c => by
 rw [Jb, h, List.mem_cons]
 constructor
 ·rintro (rfl | h1 | ⟨h1, h2⟩)
  ·exact .inr ⟨.inl rfl, hk⟩
  ·exact .inl h1
  ·exact .inr ⟨.inr h1, h2⟩
 ·rintro (h1 | ⟨rfl | h1, h2⟩)
  ·exact .inr (.inl h1)
  ·exact .inl rfl
  ·exact .inr (.inr ⟨h1, h2⟩)
theorem LU {out2 : List Cb} {kk : Cb} (h : ∀ c, c ∈ out2 ↔ c ∈ out ∨ (c ∈ seen ∧ c ∉ ml)) (hk : kk ∈ ml) : ∀ c, c ∈ out2 ↔ c ∈ out ∨ (c ∈ kk :: seen ∧ c ∉ ml) := fun c => by
 rw [h, List.mem_cons]
 constructor
 ·rintro (h1 | ⟨h1, h2⟩)
  ·exact .inl h1
  ·exact .inr ⟨.inr h1, h2⟩
 ·rintro (h1 | ⟨rfl | h1, h2⟩)
  ·exact .inl h1
  ·exact absurd hk h2
  ·exact .inr ⟨h1, h2⟩
theorem Kp {out2 : List Cb} (h : ∀ c, c ∈ out2 ↔ c ∈ out ∨ (c ∈ seen ∧ c ∉ ml)) (hs : ∀ c, c ∈ seen ↔ c ∈ now) : ∀ c, c ∈ out2 ↔ c ∈ out ∨ (c ∈ now ∧ c ∉ ml) := fun c => by rw [h, hs]
theorem NQ {out2 : List Cb} {kk : Cb} (hL : nF s n (t + 1) now) (hO : wK s n (t + 1) out) (h : ∀ c, c ∈ out2 ↔ c ∈ out ∨ (c ∈ seen ∧ c ∉ ml)) (hk : kk ∈ now) (hs : kk ∉ seen) : kk ∉ out2 := fun hm => by
 rcases (h kk).1 hm with h1 | h1
 ·have h2 := ((hO kk).1 h1).2
  have h3 := ((hL kk).1 hk).2
  omega
 ·exact hs h1.1
theorem HS {out2 : List Cb} (hL : nF s n (t + 1) now) (h8 : n ≤ 8) (hO : wK s n (t + 1) out) (h : ∀ c, c ∈ out2 ↔ c ∈ out ∨ (c ∈ seen ∧ c ∉ ml)) (hs : ∀ c ∈ seen, c ∈ now) (hR : iL out2) : out2.length ≤ 65536 :=
 yV hR fun c hc => by
  rcases (h c).1 hc with h1 | h1
  ·have h2 := ln (j1 ((hO c).1 h1).1)
   have := fh h8
   omega
  ·exact vP hL h8 (hs c h1.1)
theorem Cr {kk : Cb} (h : (!(g7 (ft ml) ⟨kk.m, kk.v⟩).getD false) = true) : kk ∉ ml := by
 rw [lh] at h
 simpa using h
theorem Bj {kk : Cb} (h : (!(g7 (ft ml) ⟨kk.m, kk.v⟩).getD false) = false) : kk ∈ ml := by
 rw [lh] at h
 simpa using h
end
theorem Lr {s : Nat} {n : Int} {v : Value} {w' : World} {N : Nat} {T : TypeId} (h : if uL s n = true then ∃ x, v = .tuple #[x, .int .i64 0] ∧ dh gU 2 T w' N x (eE s n) else v = .tuple #[.slice none 0 0, .int .i64 1]) :
  ∃ (x : Value) (er : Int) (l : List Cb), v = .tuple #[x, .int .i64 er] ∧ dh gU 2 T w' N x l ∧ ((uL s n = true ∧ er = 0 ∧ l = eE s n) ∨ (uL s n = false ∧ er = 1 ∧ l = [])) := by
 by_cases ho : uL s n = true
 ·rw [if_pos ho] at h
  obtain ⟨x, h1, h2⟩ := h
  exact ⟨x, 0, _, h1, h2, .inl ⟨ho, rfl, rfl⟩⟩
 ·rw [if_neg ho] at h
  exact ⟨_, 1, [], h, dh.nil, .inr ⟨by simpa using ho, rfl, rfl⟩⟩
theorem tJ {s : Nat} {n : Int} (h : n ≤ 8) : (eE s n).length ≤ 65536 := by
 have h1 := tQ s n (2 ^ n.toNat)
 have h2 := fh h
 have h3 : 2 ^ n.toNat * 2 ^ n.toNat ≤ 256 * 256 := Nat.mul_le_mul h2 h2
 unfold eE
 omega
end
section
open Go Go.RowKit
theorem mm {a b : Cb} : i7 a b = true ↔ ∀ j, a.m.testBit j = true → b.m.testBit j = true ∧ a.v.testBit j = b.v.testBit j := by
 unfold i7
 rw [Bool.and_eq_true, decide_eq_true_eq, decide_eq_true_eq]
 constructor
 ·rintro ⟨h1, h2⟩ j hj
  have e1 := congrArg (fun x => x.testBit j) h1
  have e2 := congrArg (fun x => x.testBit j) h2
  simp only [ej, Nat.testBit_and, Nat.testBit_xor, Nat.zero_testBit, hj, Bool.true_and, Bool.and_true] at e1 e2
  exact ⟨by simpa using e1, by simpa using e2⟩
 ·intro h
  constructor
  ·refine Nat.eq_of_testBit_eq fun j => ?_
   rw [ej, Nat.zero_testBit]
   cases hj : a.m.testBit j with
   | false => rfl
   | true => rw [(h j hj).1]; rfl
  ·refine Nat.eq_of_testBit_eq fun j => ?_
   rw [Nat.testBit_and, Nat.testBit_xor, Nat.zero_testBit]
   cases hj : a.m.testBit j with
   | false => simp
   | true => rw [(h j hj).2]; simp
theorem CY (a : Cb) : i7 a a = true := mm.2 fun _ h => ⟨h, rfl⟩
theorem Br {a b c : Cb} (h : i7 a b = true) (k : i7 b c = true) : i7 a c = true := by
 rw [mm] at *
 exact fun j hj => ⟨(k j (h j hj).1).1, (h j hj).2.trans (k j (h j hj).1).2⟩
theorem GC {c : Cb} {i : Nat} (hi : i < 8) : i7 (i4 c i) c = true := mm.2 fun j hj => by
 have hj' : (jx c.m (i : Int)).testBit j = true := hj
 have hv : (i4 c i).v.testBit j = (c.v &&& jx c.m (i : Int)).testBit j := rfl
 rw [eM hi, Bool.and_eq_true] at hj'
 refine ⟨hj'.1, ?_⟩
 rw [hv, Nat.testBit_and, eM hi, hj'.1, hj'.2]
 simp
theorem lu {a b : Cb} {p : Nat} (ha : a.v &&& a.m = a.v) (h : i7 a b = true) (hp : p &&& b.m = b.v) : p &&& a.m = a.v := by
 rw [mm] at h
 refine Nat.eq_of_testBit_eq fun j => ?_
 have e := congrArg (fun x => x.testBit j) hp
 simp only [Nat.testBit_and] at e
 rw [Nat.testBit_and, eU ha j]
 cases hj : a.m.testBit j with
 | false => simp
 | true =>
  obtain ⟨h1, h2⟩ := h j hj
  rw [h2, ← e, h1]
  simp
def kF (l : List Cb) (n : Nat) : Nat → Nat
 | 0 => 0
 | k + 1 => kF l n k ||| qH (l.getD k ⟨0, 0⟩).m (l.getD k ⟨0, 0⟩).v n
theorem sm {l : List Cb} {n : Nat} (hn : n ≤ 8) (p : Nat) : ∀ k, (kF l n k).testBit p = true ↔ ∃ j, j < k ∧ p < 2 ^ n ∧ p &&& (l.getD j ⟨0, 0⟩).m = (l.getD j ⟨0, 0⟩).v
 | 0 => by simp [kF]
 | k + 1 => by
  simp only [kF, Nat.testBit_or, Bool.or_eq_true, sm hn p k, jq hn, Bool.and_eq_true, decide_eq_true_eq]
  constructor
  ·rintro (⟨j, hj, h⟩ | h)
   ·exact ⟨j, by omega, h⟩
   ·exact ⟨k, by omega, h⟩
  ·rintro ⟨j, hj, h⟩
   rcases Nat.lt_succ_iff_lt_or_eq.1 hj with hj | rfl
   ·exact .inl ⟨j, hj, h⟩
   ·exact .inr h
theorem fo {α : Type} {l : List α} {a d : α} (h : a ∈ l) : ∃ j, j < l.length ∧ l.getD j d = a := by
 obtain ⟨j, hj, rfl⟩ := List.mem_iff_getElem.1 h
 exact ⟨j, hj, by simp [hj]⟩
theorem IB {s : Nat} {n : Int} {i : Nat} (h : i < (eE s n).length) : gN ((eE s n).getD i ⟨0, 0⟩).m ((eE s n).getD i ⟨0, 0⟩).v s n = true := m0.1 (dS h)
end
section
open Go Go.RowKit
def rq (p i : Nat) (one : Bool) : Nat := if p.testBit i = one then p else p ^^^ 2 ^ i
theorem na (p i j : Nat) : (p ^^^ 2 ^ i).testBit j = if j = i then !p.testBit j else p.testBit j := by
 rw [Nat.testBit_xor, Nat.testBit_two_pow]
 by_cases e : i = j
 ·subst e; simp
 ·have : ¬ j = i := fun h => e h.symm
  simp [e, this]
theorem iI (p i j : Nat) (one : Bool) : (rq p i one).testBit j = if j = i then one else p.testBit j := by
 unfold rq
 split
 ·rename_i h
  split
  ·rename_i e; subst e; exact h
  ·rfl
 ·rename_i h
  rw [na]
  split
  ·rename_i e; subst e; cases hp : p.testBit j <;> cases one <;> simp_all
  ·rfl
theorem kc {p i : Nat} {one : Bool} (h : p.testBit i = one) : rq p i one = p := if_pos h
theorem fX {p n : Nat} : p < 2 ^ n ↔ ∀ j, n ≤ j → p.testBit j = false := by
 constructor
 ·intro h j hj
  exact Nat.testBit_lt_two_pow (Nat.lt_of_lt_of_le h (Nat.pow_le_pow_right (by decide) hj))
 ·exact Nat.lt_pow_two_of_testBit p
theorem kr {p i n : Nat} {one : Bool} (hi : i < n) : rq p i one < 2 ^ n ↔ p < 2 ^ n := by
 rw [fX, fX]
 constructor
 ·intro h j hj
  have := h j hj
  rwa [iI, if_neg (by omega)] at this
 ·intro h j hj
  rw [iI, if_neg (by omega)]
  exact h j hj
theorem zm {p i n : Nat} (hi : i < n) (h : p < 2 ^ n) : p ^^^ 2 ^ i < 2 ^ n := Nat.xor_lt_two_pow h (Nat.pow_lt_pow_right (by decide) hi)
theorem pd (p i j : Nat) (one : Bool) : rq (p ^^^ 2 ^ j) i one = if j = i then rq p i one else rq p i one ^^^ 2 ^ j := by
 refine Nat.eq_of_testBit_eq fun q => ?_
 split
 ·rename_i e
  subst e
  rw [iI, iI, na]
  split <;> rfl
 ·rename_i e
  rw [iI, na, na, iI]
  by_cases h1 : q = i
  ·subst h1
   have : ¬ q = j := fun h => e h.symm
   simp [this]
  ·simp [h1]
theorem BA (i : Nat) (h : i < 8) (p : Nat) (hp : p < 256) : p ^^^ 2 ^ i < 256 := zm (n := 8) h hp
theorem rX {l : List Int} {F : Nat → Int → Nat} {hit : Int → Nat → Prop} (hF : ∀ o p, p ∈ l → ∀ q, ((F o p).testBit q = true ↔ o.testBit q = true ∨ hit p q)) :
  ∀ (z q : Nat), ((l.foldl F z).testBit q = true ↔ z.testBit q = true ∨ ∃ p, p ∈ l ∧ hit p q) := by
 induction l with
 | nil => intro z q; simp
 | cons a l ih =>
  intro z q
  rw [List.foldl_cons, ih (fun o p hp => hF o p (List.mem_cons_of_mem _ hp)), hF z a (List.mem_cons_self ..)]
  constructor
  ·rintro ((h | h) | ⟨p, h1, h2⟩)
   ·exact .inl h
   ·exact .inr ⟨a, List.mem_cons_self .., h⟩
   ·exact .inr ⟨p, List.mem_cons_of_mem _ h1, h2⟩
  ·rintro (h | ⟨p, h1, h2⟩)
   ·exact .inl (.inl h)
   ·rcases List.mem_cons.1 h1 with rfl | h1
    ·exact .inl (.inr h2)
    ·exact .inr ⟨p, h1, h2⟩
theorem nt {s i q : Nat} {one : Bool} : (oT s i one).testBit q = true ↔ q < 256 ∧ s.testBit q = true ∧ q.testBit i = one := by
 unfold oT
 rw [rX (hit := fun p q => p.toNat.testBit i = one ∧ q = p.toNat)]
 ·simp only [Nat.zero_testBit, Bool.false_eq_true, false_or]
  constructor
  ·rintro ⟨p, hp, h1, h2⟩
   obtain ⟨k, h3, h4, rfl⟩ := iW.1 hp
   rw [Int.toNat_natCast] at h1 h2
   subst h2
   exact ⟨h3, h4, h1⟩
  ·rintro ⟨h1, h2, h3⟩
   exact ⟨(q : Int), iW.2 ⟨q, h1, h2, rfl⟩, by simpa using h3, by simp⟩
 ·intro o p hp q
  obtain ⟨k, h3, h4, rfl⟩ := iW.1 hp
  have e : (decide ((k : Int).toNat / 2 ^ i % 2 = 1) == one) = true ↔ k.testBit i = one := by
   rw [Int.toNat_natCast, ← gY]
   cases k.testBit i <;> cases one <;> simp
  rw [Int.toNat_natCast] at e ⊢
  by_cases hk : k.testBit i = one
  ·rw [if_pos (e.2 hk), k7 h3]
   simp [hk, or_comm]
  ·rw [if_neg (fun h => hk (e.1 h))]
   simp [hk]
def jN (l : List Int) (h i k : Nat) : Nat := (l.take k).foldl (fun o p => kH o ((p.toNat ^^^ 2 ^ i : Nat) : Int)) h
def dm (s i : Nat) (one : Bool) : Nat := jN (eg (oT s i one)) (oT s i one) i (eg (oT s i one)).length
theorem tK {l : List Int} {h i k : Nat} (hk : k < l.length) : jN l h i (k + 1) = kH (jN l h i k) (((l.getD k 0).toNat ^^^ 2 ^ i : Nat) : Int) := by
 unfold jN
 rw [List.take_succ_eq_append_getElem hk, List.foldl_append]
 simp [List.getD_eq_getElem?_getD, List.getElem?_eq_getElem hk]
theorem fO {s i p : Nat} {one : Bool} (hi : i < 8) : (dm s i one).testBit p = true ↔ p < 256 ∧ s.testBit (rq p i one) = true := by
 unfold dm jN
 rw [List.take_length, rX (hit := fun x q => q = x.toNat ^^^ 2 ^ i)]
 ·rw [nt]
  constructor
  ·rintro (⟨h1, h2, h3⟩ | ⟨x, hx, rfl⟩)
   ·exact ⟨h1, by rw [kc h3]; exact h2⟩
   ·obtain ⟨k, h3, h4, rfl⟩ := iW.1 hx
    obtain ⟨_, h5, h6⟩ := nt.1 h4
    rw [Int.toNat_natCast]
    exact ⟨BA i hi k h3, by rw [pd, if_pos rfl, kc h6]; exact h5⟩
  ·rintro ⟨h1, h2⟩
   by_cases h3 : p.testBit i = one
   ·exact .inl ⟨h1, by rwa [kc h3] at h2, h3⟩
   ·refine .inr ⟨((p ^^^ 2 ^ i : Nat) : Int), iW.2 ⟨p ^^^ 2 ^ i, BA i hi p h1, ?_, rfl⟩, ?_⟩
    ·have e : rq p i one = p ^^^ 2 ^ i := if_neg h3
     rw [e] at h2
     refine nt.2 ⟨BA i hi p h1, h2, ?_⟩
     rw [na, if_pos rfl]
     cases hp : p.testBit i <;> cases one <;> simp_all
    ·rw [Int.toNat_natCast, Nat.xor_assoc, Nat.xor_self, Nat.xor_zero]
 ·intro o x hx q
  obtain ⟨k, h3, h4, rfl⟩ := iW.1 hx
  rw [Int.toNat_natCast, k7 (BA i hi k h3)]
  simp [or_comm]
theorem gr {s i p : Nat} {one : Bool} (hi : i < 8) (hp : p < 256) : (dm s i one).testBit p = s.testBit (rq p i one) := by
 rw [Bool.eq_iff_iff, fO hi]
 simp [hp]
def wT (s t : Nat) : Bool := decide (wd s 0 = wd t 0 ∧ wd s 1 = wd t 1 ∧ wd s 2 = wd t 2 ∧ wd s 3 = wd t 3)
theorem qg {s t : Nat} : wT s t = true ↔ ∀ p, p < 256 → s.testBit p = t.testBit p := by
 unfold wT
 rw [decide_eq_true_eq]
 constructor
 ·rintro ⟨h0, h1, h2, h3⟩ p hp
  have key : ∀ i, wd s i = wd t i → p / 64 = i → s.testBit p = t.testBit p := fun i h e => by
   have h5 := congrArg (fun x => x.testBit (p % 64)) h
   simp only [iq] at h5
   have e2 : 64 * i + p % 64 = p := by omega
   rw [e2] at h5
   simpa [Nat.mod_lt] using h5
  have : p / 64 = 0 ∨ p / 64 = 1 ∨ p / 64 = 2 ∨ p / 64 = 3 := by omega
  rcases this with e | e | e | e
  ·exact key 0 h0 e
  ·exact key 1 h1 e
  ·exact key 2 h2 e
  ·exact key 3 h3 e
 ·intro h
  exact ⟨rB (by decide) h, rB (by decide) h, rB (by decide) h, rB (by decide) h⟩
def im (i one : Nat) (c : Cb) : Cb := ⟨c.m ||| 1 * 2 ^ i, c.v ||| one * 2 ^ i⟩
def sK (n : Nat) (on0 on1 : Nat) (a b : List Cb) : Nat := (0 ||| andNot on0 (kF a n a.length)) ||| andNot on1 (kF b n b.length)
def eI (n : Nat) : Nat → Nat → Nat → Nat → List Cb
 | 0, _, _, _ => []
 | f + 1, on, may, i =>
  if wT on 0 = true then [] else if wT may (fi n) = true then [⟨0, 0⟩] else
  let a := eI n f (andNot (dm on i false) (dm may i true)) (dm may i false) (i + 1)
  let b := eI n f (andNot (dm on i true) (dm may i false)) (dm may i true) (i + 1)
  (a.map (im i 0) ++ b.map (im i 1)) ++ eI n f (sK n (dm on i false) (dm on i true) a b) (dm may i false &&& dm may i true) (i + 1)
structure mR (n on may i : Nat) : Prop where
 le : i ≤ n
 sub : ∀ p, p < 256 → on.testBit p = true → may.testBit p = true
 out : ∀ p, p < 256 → may.testBit p = true → p < 2 ^ n
 free : ∀ p j, p < 256 → j < i → on.testBit (p ^^^ 2 ^ j) = on.testBit p
 freeM : ∀ p j, p < 256 → j < i → may.testBit (p ^^^ 2 ^ j) = may.testBit p
theorem FC {n on may : Nat} (h : ∀ p, p < 256 → on.testBit p = true → may.testBit p = true) (k : ∀ p, p < 256 → may.testBit p = true → p < 2 ^ n) : mR n on may 0 :=
 ⟨Nat.zero_le _, h, k, fun _ j _ hj => absurd hj (Nat.not_lt_zero j), fun _ j _ hj => absurd hj (Nat.not_lt_zero j)⟩
theorem AW {s : Nat} : ∀ (n : Nat), (∀ p j, p < 2 ^ n → j < n → s.testBit (p ^^^ 2 ^ j) = s.testBit p) → ∀ p, p < 2 ^ n → s.testBit p = s.testBit 0
 | 0, _, p, hp => by
  have : p = 0 := by simpa using hp
  rw [this]
 | n + 1, h, p, hp => by
  have hle : 2 ^ n ≤ 2 ^ (n + 1) := Nat.pow_le_pow_right (by decide) (by omega)
  have ih := AW n fun p j hp hj => h p j (Nat.lt_of_lt_of_le hp hle) (by omega)
  by_cases hb : p.testBit n = true
  ·rw [← h p n hp (by omega)]
   refine ih _ (fX.2 fun j hj => ?_)
   rw [na]
   split
   ·rename_i e; subst e; rw [hb]; rfl
   ·exact fX.1 hp j (by omega)
  ·refine ih p (fX.2 fun j hj => ?_)
   by_cases e : j = n
   ·subst e; simpa using hb
   ·exact fX.1 hp j (by omega)
theorem fU {n : Nat} (h : n ≤ 8) : 2 ^ n ≤ 256 := by
 have : 2 ^ n ≤ 2 ^ 8 := Nat.pow_le_pow_right (by decide) h
 simpa using this
theorem mR.end {n on may : Nat} (h8 : n ≤ 8) (h : mR n on may n) : wT on 0 = true ∨ wT may (fi n) = true := by
 have hp := fU h8
 have h1 := AW n fun p j hq hj => h.freeM p j (by omega) hj
 by_cases h0 : may.testBit 0 = true
 ·right
  rw [qg]
  intro p hp2
  rw [fP]
  by_cases hpn : p < 2 ^ n
  ·rw [h1 p hpn, h0]; simp [hpn]
  ·cases hm : may.testBit p with
   | false => simp [hpn]
   | true => exact absurd (h.out p hp2 hm) hpn
 ·left
  rw [qg]
  intro p hp2
  rw [Nat.zero_testBit]
  refine Bool.eq_false_iff.2 fun ho => ?_
  have hm := h.sub p hp2 ho
  exact h0 (by rw [← h1 p (h.out p hp2 hm)]; exact hm)
def hold (c : Cb) (p : Nat) : Prop := p &&& c.m = c.v
theorem sI {c : Cb} {p : Nat} : hold c p ↔ ∀ j, (p.testBit j && c.m.testBit j) = c.v.testBit j := by
 unfold hold
 constructor
 ·intro h j; rw [← h, Nat.testBit_and]
 ·intro h; exact Nat.eq_of_testBit_eq fun j => by rw [Nat.testBit_and]; exact h j
theorem wD {c : Cb} {p j : Nat} (h : c.m.testBit j = false) : hold c (p ^^^ 2 ^ j) ↔ hold c p := by
 rw [sI, sI]
 have : ∀ q, ((p ^^^ 2 ^ j).testBit q && c.m.testBit q) = (p.testBit q && c.m.testBit q) := fun q => by
  rw [na]
  split
  ·rename_i e; subst e; simp [h]
  ·rfl
 simp only [this]
theorem vZ {c : Cb} {p i : Nat} {one : Bool} (h : c.m.testBit i = false) : hold c (rq p i one) ↔ hold c p := by
 unfold rq
 split
 ·exact Iff.rfl
 ·exact wD h
theorem jp (c : Cb) (i one j : Nat) : (im i one c).m.testBit j = (c.m.testBit j || decide (j = i)) := by
 show (c.m ||| 1 * 2 ^ i).testBit j = _
 rw [Nat.one_mul, Nat.testBit_or, Nat.testBit_two_pow]
 by_cases e : i = j
 ·subst e; simp
 ·have : ¬ j = i := fun h => e h.symm
  simp [e, this]
theorem nf (c : Cb) (i j : Nat) : (im i 0 c).v.testBit j = c.v.testBit j := by
 show (c.v ||| 0 * 2 ^ i).testBit j = _
 rw [Nat.zero_mul, Nat.or_zero]
theorem m6 (c : Cb) (i j : Nat) : (im i 1 c).v.testBit j = (c.v.testBit j || decide (j = i)) := by
 show (c.v ||| 1 * 2 ^ i).testBit j = _
 rw [Nat.one_mul, Nat.testBit_or, Nat.testBit_two_pow]
 by_cases e : i = j
 ·subst e; simp
 ·have : ¬ j = i := fun h => e h.symm
  simp [e, this]
theorem rI {c : Cb} {i p one : Nat} (h1 : one = 0 ∨ one = 1) (hv : c.v &&& c.m = c.v) (h : c.m.testBit i = false) : hold (im i one c) p ↔ p.testBit i = decide (one = 1) ∧ hold c p := by
 have hvi : c.v.testBit i = false := by rw [eU hv, h, Bool.and_false]
 rw [sI, sI]
 rcases h1 with rfl | rfl
 ·simp only [jp, nf]
  constructor
  ·intro k
   have hi : p.testBit i = false := by have := k i; simpa [h, hvi] using this
   refine ⟨by simpa using hi, fun j => ?_⟩
   have := k j
   by_cases e : j = i
   ·subst e; simp [h, hvi]
   ·simpa [e] using this
  ·rintro ⟨k0, k⟩ j
   have := k j
   by_cases e : j = i
   ·subst e; simp [hvi]; simpa using k0
   ·simpa [e] using this
 ·simp only [jp, m6]
  constructor
  ·intro k
   have hi : p.testBit i = true := by have := k i; simpa [h, hvi] using this
   refine ⟨by simpa using hi, fun j => ?_⟩
   have := k j
   by_cases e : j = i
   ·subst e; simp [h, hvi]
   ·simpa [e] using this
  ·rintro ⟨k0, k⟩ j
   have := k j
   by_cases e : j = i
   ·subst e; simp [hvi]; simpa using k0
   ·simpa [e] using this
def jd (n may i : Nat) (l : List Cb) : Prop := ∀ c, c ∈ l → c.m < 2 ^ n ∧ c.v &&& c.m = c.v ∧ (∀ j, j < i → c.m.testBit j = false) ∧ ∀ p, p < 2 ^ n → hold c p → may.testBit p = true
def El (n on : Nat) (l : List Cb) : Prop := ∀ p, p < 2 ^ n → on.testBit p = true → ∃ c, c ∈ l ∧ hold c p
theorem qx {l : List Cb} {n : Nat} (hn : n ≤ 8) (p : Nat) : (kF l n l.length).testBit p = true ↔ p < 2 ^ n ∧ ∃ c, c ∈ l ∧ hold c p := by
 rw [sm hn]
 constructor
 ·rintro ⟨j, hj, h1, h2⟩
  exact ⟨h1, _, dS hj, h2⟩
 ·rintro ⟨h1, c, hc, h2⟩
  obtain ⟨j, hj, rfl⟩ := fo (d := ⟨0, 0⟩) hc
  exact ⟨j, hj, h1, h2⟩
section
variable {n on may i : Nat}
theorem mR.side (h8 : n ≤ 8) (h : mR n on may i) (hi : i < n) (x : Bool) : mR n (andNot (dm on i x) (dm may i (!x))) (dm may i x) (i + 1) := by
 have hi8 : i < 8 := by omega
 refine ⟨hi, fun p hp hq => ?_, fun p hp hq => ?_, fun p j hp hj => ?_, fun p j hp hj => ?_⟩
 ·rw [ej, Bool.and_eq_true] at hq
  obtain ⟨h1, h2⟩ := (fO hi8).1 hq.1
  exact (fO hi8).2 ⟨hp, h.sub _ ((kr (n := 8) hi8).2 hp) h2⟩
 ·obtain ⟨h1, h2⟩ := (fO hi8).1 hq
  exact (kr hi).1 (h.out _ ((kr (n := 8) hi8).2 hp) h2)
 ·have hpj : p ^^^ 2 ^ j < 256 := BA j (by omega) p hp
  simp only [ej, gr hi8 hp, gr hi8 hpj, pd]
  split
  ·rfl
  ·rename_i hne
   have hlt : ∀ y, rq p i y < 256 := fun y => (kr (n := 8) hi8).2 hp
   rw [h.free _ j (hlt _) (by omega), h.freeM _ j (hlt _) (by omega)]
 ·have hpj : p ^^^ 2 ^ j < 256 := BA j (by omega) p hp
  simp only [gr hi8 hp, gr hi8 hpj, pd]
  split
  ·rfl
  ·rename_i hne
   have hlt : ∀ y, rq p i y < 256 := fun y => (kr (n := 8) hi8).2 hp
   rw [h.freeM _ j (hlt _) (by omega)]
theorem jA {on0 on1 : Nat} {a b : List Cb} {p : Nat} : (sK n on0 on1 a b).testBit p = ((on0.testBit p && !(kF a n a.length).testBit p) || (on1.testBit p && !(kF b n b.length).testBit p)) := by
 unfold sK
 rw [Nat.zero_or, Nat.testBit_or, ej, ej]
theorem Ao {l : List Cb} {j p : Nat} (h8 : n ≤ 8) (hj : j < n) (h : ∀ c, c ∈ l → c.m.testBit j = false) : (kF l n l.length).testBit (p ^^^ 2 ^ j) = (kF l n l.length).testBit p := by
 rw [Bool.eq_iff_iff, qx h8, qx h8]
 have hlt : p ^^^ 2 ^ j < 2 ^ n ↔ p < 2 ^ n := by
  constructor
  ·intro h2
   have := zm hj h2
   rwa [Nat.xor_assoc, Nat.xor_self, Nat.xor_zero] at this
  ·exact zm hj
 rw [hlt]
 constructor
 ·rintro ⟨h1, c, hc, h2⟩; exact ⟨h1, c, hc, (wD (h c hc)).1 h2⟩
 ·rintro ⟨h1, c, hc, h2⟩; exact ⟨h1, c, hc, (wD (h c hc)).2 h2⟩
theorem mR.rest (h8 : n ≤ 8) (h : mR n on may i) (hi : i < n) {a b : List Cb} (ha : jd n (dm may i false) (i + 1) a) (hb : jd n (dm may i true) (i + 1) b)
  (ca : El n (andNot (dm on i false) (dm may i true)) a) (cb : El n (andNot (dm on i true) (dm may i false)) b) :
  mR n (sK n (dm on i false) (dm on i true) a b) (dm may i false &&& dm may i true) (i + 1) := by
 have hi8 : i < 8 := by omega
 have hlt : ∀ p y, p < 256 → rq p i y < 256 := fun p y hp => (kr (n := 8) hi8).2 hp
 refine ⟨hi, fun p hp hq => ?_, fun p hp hq => ?_, fun p j hp hj => ?_, fun p j hp hj => ?_⟩
 ·rw [jA, Bool.or_eq_true, Bool.and_eq_true, Bool.and_eq_true] at hq
  rw [Nat.testBit_and, Bool.and_eq_true]
  have one : ∀ (x : Bool) (l : List Cb), (dm on i x).testBit p = true → (!(kF l n l.length).testBit p) = true → El n (andNot (dm on i x) (dm may i (!x))) l → (dm may i x).testBit p = true ∧ (dm may i (!x)).testBit p = true := by
   intro x l h1 h2 hc
   have hm : (dm may i x).testBit p = true := by
    rw [gr hi8 hp] at h1 ⊢
    exact h.sub _ (hlt p x hp) h1
   refine ⟨hm, Classical.byContradiction fun hn => ?_⟩
   have hpn : p < 2 ^ n := by
    rw [gr hi8 hp] at hm
    exact (kr hi).1 (h.out _ (hlt p x hp) hm)
   have := hc p hpn (by rw [ej, h1, Bool.eq_false_iff.2 hn]; rfl)
   rw [(qx h8 p).2 ⟨hpn, this⟩] at h2
   cases h2
  rcases hq with ⟨h1, h2⟩ | ⟨h1, h2⟩
  ·exact one false a h1 h2 ca
  ·exact (one true b h1 h2 cb).symm
 ·rw [Nat.testBit_and, Bool.and_eq_true] at hq
  obtain ⟨h1, h2⟩ := (fO hi8).1 hq.1
  exact (kr hi).1 (h.out _ (hlt p _ hp) h2)
 ·have hpj : p ^^^ 2 ^ j < 256 := BA j (by omega) p hp
  rw [jA, jA, Ao h8 (by omega) (fun c hc => (ha c hc).2.2.1 j hj), Ao h8 (by omega) (fun c hc => (hb c hc).2.2.1 j hj)]
  simp only [gr hi8 hp, gr hi8 hpj, pd]
  split
  ·rfl
  ·rename_i hne
   rw [h.free _ j (hlt p _ hp) (by omega), h.free _ j (hlt p _ hp) (by omega)]
 ·have hpj : p ^^^ 2 ^ j < 256 := BA j (by omega) p hp
  simp only [Nat.testBit_and, gr hi8 hp, gr hi8 hpj, pd]
  split
  ·rfl
  ·rename_i hne
   rw [h.freeM _ j (hlt p _ hp) (by omega), h.freeM _ j (hlt p _ hp) (by omega)]
theorem BQ {a : List Cb} {one : Nat} {c : Cb} : c ∈ a.map (im i one) ↔ ∃ d, d ∈ a ∧ im i one d = c := List.mem_map
theorem DC (h8 : n ≤ 8) (hi : i < n) {a : List Cb} {one : Nat} {x : Bool} (h1 : (one = 0 ∧ x = false) ∨ (one = 1 ∧ x = true)) (ha : jd n (dm may i x) (i + 1) a) (_hf : ∀ p j, p < 256 → j < i → may.testBit (p ^^^ 2 ^ j) = may.testBit p) :
  jd n may i (a.map (im i one)) := by
 intro c hc
 obtain ⟨d, hd, rfl⟩ := BQ.1 hc
 obtain ⟨k1, k2, k3, k4⟩ := ha d hd
 have ho : one = 0 ∨ one = 1 := h1.elim (fun h => .inl h.1) (fun h => .inr h.1)
 have hx : x = decide (one = 1) := by rcases h1 with ⟨rfl, rfl⟩ | ⟨rfl, rfl⟩ <;> rfl
 refine ⟨fX.2 fun j hj => ?_, Nat.eq_of_testBit_eq fun j => ?_, fun j hj => ?_, fun p hp hh => ?_⟩
 ·rw [jp, fX.1 k1 j hj, decide_eq_false (by omega)]; rfl
 ·rw [Nat.testBit_and, jp]
  have hvb := eU k2 j
  rcases ho with rfl | rfl
  ·rw [nf, hvb]; cases d.v.testBit j <;> cases d.m.testBit j <;> simp
  ·rw [m6, hvb]; cases d.v.testBit j <;> cases d.m.testBit j <;> simp
 ·rw [jp, k3 j (by omega), decide_eq_false (by omega)]; rfl
 ·obtain ⟨g1, g2⟩ := (rI ho k2 (k3 i (by omega))).1 hh
  have := k4 p hp g2
  have hp8 : p < 256 := Nat.lt_of_lt_of_le hp (fU h8)
  rwa [gr (by omega) hp8, hx, kc g1] at this
theorem jd.app {a b : List Cb} (ha : jd n may i a) (hb : jd n may i b) : jd n may i (a ++ b) := fun c hc => (List.mem_append.1 hc).elim (ha c) (hb c)
theorem kx (h8 : n ≤ 8) : ∀ (f on may i : Nat), mR n on may i → n + 1 - i ≤ f → jd n may i (eI n f on may i) ∧ El n on (eI n f on may i)
 | 0, on, may, i, h, hf => by have := h.le; omega
 | f + 1, on, may, i, h, hf => by
  rw [eI]
  split
  ·rename_i h0
   rw [qg] at h0
   refine ⟨fun c hc => (nomatch hc), fun p hp ho => ?_⟩
   rw [h0 p (Nat.lt_of_lt_of_le hp (fU h8)), Nat.zero_testBit] at ho
   cases ho
  ·rename_i h0
   split
   ·rename_i h1
    rw [qg] at h1
    refine ⟨fun c hc => ?_, fun p hp ho => ⟨⟨0, 0⟩, by simp, by simp [hold]⟩⟩
    rw [List.mem_singleton] at hc
    subst hc
    refine ⟨Nat.two_pow_pos n, rfl, fun j _ => Nat.zero_testBit j, fun p hp _ => ?_⟩
    rw [h1 p (Nat.lt_of_lt_of_le hp (fU h8)), fP]
    simp [hp]
   ·rename_i h1
    have hi : i < n := Nat.lt_of_le_of_ne h.le fun e => by
     subst e
     rcases h.end h8 with h2 | h2
     ·exact h0 h2
     ·exact h1 h2
    have hi8 : i < 8 := by omega
    dsimp only
    obtain ⟨a1, a2⟩ := kx h8 f _ _ _ (h.side h8 hi false) (by omega)
    obtain ⟨b1, b2⟩ := kx h8 f _ _ _ (h.side h8 hi true) (by omega)
    simp only [Bool.not_false, Bool.not_true] at a1 a2 b1 b2
    generalize eI n f (andNot (dm on i false) (dm may i true)) (dm may i false) (i + 1) = a at *
    generalize eI n f (andNot (dm on i true) (dm may i false)) (dm may i true) (i + 1) = b at *
    obtain ⟨c1, c2⟩ := kx h8 f _ _ _ (h.rest h8 hi a1 b1 a2 b2) (by omega)
    generalize eI n f (sK n (dm on i false) (dm on i true) a b) (dm may i false &&& dm may i true) (i + 1) = c at *
    refine ⟨jd.app (jd.app (DC h8 hi (.inl ⟨rfl, rfl⟩) a1 h.freeM) (DC h8 hi (.inr ⟨rfl, rfl⟩) b1 h.freeM)) fun d hd => ?_, fun p hp ho => ?_⟩
    ·obtain ⟨k1, k2, k3, k4⟩ := c1 d hd
     refine ⟨k1, k2, fun j hj => k3 j (by omega), fun p hp hh => ?_⟩
     have hp8 : p < 256 := Nat.lt_of_lt_of_le hp (fU h8)
     have := k4 p hp hh
     rw [Nat.testBit_and, gr hi8 hp8, gr hi8 hp8, Bool.and_eq_true] at this
     cases hb : p.testBit i with
     | false => rw [kc hb] at this; exact this.1
     | true => rw [kc hb] at this; exact this.2
    ·have hp8 : p < 256 := Nat.lt_of_lt_of_le hp (fU h8)
     have key : ∀ (x : Bool) (one : Nat) (l : List Cb), p.testBit i = x → ((one = 0 ∧ x = false) ∨ (one = 1 ∧ x = true)) → jd n (dm may i x) (i + 1) l →
       ((kF l n l.length).testBit p = true → ∃ d, d ∈ l.map (im i one) ∧ hold d p) := by
      intro x one l hb h1 hl hpt
      obtain ⟨_, d, hd, hh⟩ := (qx h8 p).1 hpt
      have ho : one = 0 ∨ one = 1 := h1.elim (fun h => .inl h.1) (fun h => .inr h.1)
      have hx : x = decide (one = 1) := by rcases h1 with ⟨rfl, rfl⟩ | ⟨rfl, rfl⟩ <;> rfl
      obtain ⟨k1, k2, k3, k4⟩ := hl d hd
      exact ⟨_, BQ.2 ⟨d, hd, rfl⟩, (rI ho k2 (k3 i (by omega))).2 ⟨by rw [hb, hx], hh⟩⟩
     cases hb : p.testBit i with
     | false =>
      have hon : (dm on i false).testBit p = true := by rw [gr hi8 hp8, kc hb]; exact ho
      by_cases hpt : (kF a n a.length).testBit p = true
      ·obtain ⟨d, hd, hh⟩ := key false 0 a hb (.inl ⟨rfl, rfl⟩) a1 hpt
       exact ⟨d, by simp only [List.mem_append]; exact .inl (.inl hd), hh⟩
      ·obtain ⟨d, hd, hh⟩ := c2 p hp (by rw [jA, hon, Bool.eq_false_iff.2 hpt]; rfl)
       exact ⟨d, by simp only [List.mem_append]; exact .inr hd, hh⟩
     | true =>
      have hon : (dm on i true).testBit p = true := by rw [gr hi8 hp8, kc hb]; exact ho
      by_cases hpt : (kF b n b.length).testBit p = true
      ·obtain ⟨d, hd, hh⟩ := key true 1 b hb (.inr ⟨rfl, rfl⟩) b1 hpt
       exact ⟨d, by simp only [List.mem_append]; exact .inl (.inr hd), hh⟩
      ·obtain ⟨d, hd, hh⟩ := c2 p hp (by rw [jA, hon, Bool.eq_false_iff.2 hpt]; simp)
       exact ⟨d, by simp only [List.mem_append]; exact .inr hd, hh⟩
theorem iO : ∀ (f on may i : Nat), (eI n f on may i).length ≤ 3 ^ f
 | 0, _, _, _ => by simp [eI]
 | f + 1, on, may, i => by
  rw [eI]
  have h3 : 3 ^ (f + 1) = 3 ^ f + 3 ^ f + 3 ^ f := by rw [Nat.pow_succ]; omega
  have h0 : 0 < 3 ^ f := Nat.pow_pos (by decide)
  split
  ·simp
  ·split
   ·simp; omega
   ·have h4 := iO f (andNot (dm on i false) (dm may i true)) (dm may i false) (i + 1)
    have h5 := iO f (andNot (dm on i true) (dm may i false)) (dm may i true) (i + 1)
    simp only [List.length_append, List.length_map]
    generalize eI n f (andNot (dm on i false) (dm may i true)) (dm may i false) (i + 1) = a at *
    generalize eI n f (andNot (dm on i true) (dm may i false)) (dm may i true) (i + 1) = b at *
    have h6 := iO f (sK n (dm on i false) (dm on i true) a b) (dm may i false &&& dm may i true) (i + 1)
    omega
end
def mg (x y : Nat) : Array Value := #[wv x 0, wv x 1, wv x 2, wv x 3, wv y 0, wv y 1, wv y 2, wv y 3]
def nn (s i k : Nat) : Array Value := mg (if 0 < k then dm s i false else 0) (if 1 < k then dm s i true else 0)
theorem AD (s i : Nat) : (#[.int .u64 0, .int .u64 0, .int .u64 0, .int .u64 0, .int .u64 0, .int .u64 0, .int .u64 0, .int .u64 0] : Array Value) = nn s i 0 := by
 simp [nn, mg, wd]
theorem tm {w : World} {b s i : Nat} {T : TypeId} (h : At w b #[.int .u64 0, .int .u64 0, .int .u64 0, .int .u64 0, .int .u64 0, .int .u64 0, .int .u64 0, .int .u64 0] T) : At w b (nn s i 0) T := by
 rw [← AD]; exact h
theorem pn (s i k : Nat) : (nn s i k).size = 8 := rfl
theorem ro {s i k : Nat} (hk : k < 2) :
  ((nn s i k).toList.take (0 + k * 4) ++ (#[wv (dm s i (decide ((k : Int) = 1))) 0, wv (dm s i (decide ((k : Int) = 1))) 1, wv (dm s i (decide ((k : Int) = 1))) 2, wv (dm s i (decide ((k : Int) = 1))) 3] : Array Value).toList ++
   (nn s i k).toList.drop (0 + k * 4 + (#[wv (dm s i (decide ((k : Int) = 1))) 0, wv (dm s i (decide ((k : Int) = 1))) 1, wv (dm s i (decide ((k : Int) = 1))) 2, wv (dm s i (decide ((k : Int) = 1))) 3] : Array Value).toList.length)).toArray = nn s i (k + 1) := by
 have : k = 0 ∨ k = 1 := by omega
 rcases this with rfl | rfl <;> rfl
theorem uF {s t : Nat} (h : ((wd s 0 : Nat) : Int) = ((wd t 0 : Nat) : Int) ∧ ((wd s 1 : Nat) : Int) = ((wd t 1 : Nat) : Int) ∧ ((wd s 2 : Nat) : Int) = ((wd t 2 : Nat) : Int) ∧ ((wd s 3 : Nat) : Int) = ((wd t 3 : Nat) : Int)) : wT s t = true := by
 unfold wT
 rw [decide_eq_true_eq]
 obtain ⟨h0, h1, h2, h3⟩ := h
 exact ⟨Int.ofNat_inj.1 h0, Int.ofNat_inj.1 h1, Int.ofNat_inj.1 h2, Int.ofNat_inj.1 h3⟩
theorem sv {s t : Nat} (h : wT s t = true) : ((wd s 0 : Nat) : Int) = ((wd t 0 : Nat) : Int) ∧ ((wd s 1 : Nat) : Int) = ((wd t 1 : Nat) : Int) ∧ ((wd s 2 : Nat) : Int) = ((wd t 2 : Nat) : Int) ∧ ((wd s 3 : Nat) : Int) = ((wd t 3 : Nat) : Int) := by
 unfold wT at h
 rw [decide_eq_true_eq] at h
 obtain ⟨h0, h1, h2, h3⟩ := h
 exact ⟨by rw [h0], by rw [h1], by rw [h2], by rw [h3]⟩
theorem L7 {n on may i : Nat} (h8 : n ≤ 8) (h : mR n on may i) (h0 : ¬ wT on 0 = true) (h1 : ¬ wT may (fi n) = true) : i < n := Nat.lt_of_le_of_ne h.le fun e => by
 subst e
 rcases h.end h8 with h2 | h2
 ·exact h0 h2
 ·exact h1 h2
theorem Az {l : List Cb} {i q k : Nat} (h : k < l.length) : (l.take (k + 1)).map (im i q) = (l.take k).map (im i q) ++ [im i q (l.getD k ⟨0, 0⟩)] := by
 rw [List.take_succ_eq_append_getElem h, List.map_append]
 simp [List.getD_eq_getElem?_getD, List.getElem?_eq_getElem h]
theorem J8 {s k : Nat} {i : Int} {one : Bool} {H : Nat} (h : (if 0 ≤ i ∧ i < 8 then oT s i.toNat one else 0) = H) (hk : (k : Int) < ((eg H).length : Int)) : 0 ≤ i ∧ i < 8 := by
 refine Classical.byContradiction fun hn => ?_
 rw [if_neg hn] at h
 subst h
 have e : eg 0 = [] := by simp [eg]
 rw [e] at hk
 simp at hk
 omega
theorem Ie {s : Nat} {i : Int} {one : Bool} {H : Nat} (h : (if 0 ≤ i ∧ i < 8 then oT s i.toNat one else 0) = H) : jN (eg H) H i.toNat (eg H).length = if 0 ≤ i ∧ i < 8 then dm s i.toNat one else 0 := by
 split at h
 ·rename_i hi
  rw [if_pos hi, dm, h]
 ·rename_i hi
  rw [if_neg hi]
  subst h
  have e : eg 0 = [] := by simp [eg]
  rw [e]; rfl
theorem Fr {s : Nat} {n : Int} {c d : Cb} (h : imp s n d) (hr : dY c.m c.v n = true) (hh : i7 d c = true) : imp s n c := by
 rw [fY] at h ⊢
 refine ⟨hr, fun p hp hc => h.2 p hp ?_⟩
 exact lu (dW.1 h.1).2.2.2 hh hc
theorem FA {c d : Cb} {i : Nat} (hi : i < 8) (h : i7 c d = true) : i7 (i4 c i) (i4 d i) = true := by
 rw [mm] at h ⊢
 intro j hj
 have hj' : (jx c.m (i : Int)).testBit j = true := hj
 rw [eM hi, Bool.and_eq_true] at hj'
 obtain ⟨h1, h2⟩ := h j hj'.1
 have hm : (i4 d i).m.testBit j = true := by
  show (jx d.m (i : Int)).testBit j = true
  rw [eM hi, h1, hj'.2]; rfl
 refine ⟨hm, ?_⟩
 show (c.v &&& jx c.m (i : Int)).testBit j = (d.v &&& jx d.m (i : Int)).testBit j
 rw [Nat.testBit_and, Nat.testBit_and, eM hi, eM hi, h1, hj'.1, hj'.2, h2]
theorem zU {s : Nat} {n : Int} {c : Cb} (h : imp s n c) : ∀ i : Nat, (i : Int) ≤ n → imp s n (eY s n c i) ∧ i7 (eY s n c i) c = true ∧ ∀ j, j < i → (eY s n c i).m.testBit j = true → ¬ imp s n (i4 (eY s n c i) j)
 | 0, _ => ⟨h, CY c, fun j hj => absurd hj (Nat.not_lt_zero j)⟩
 | i + 1, hi => by
  obtain ⟨h1, h2, h3⟩ := zU h i (by omega)
  obtain ⟨h0, h8, _, _⟩ := dW.1 (fY.1 h).1
  by_cases hw : imp s n (i4 (eY s n c i) i)
  ·have e : eY s n c (i + 1) = i4 (eY s n c i) i := vO hw
   rw [e]
   have hho : i7 (i4 (eY s n c i) i) (eY s n c i) = true := GC (by omega)
   refine ⟨hw, Br hho h2, fun j hj hm => ?_⟩
   have hm' : (jx (eY s n c i).m (i : Int)).testBit j = true := hm
   rw [eM (by omega), Bool.and_eq_true, decide_eq_true_eq] at hm'
   intro hn
   refine h3 j (by omega) hm'.1 (Fr hn (Al (fY.1 h1).1) (FA (by omega) hho))
  ·have e : eY s n c (i + 1) = eY s n c i := v6 (Bool.eq_false_iff.2 hw)
   rw [e]
   refine ⟨h1, h2, fun j hj hm => ?_⟩
   rcases Nat.lt_succ_iff_lt_or_eq.1 hj with hj | rfl
   ·exact h3 j hj hm
   ·exact hw
theorem rk {s : Nat} {n : Int} {c : Cb} (h : imp s n c) : gN (jw s n c).m (jw s n c).v s n = true ∧ i7 (jw s n c) c = true := by
 obtain ⟨h0, h8, _, _⟩ := dW.1 (fY.1 h).1
 obtain ⟨h1, h2, h3⟩ := zU h n.toNat (by omega)
 refine ⟨gf.2 ⟨h1, fun i hi => ?_⟩, h2⟩
 unfold ka
 rw [Bool.and_eq_false_iff]
 by_cases hm : (jw s n c).m.testBit i = true
 ·exact .inr (Bool.eq_false_iff.2 (h3 i hi hm))
 ·exact .inl (Bool.eq_false_iff.2 hm)
def iJ (s : Nat) (n : Int) (l : List Cb) : Nat → List Cb
 | 0 => []
 | k + 1 => iy (iJ s n l k) (jw s n (l.getD k ⟨0, 0⟩))
abbrev Dq (s : Nat) (n : Int) (l : List Cb) : List Cb := iJ s n l l.length
theorem pg (s : Nat) (n : Int) (l : List Cb) : ∀ k, (iJ s n l k).length ≤ k
 | 0 => by simp [iJ]
 | k + 1 => Nat.le_trans (p4 _ _) (by have := pg s n l k; omega)
theorem px {s : Nat} {n : Int} {l : List Cb} {c : Cb} : ∀ k, c ∈ iJ s n l k ↔ ∃ j, j < k ∧ c = jw s n (l.getD j ⟨0, 0⟩)
 | 0 => by simp [iJ]
 | k + 1 => by
  rw [iJ, gm, px k]
  constructor
  ·rintro (⟨j, hj, h⟩ | h)
   ·exact ⟨j, by omega, h⟩
   ·exact ⟨k, by omega, h⟩
  ·rintro ⟨j, hj, h⟩
   rcases Nat.lt_succ_iff_lt_or_eq.1 hj with hj | rfl
   ·exact .inl ⟨j, hj, h⟩
   ·exact .inr h
end
section
open Go Go.RowKit
def PZ (f : Nat → Bool) (k : Nat) : List Bool := (List.range 256).map fun p => decide (p < k) && f p
theorem de (f : Nat → Bool) (k : Nat) : (PZ f k).length = 256 := by simp [PZ]
theorem yo {s k : Nat} (h : k < 256) : (pv s).getD (k : Int).toNat false = s.testBit k := by
 rw [Int.toNat_natCast]; exact iD h
theorem Ep {α : Type} {enc : α → List Value} {sz : Nat} {T : TypeId} {ok : Bool} {e1 : Int} {L : List α} {v : Value} {w' : World} {N : Nat} (h : if ok = true then ∃ x, v = .tuple #[x, .int .i64 0] ∧ dh enc sz T w' N x L else v = .tuple #[.slice none 0 0, .int .i64 e1]) :
  ∃ (x : Value) (er : Int) (l : List α), v = .tuple #[x, .int .i64 er] ∧ dh enc sz T w' N x l ∧ ((ok = true ∧ er = 0 ∧ l = L) ∨ (ok = false ∧ er = e1 ∧ l = [])) := by
 by_cases ho : ok = true
 ·rw [if_pos ho] at h
  obtain ⟨x, h1, h2⟩ := h
  exact ⟨x, 0, _, h1, h2, .inl ⟨ho, rfl, rfl⟩⟩
 ·rw [if_neg ho] at h
  exact ⟨_, e1, [], h, dh.nil, .inr ⟨by simpa using ho, rfl, rfl⟩⟩
def xV (on may : Nat) (n : Int) : Bool := uL may n && ep on may
theorem jL {on may : Nat} {n : Int} : xV on may n = true ↔ uL may n = true ∧ ep on may = true := by unfold xV; rw [Bool.and_eq_true]
theorem LZ {on may sa : Nat} {n er : Int} (h : (0 ≤ n ∧ n ≤ 8 ∧ sa = fi n.toNat ∧ er = 0) ∨ (¬ (0 ≤ n ∧ n ≤ 8) ∧ er = 1)) (h0 : ¬ er = 0) : ¬ xV on may n = true := fun hk => Fa h h0 (jL.1 hk).1
theorem K1 {on may : Nat} {n : Int} (h : (!ep on may) = true) : ¬ xV on may n = true := fun hk => by
 rw [(jL.1 hk).2] at h; cases h
theorem KL {on may sa : Nat} {n er : Int} (h : (0 ≤ n ∧ n ≤ 8 ∧ sa = fi n.toNat ∧ er = 0) ∨ (¬ (0 ≤ n ∧ n ≤ 8) ∧ er = 1)) (h0 : ¬ ¬ er = 0) (hw : (!ep may sa) = true) : ¬ xV on may n = true := fun hk => EF h h0 hw (jL.1 hk).1
theorem Ox {on may sa : Nat} {n er : Int} (h : (0 ≤ n ∧ n ≤ 8 ∧ sa = fi n.toNat ∧ er = 0) ∨ (¬ (0 ≤ n ∧ n ≤ 8) ∧ er = 1)) (h0 : ¬ ¬ er = 0) (h1 : (!ep on may) = false) (hw : (!ep may sa) = false) : xV on may n = true :=
 jL.2 ⟨GW h h0 hw, by simpa using h1⟩
theorem zB {on may : Nat} {n : Nat} (h : xV on may (n : Int) = true) : n ≤ 8 ∧ mR n on may 0 := by
 obtain ⟨h1, h2⟩ := jL.1 h
 obtain ⟨h0, h8⟩ := jY h1
 have hw : ep may (fi n) = true := by
  unfold uL at h1
  rw [decide_eq_true h0, decide_eq_true h8] at h1
  simpa using h1
 refine ⟨by omega, FC (d5.1 h2) fun p hp hm => ?_⟩
 have := d5.1 hw p hp hm
 rw [fP] at this
 simpa using this
abbrev i6 (on may : Nat) (n : Int) : List Cb := eI n.toNat (n.toNat + 1) on may 0
theorem N7 {n : Nat} (h : n ≤ 8) : 3 ^ (n + 1) ≤ 19683 := by
 have : 3 ^ (n + 1) ≤ 3 ^ 9 := Nat.pow_le_pow_right (by decide) (by omega)
 simpa using this
theorem Av {on may : Nat} {n : Int} (h : n ≤ 8) : (i6 on may n).length ≤ 19683 := Nat.le_trans (iO _ _ _ _) (N7 (by omega))
theorem uP {on may : Nat} {n : Int} (h : xV on may n = true) {c : Cb} (hc : c ∈ i6 on may n) : o0 c.m c.v may n = true ∧ c.m < 256 ∧ c.v < 256 ∧ c.v &&& c.m = c.v := by
 obtain ⟨h0, h8⟩ := jY (jL.1 h).1
 obtain ⟨n, rfl⟩ := Int.eq_ofNat_of_zero_le h0
 obtain ⟨h8', hg⟩ := zB h
 obtain ⟨k1, k2, k3, k4⟩ := (kx h8' (n + 1) on may 0 hg (by omega)).1 c hc
 have hp := fU h8'
 have hle : c.v ≤ c.m := by rw [← k2]; exact Nat.and_le_right
 refine ⟨fY.2 ⟨dW.2 ⟨h0, h8, k1, k2⟩, fun p hp hh => k4 p hp hh⟩, by omega, by omega, k2⟩
theorem pW {α : Type} [DecidableEq α] {l : List α} {k : α} (h : k ∈ l) : iy l k = l := if_pos h
theorem wj {α : Type} [DecidableEq α] {l : List α} {k : α} (h : k ∉ l) : iy l k = l ++ [k] := if_neg h
theorem MV {ok : Bool} {er : Int} {l L : List Cb} (h : (ok = true ∧ er = 0 ∧ l = L) ∨ (ok = false ∧ er = 1 ∧ l = [])) (h0 : ¬ er = 0) : ¬ ok = true ∧ er = 1 := by
 rcases h with ⟨_, h2, _⟩ | ⟨h1, h2, _⟩
 ·exact absurd h2 h0
 ·exact ⟨by rw [h1]; decide, h2⟩
theorem G0 {ok : Bool} {er : Int} {l L : List Cb} (h : (ok = true ∧ er = 0 ∧ l = L) ∨ (ok = false ∧ er = 1 ∧ l = [])) (h0 : ¬ ¬ er = 0) : ok = true ∧ l = L := by
 rcases h with ⟨h1, _, h2⟩ | ⟨_, h2, _⟩
 ·exact ⟨h1, h2⟩
 ·exact absurd (fun e => by rw [h2] at e; cases e) h0
end
section
open Go Go.RowKit
structure Sp where
 n : Int
 on : List Nat
 may : List Nat
def zP (S : Sp) (k : Nat) : Nat := S.on.getD k 0
def jf (S : Sp) (k : Nat) : Nat := S.may.getD k 0
def dP (S : Sp) : Bool :=
 decide (0 ≤ S.n) && (decide (S.n ≤ 8) && (decide (1 ≤ S.on.length) && (decide (S.on.length ≤ 4) && (decide (S.on.length = S.may.length) &&
  (List.range S.on.length).all fun k => ep (zP S k) (jf S k) && ep (jf S k) (fi S.n.toNat)))))
theorem d7 {S : Sp} : dP S = true ↔ 0 ≤ S.n ∧ S.n ≤ 8 ∧ 1 ≤ S.on.length ∧ S.on.length ≤ 4 ∧ S.on.length = S.may.length ∧ ∀ k, k < S.on.length → ep (zP S k) (jf S k) = true ∧ ep (jf S k) (fi S.n.toNat) = true := by
 unfold dP
 simp only [Bool.and_eq_true, decide_eq_true_eq, List.all_eq_true, List.mem_range]
theorem l5 {S : Sp} (h : ¬ (0 ≤ S.n ∧ S.n ≤ 8 ∧ 1 ≤ S.on.length ∧ S.on.length ≤ 4 ∧ S.on.length = S.may.length)) : Value.bool false = .bool (dP S) :=
 congrArg Value.bool (Bool.eq_false_iff.2 fun hr => h (by
  obtain ⟨h1, h2, h3, h4, h5, _⟩ := d7.1 hr
  exact ⟨h1, h2, h3, h4, h5⟩)).symm
theorem uH {S : Sp} {k : Nat} (hk : k < S.on.length) (h : ¬ (ep (zP S k) (jf S k) = true ∧ ep (jf S k) (fi S.n.toNat) = true)) : Value.bool false = .bool (dP S) :=
 congrArg Value.bool (Bool.eq_false_iff.2 fun hr => h ((d7.1 hr).2.2.2.2.2 k hk)).symm
theorem DM {S : Sp} (h : 0 ≤ S.n ∧ S.n ≤ 8 ∧ 1 ≤ S.on.length ∧ S.on.length ≤ 4 ∧ S.on.length = S.may.length) (hk : ∀ k, k < S.on.length → ep (zP S k) (jf S k) = true ∧ ep (jf S k) (fi S.n.toNat) = true) : Value.bool true = .bool (dP S) :=
 congrArg Value.bool (d7.2 ⟨h.1, h.2.1, h.2.2.1, h.2.2.2.1, h.2.2.2.2, hk⟩).symm
def kM (S : Sp) (c : Cb) : Nat → Nat
 | 0 => 0
 | k + 1 => if o0 c.m c.v (jf S k) S.n = true then kM S c k ||| 1 * 2 ^ k else kM S c k
abbrev kg (S : Sp) (c : Cb) : Nat := kM S c S.may.length
theorem Js {S : Sp} {c : Cb} {k : Nat} (h : o0 c.m c.v (jf S k) S.n = true) : kM S c k ||| 1 * 2 ^ k = kM S c (k + 1) := (if_pos h).symm
theorem Il {S : Sp} {c : Cb} {k : Nat} (h : o0 c.m c.v (jf S k) S.n = false) : kM S c k = kM S c (k + 1) := (if_neg (by rw [h]; decide)).symm
theorem gD {S : Sp} {c : Cb} {j : Nat} : ∀ k, (kM S c k).testBit j = true ↔ j < k ∧ o0 c.m c.v (jf S j) S.n = true
 | 0 => by simp [kM]
 | k + 1 => by
  rw [kM]
  split
  ·rename_i h
   rw [Nat.one_mul, Nat.testBit_or, Nat.testBit_two_pow, Bool.or_eq_true, gD k, decide_eq_true_eq]
   constructor
   ·rintro (⟨h1, h2⟩ | rfl)
    ·exact ⟨by omega, h2⟩
    ·exact ⟨by omega, h⟩
   ·rintro ⟨h1, h2⟩
    rcases Nat.lt_succ_iff_lt_or_eq.1 h1 with h1 | h1
    ·exact .inl ⟨h1, h2⟩
    ·exact .inr h1.symm
  ·rename_i h
   rw [gD k]
   constructor
   ·rintro ⟨h1, h2⟩; exact ⟨by omega, h2⟩
   ·rintro ⟨h1, h2⟩
    rcases Nat.lt_succ_iff_lt_or_eq.1 h1 with h1 | rfl
    ·exact ⟨h1, h2⟩
    ·exact absurd h2 h
theorem qs (S : Sp) (c : Cb) (k : Nat) : kM S c k < 2 ^ k := fX.2 fun j hj => Bool.eq_false_iff.2 fun h => by
 have := ((gD k).1 h).1
 omega
theorem F8 {k : Nat} (h : k ≤ 4) : 2 ^ k ≤ 16 := by
 have h2 : 2 ^ k ≤ 2 ^ 4 := Nat.pow_le_pow_right (by decide) h
 simpa using h2
def pU (S : Sp) (x : Rw) : Bool := dP S && (decide (0 < x.o) && decide (andNot x.o (kg S x.c) = 0))
theorem wx {a b : Nat} : andNot a b = 0 ↔ ∀ j, a.testBit j = true → b.testBit j = true := by
 constructor
 ·intro h j hj
  have h2 := congrArg (fun x => x.testBit j) h
  simp only [ej, Nat.zero_testBit, hj, Bool.true_and] at h2
  simpa using h2
 ·intro h
  refine Nat.eq_of_testBit_eq fun j => ?_
  rw [ej, Nat.zero_testBit]
  cases ha : a.testBit j with
  | false => rfl
  | true => rw [h j ha]; rfl
theorem gy {S : Sp} {x : Rw} : pU S x = true ↔ dP S = true ∧ 0 < x.o ∧ ∀ j, x.o.testBit j = true → j < S.may.length ∧ o0 x.c.m x.c.v (jf S j) S.n = true := by
 unfold pU
 rw [Bool.and_eq_true, Bool.and_eq_true, decide_eq_true_eq, decide_eq_true_eq, wx]
 simp only [gD]
theorem nY {S : Sp} {x : Rw} (h : pU S x = true) : x.o < 2 ^ S.may.length ∧ x.o < 16 := by
 obtain ⟨h1, _, h3⟩ := gy.1 h
 obtain ⟨_, _, _, h4, h5, _⟩ := d7.1 h1
 have : x.o < 2 ^ S.may.length := fX.2 fun j hj => Bool.eq_false_iff.2 fun hb => by have := (h3 j hb).1; omega
 have := F8 (k := S.may.length) (by omega)
 omega
theorem og {a : Nat} (h : 0 < a) : ∃ j, a.testBit j = true := Classical.byContradiction fun hn => by
 have : a = 0 := Nat.eq_of_testBit_eq fun j => by rw [Nat.zero_testBit]; exact Bool.eq_false_iff.2 fun hb => hn ⟨j, hb⟩
 omega
theorem uc {a j : Nat} (h : a.testBit j = true) : 0 < a := Nat.pos_of_ne_zero fun e => by
 rw [e, Nat.zero_testBit] at h; cases h
theorem gn {S : Sp} {x : Rw} (h : pU S x = true) : dY x.c.m x.c.v S.n = true := by
 obtain ⟨_, h2, h3⟩ := gy.1 h
 obtain ⟨j, hj⟩ := og h2
 exact tw (h3 j hj).2
def rm (a b : Rw) : Bool := i7 a.c b.c && decide (andNot b.o a.o = 0)
theorem oJ {a b : Rw} : rm a b = true ↔ i7 a.c b.c = true ∧ ∀ j, b.o.testBit j = true → a.o.testBit j = true := by
 unfold rm
 rw [Bool.and_eq_true, decide_eq_true_eq, wx]
def kG (S : Sp) (o : Nat) : Nat → Nat
 | 0 => fi S.n.toNat
 | k + 1 => if o.testBit k = true then kG S o k &&& jf S k else kG S o k
abbrev f7 (S : Sp) (o : Nat) : Nat := kG S o S.may.length
theorem Eu {S : Sp} {o k : Nat} (h : o.testBit k = true) : kG S o k &&& jf S k = kG S o (k + 1) := (if_pos h).symm
theorem Ew {S : Sp} {o k : Nat} (h : ¬ o.testBit k = true) : kG S o k = kG S o (k + 1) := (if_neg h).symm
theorem iX {S : Sp} {o p : Nat} : ∀ k, (kG S o k).testBit p = true ↔ p < 2 ^ S.n.toNat ∧ ∀ j, j < k → o.testBit j = true → (jf S j).testBit p = true
 | 0 => by simp [kG, fP]
 | k + 1 => by
  rw [kG]
  split
  ·rename_i h
   rw [Nat.testBit_and, Bool.and_eq_true, iX k]
   constructor
   ·rintro ⟨⟨h1, h2⟩, h3⟩
    refine ⟨h1, fun j hj ho => ?_⟩
    rcases Nat.lt_succ_iff_lt_or_eq.1 hj with hj | rfl
    ·exact h2 j hj ho
    ·exact h3
   ·rintro ⟨h1, h2⟩
    exact ⟨⟨h1, fun j hj ho => h2 j (by omega) ho⟩, h2 k (by omega) h⟩
  ·rename_i h
   rw [iX k]
   constructor
   ·rintro ⟨h1, h2⟩
    refine ⟨h1, fun j hj ho => ?_⟩
    rcases Nat.lt_succ_iff_lt_or_eq.1 hj with hj | rfl
    ·exact h2 j hj ho
    ·exact absurd ho h
   ·rintro ⟨h1, h2⟩
    exact ⟨h1, fun j hj ho => h2 j (by omega) ho⟩
theorem GH {S : Sp} (hr : dP S = true) (o : Nat) : uL (f7 S o) S.n = true := by
 obtain ⟨h0, h8, _⟩ := d7.1 hr
 unfold uL
 rw [decide_eq_true h0, decide_eq_true h8, Bool.true_and, Bool.true_and, d5]
 intro p _ h
 rw [fP]
 simpa using ((iX _).1 h).1
theorem tr {S : Sp} {c : Cb} {o : Nat} : o0 c.m c.v (f7 S o) S.n = true ↔ dY c.m c.v S.n = true ∧ ∀ j, j < S.may.length → o.testBit j = true → o0 c.m c.v (jf S j) S.n = true := by
 have e1 := fY (s := f7 S o) (n := S.n) (c := c)
 have e2 := fun j => fY (s := jf S j) (n := S.n) (c := c)
 unfold imp at e1 e2
 rw [e1]
 constructor
 ·rintro ⟨h1, h2⟩
  exact ⟨h1, fun j hj ho => (e2 j).2 ⟨h1, fun p hp hc => ((iX _).1 (h2 p hp hc)).2 j hj ho⟩⟩
 ·rintro ⟨h1, h2⟩
  exact ⟨h1, fun p hp hc => (iX _).2 ⟨hp, fun j hj ho => ((e2 j).1 (h2 j hj ho)).2 p hp hc⟩⟩
theorem jH {S : Sp} {x : Rw} : pU S x = true ↔ dP S = true ∧ 0 < x.o ∧ x.o < 2 ^ S.may.length ∧ o0 x.c.m x.c.v (f7 S x.o) S.n = true := by
 constructor
 ·intro h
  obtain ⟨h1, h2, h3⟩ := gy.1 h
  exact ⟨h1, h2, (nY h).1, tr.2 ⟨gn h, fun j _ hj => (h3 j hj).2⟩⟩
 ·rintro ⟨h1, h2, h3, h4⟩
  refine gy.2 ⟨h1, h2, fun j hj => ?_⟩
  have hlt : j < S.may.length := Classical.byContradiction fun hn => by
   rw [fX.1 h3 j (by omega)] at hj; cases hj
  exact ⟨hlt, (tr.1 h4).2 j hlt hj⟩
def tt (S : Sp) (x : Rw) : Nat → List Cb
 | 0 => []
 | k + 1 => if ¬ i4 x.c k = x.c ∧ pU S ⟨i4 x.c k, x.o⟩ = true then tt S x k ++ [i4 x.c k] else tt S x k
theorem xN {S : Sp} {x : Rw} : ∀ k, (tt S x k).length = 0 ↔ ∀ i, i < k → ¬ (¬ i4 x.c i = x.c ∧ pU S ⟨i4 x.c i, x.o⟩ = true)
 | 0 => by simp [tt]
 | k + 1 => by
  have ih := xN (S := S) (x := x) k
  rw [tt]
  split
  ·rename_i h
   simp only [List.length_append, List.length_cons, List.length_nil]
   constructor
   ·intro h2; omega
   ·intro h2; exact absurd h (h2 k (by omega))
  ·rename_i h
   rw [ih]
   constructor
   ·intro h2 i hi
    rcases Nat.lt_succ_iff_lt_or_eq.1 hi with hi | rfl
    ·exact h2 i hi
    ·exact h
   ·intro h2 i hi; exact h2 i (by omega)
def oo (S : Sp) (x : Rw) : Bool := pU S x && (decide (kg S x.c = x.o) && decide ((tt S x S.n.toNat).length = 0))
theorem EY {c : Cb} {i : Nat} (hi : i < 8) (hv : c.v &&& c.m = c.v) : i4 c i = c ↔ c.m.testBit i = false := by
 have hw := fun j => eM (m := c.m) hi j
 constructor
 ·intro h
  have h1 : jx c.m (i : Int) = c.m := congrArg Cb.m h
  have := hw i
  rw [h1] at this
  cases hb : c.m.testBit i with
  | false => rfl
  | true => rw [hb] at this; simp at this
 ·intro h
  have h1 : jx c.m (i : Int) = c.m := Nat.eq_of_testBit_eq fun j => by
   rw [hw]
   by_cases e : j = i
   ·subst e; rw [h]; rfl
   ·simp [e]
  unfold i4
  rw [h1, hv]
theorem fy {S : Sp} {x : Rw} : oo S x = true ↔ pU S x = true ∧ kg S x.c = x.o ∧ gN x.c.m x.c.v (f7 S x.o) S.n = true := by
 unfold oo
 rw [Bool.and_eq_true, Bool.and_eq_true, decide_eq_true_eq, decide_eq_true_eq, xN]
 constructor
 ·rintro ⟨h1, h2, h3⟩
  refine ⟨h1, h2, gf.2 ⟨(jH.1 h1).2.2.2, fun i hi => Bool.eq_false_iff.2 fun hs => ?_⟩⟩
  obtain ⟨h0, h8, hm, hv⟩ := dW.1 (gn h1)
  unfold ka at hs
  rw [Bool.and_eq_true] at hs
  refine h3 i hi ⟨fun he => ?_, jH.2 ⟨(jH.1 h1).1, (jH.1 h1).2.1, (jH.1 h1).2.2.1, hs.2⟩⟩
  rw [(EY (by omega) hv).1 he] at hs
  cases hs.1
 ·rintro ⟨h1, h2, h3⟩
  refine ⟨h1, h2, fun i hi ⟨g1, g2⟩ => ?_⟩
  obtain ⟨h0, h8, hm, hv⟩ := dW.1 (gn h1)
  have hs := (gf.1 h3).2 i hi
  unfold ka at hs
  have hb : x.c.m.testBit i = true := Classical.byContradiction fun hn => g1 ((EY (by omega) hv).2 (Bool.eq_false_iff.2 hn))
  have hw : o0 (jx x.c.m (i : Int)) (x.c.v &&& jx x.c.m (i : Int)) (f7 S x.o) S.n = true := (jH.1 g2).2.2.2
  rw [hb, hw] at hs
  cases hs
def ex (S : Sp) (x : Rw) : Nat → Cb
 | 0 => x.c
 | i + 1 => if pU S ⟨i4 (ex S x i) i, x.o⟩ = true then i4 (ex S x i) i else ex S x i
def tR (S : Sp) (x : Rw) : Rw := ⟨ex S x S.n.toNat, kg S (ex S x S.n.toNat)⟩
theorem ux {S : Sp} {x : Rw} {i : Nat} (h : pU S ⟨i4 (ex S x i) i, x.o⟩ = true) : i4 (ex S x i) i = ex S x (i + 1) := (if_pos h).symm
theorem uA {S : Sp} {x : Rw} {i : Nat} (h : pU S ⟨i4 (ex S x i) i, x.o⟩ = false) : ex S x i = ex S x (i + 1) := (if_neg (by rw [h]; decide)).symm
theorem yg {S : Sp} {x : Rw} (h : pU S x = true) : ∀ i, ex S x i = eY (f7 S x.o) S.n x.c i
 | 0 => rfl
 | i + 1 => by
  have ih := yg h i
  obtain ⟨h1, h2, h3, _⟩ := jH.1 h
  have e : pU S ⟨i4 (eY (f7 S x.o) S.n x.c i) i, x.o⟩ = o0 (i4 (eY (f7 S x.o) S.n x.c i) i).m (i4 (eY (f7 S x.o) S.n x.c i) i).v (f7 S x.o) S.n := by
   rw [Bool.eq_iff_iff]
   exact ⟨fun k => (jH.1 k).2.2.2, fun k => jH.2 ⟨h1, h2, h3, k⟩⟩
  rw [ex, ih, e]
  rfl
theorem rE {S : Sp} {x : Rw} (h : x.c.m < 256 ∧ x.c.v < 256) : ∀ i, (ex S x i).m < 256 ∧ (ex S x i).v < 256
 | 0 => h
 | i + 1 => by
  have ih := rE (S := S) h i
  rw [ex]
  split
  ·exact ⟨Nat.lt_of_le_of_lt (wF _ _) ih.1, Nat.lt_of_le_of_lt Nat.and_le_left ih.2⟩
  ·exact ih
theorem ng {S : Sp} {x : Rw} (h : pU S x = true) : oo S (tR S x) = true ∧ rm (tR S x) x = true := by
 obtain ⟨h1, h2, h3, h4⟩ := jH.1 h
 have hg := rk (s := f7 S x.o) (n := S.n) (c := x.c) h4
 have e : ex S x S.n.toNat = jw (f7 S x.o) S.n x.c := yg h S.n.toNat
 have hsub : ∀ j, x.o.testBit j = true → (kg S (ex S x S.n.toNat)).testBit j = true := fun j hj => by
  have hlt : j < S.may.length := Classical.byContradiction fun hn => by
   rw [fX.1 h3 j (by omega)] at hj; cases hj
  rw [gD, e]
  exact ⟨hlt, (tr.1 (gf.1 hg.1).1).2 j hlt hj⟩
 have hin : pU S (tR S x) = true := gy.2 ⟨h1, (og h2).elim fun j hj => uc (hsub j hj), fun j hj => (gD _).1 hj⟩
 refine ⟨fy.2 ⟨hin, rfl, gf.2 ⟨(jH.1 hin).2.2.2, fun i hi => Bool.eq_false_iff.2 fun hs => ?_⟩⟩, oJ.2 ⟨by show i7 (ex S x S.n.toNat) x.c = true; rw [e]; exact hg.2, hsub⟩⟩
 unfold ka at hs
 rw [Bool.and_eq_true] at hs
 have hk := (gf.1 hg.1).2 i hi
 unfold ka at hk
 rw [← e] at hk
 have hw : o0 (jx (ex S x S.n.toNat).m (i : Int)) ((ex S x S.n.toNat).v &&& jx (ex S x S.n.toNat).m (i : Int)) (f7 S x.o) S.n = true := by
  have := (tr (S := S) (c := i4 (ex S x S.n.toNat) i) (o := kg S (ex S x S.n.toNat))).1 hs.2
  exact (tr (S := S) (c := i4 (ex S x S.n.toNat) i) (o := x.o)).2 ⟨this.1, fun j hj ho => this.2 j hj (hsub j ho)⟩
 have hb : (ex S x S.n.toNat).m.testBit i = true := hs.1
 rw [hb, hw] at hk
 cases hk
def zN (a b : Rw) : Bool := decide (a.o < b.o) || (decide (a.o = b.o) && vG a.c b.c)
theorem qo {a b : Rw} : zN a b = true ↔ a.o < b.o ∨ a.o = b.o ∧ (a.c.m < b.c.m ∨ a.c.m = b.c.m ∧ a.c.v < b.c.v) := by
 unfold zN
 rw [Bool.or_eq_true, Bool.and_eq_true, decide_eq_true_eq, decide_eq_true_eq, km]
def qr (l : List Rw) : Prop := l.Pairwise fun a b => zN a b = true
theorem u4 (a : Rw) : zN a a = false := Bool.eq_false_iff.2 fun h => by rw [qo] at h; omega
theorem FZ {a b c : Rw} (h : zN a b = true) (k : zN b c = true) : zN a c = true := by
 rw [qo] at *; omega
def iP (S : Sp) (o : Nat) : Nat → List Rw
 | 0 => []
 | k + 1 => if kg S ((eE (f7 S o) S.n).getD k ⟨0, 0⟩) = o then iP S o k ++ [⟨(eE (f7 S o) S.n).getD k ⟨0, 0⟩, o⟩] else iP S o k
abbrev BN (S : Sp) (o : Nat) : List Rw := iP S o (eE (f7 S o) S.n).length
def jE (S : Sp) : Nat → List Rw
 | 0 => []
 | o + 1 => if o = 0 then [] else jE S o ++ BN S o
abbrev eR (S : Sp) : List Rw := jE S (2 ^ S.may.length)
theorem Bo {S : Sp} {o k : Nat} (h : kg S ((eE (f7 S o) S.n).getD k ⟨0, 0⟩) = o) : iP S o k ++ [⟨(eE (f7 S o) S.n).getD k ⟨0, 0⟩, o⟩] = iP S o (k + 1) := (if_pos h).symm
theorem AC {S : Sp} {o k : Nat} (h : ¬ kg S ((eE (f7 S o) S.n).getD k ⟨0, 0⟩) = o) : iP S o k = iP S o (k + 1) := (if_neg h).symm
theorem Cp {S : Sp} {o : Nat} (h : 0 < o) : jE S o ++ BN S o = jE S (o + 1) := (if_neg (by omega)).symm
theorem rf (S : Sp) (o : Nat) : ∀ k, (iP S o k).length ≤ k
 | 0 => by simp [iP]
 | k + 1 => by
  have := rf S o k
  rw [iP]
  split <;> simp <;> omega
theorem tj {S : Sp} (h8 : S.n ≤ 8) : ∀ o, (jE S o).length ≤ o * 65536
 | 0 => by simp [jE]
 | o + 1 => by
  have ih := tj h8 o
  have h1 := rf S o (eE (f7 S o) S.n).length
  have h2 := tJ (s := f7 S o) h8
  rw [jE]
  split
  ·simp
  ·simp only [List.length_append]; show (jE S o).length + (iP S o (eE (f7 S o) S.n).length).length ≤ _; omega
theorem mq {S : Sp} {o : Nat} {x : Rw} : ∀ k, x ∈ iP S o k ↔ ∃ j, j < k ∧ x = ⟨(eE (f7 S o) S.n).getD j ⟨0, 0⟩, o⟩ ∧ kg S x.c = o
 | 0 => by simp [iP]
 | k + 1 => by
  rw [iP]
  split
  ·rename_i h
   rw [List.mem_append, List.mem_singleton, mq k]
   constructor
   ·rintro (⟨j, hj, r⟩ | rfl)
    ·exact ⟨j, by omega, r⟩
    ·exact ⟨k, by omega, rfl, h⟩
   ·rintro ⟨j, hj, r, r2⟩
    rcases Nat.lt_succ_iff_lt_or_eq.1 hj with hj | rfl
    ·exact .inl ⟨j, hj, r, r2⟩
    ·exact .inr r
  ·rename_i h
   rw [mq k]
   constructor
   ·rintro ⟨j, hj, r⟩; exact ⟨j, by omega, r⟩
   ·rintro ⟨j, hj, r, r2⟩
    rcases Nat.lt_succ_iff_lt_or_eq.1 hj with hj | rfl
    ·exact ⟨j, hj, r, r2⟩
    ·subst r; exact absurd r2 h
theorem Fp {S : Sp} {o : Nat} {x : Rw} (hr : dP S = true) (h0 : 0 < o) (ho : o < 2 ^ S.may.length) : x ∈ BN S o ↔ oo S x = true ∧ x.o = o := by
 unfold BN
 rw [mq]
 constructor
 ·rintro ⟨j, hj, rfl, h2⟩
  have hp := m0.1 (dS (d := ⟨0, 0⟩) hj)
  have hin : pU S ⟨(eE (f7 S o) S.n).getD j ⟨0, 0⟩, o⟩ = true := jH.2 ⟨hr, h0, ho, (gf.1 hp).1⟩
  exact ⟨fy.2 ⟨hin, h2, hp⟩, rfl⟩
 ·rintro ⟨h1, rfl⟩
  obtain ⟨g1, g2, g3⟩ := fy.1 h1
  obtain ⟨j, hj, he⟩ := fo (d := ⟨0, 0⟩) (m0.2 g3)
  have he' : (eE (f7 S x.o) S.n).getD j ⟨0, 0⟩ = x.c := he
  exact ⟨j, hj, by rw [he'], g2⟩
theorem xS {S : Sp} {x : Rw} (hr : dP S = true) : ∀ o, o ≤ 2 ^ S.may.length → (x ∈ jE S o ↔ oo S x = true ∧ x.o < o)
 | 0, _ => by simp [jE]
 | o + 1, ho => by
  rw [jE]
  split
  ·rename_i h
   subst h
   constructor
   ·intro h; cases h
   ·rintro ⟨h1, h2⟩
    have := (gy.1 (fy.1 h1).1).2.1
    omega
  ·rename_i h
   rw [List.mem_append, xS hr o (by omega), Fp hr (by omega) (by omega)]
   constructor
   ·rintro (⟨h1, h2⟩ | ⟨h1, h2⟩)
    ·exact ⟨h1, by omega⟩
    ·exact ⟨h1, by omega⟩
   ·rintro ⟨h1, h2⟩
    rcases Nat.lt_succ_iff_lt_or_eq.1 h2 with h2 | h2
    ·exact .inl ⟨h1, h2⟩
    ·exact .inr ⟨h1, h2⟩
theorem nA {S : Sp} {x : Rw} (hr : dP S = true) : x ∈ eR S ↔ oo S x = true := by
 rw [xS hr _ (Nat.le_refl _)]
 exact ⟨fun h => h.1, fun h => ⟨h, (nY (fy.1 h).1).1⟩⟩
theorem Cl {l : List Cb} (h : iL l) {i j : Nat} (hij : i < j) (hj : j < l.length) : vG (l.getD i ⟨0, 0⟩) (l.getD j ⟨0, 0⟩) = true := by
 have := List.pairwise_iff_getElem.1 h i j (by omega) hj hij
 simpa [List.getD_eq_getElem?_getD, List.getElem?_eq_getElem hj, List.getElem?_eq_getElem (show i < l.length by omega)] using this
theorem qS (S : Sp) (o : Nat) : ∀ k, k ≤ (eE (f7 S o) S.n).length → qr (iP S o k)
 | 0, _ => by simp [iP, qr]
 | k + 1, hk => by
  have ih := qS S o k (by omega)
  rw [iP]
  split
  ·refine List.pairwise_append.2 ⟨ih, by simp, fun a ha b hb => ?_⟩
   rw [List.mem_singleton] at hb
   subst hb
   obtain ⟨j, hj, rfl, _⟩ := (mq k).1 ha
   have := Cl (pQ (f7 S o) S.n) hj (by omega)
   unfold zN
   rw [this]
   simp
  ·exact ih
theorem Er {S : Sp} {o : Nat} {x : Rw} (h : x ∈ BN S o) : x.o = o := by
 obtain ⟨_, _, rfl, _⟩ := (mq _).1 h
 rfl
theorem DG {S : Sp} {x : Rw} : ∀ o, x ∈ jE S o → x.o < o
 | 0, h => by simp [jE] at h
 | o + 1, h => by
  rw [jE] at h
  split at h
  ·cases h
  ·rcases List.mem_append.1 h with h | h
   ·have := DG o h; omega
   ·have := Er h; omega
theorem oB (S : Sp) : ∀ o, qr (jE S o)
 | 0 => by simp [jE, qr]
 | o + 1 => by
  have ih := oB S o
  rw [jE]
  split
  ·simp [qr]
  ·refine List.pairwise_append.2 ⟨ih, qS S o _ (Nat.le_refl _), fun a ha b hb => ?_⟩
   have h1 := DG o ha
   have h2 := Er hb
   rw [qo]
   omega
def oG (l : List Rw) (x : Rw) : Nat → Nat
 | 0 => 0
 | i + 1 => if zN x (l.getD i ⟨⟨0, 0⟩, 0⟩) = true then oG l x i else i + 1
def Ga (l : List Rw) (x : Rw) : List Rw := l.take (oG l x l.length) ++ x :: l.drop (oG l x l.length)
def fm (l : List Rw) : Nat → List Rw
 | 0 => []
 | k + 1 => Ga (fm l k) (l.getD k ⟨⟨0, 0⟩, 0⟩)
theorem EU (l : List Rw) (x : Rw) : ∀ k, oG l x k ≤ k
 | 0 => by simp [oG]
 | k + 1 => by
  have := EU l x k
  rw [oG]
  split <;> omega
theorem FX {l : List Rw} {x : Rw} {i : Nat} (h0 : 0 < i) (h : zN x (l.getD (i - 1) ⟨⟨0, 0⟩, 0⟩) = true) : oG l x i = oG l x (i - 1) := by
 obtain ⟨j, rfl⟩ : ∃ j, i = j + 1 := ⟨i - 1, by omega⟩
 rw [oG, if_pos (by simpa using h)]; rfl
theorem Be {l : List Rw} {x : Rw} {i : Nat} (h : i = 0 ∨ zN x (l.getD (i - 1) ⟨⟨0, 0⟩, 0⟩) = false) : oG l x i = i := by
 rcases h with rfl | h
 ·rfl
 ·cases i with
  | zero => rfl
  | succ j => rw [oG, if_neg (by simp at h; simp [h])]
theorem Hj (l : List Rw) (x : Rw) : (Ga l x).length = l.length + 1 := by
 have := EU l x l.length
 simp [Ga]; omega
theorem oD (l : List Rw) : ∀ k, (fm l k).length = k
 | 0 => rfl
 | k + 1 => by rw [fm, Hj, oD l k]
theorem tF {l : List Rw} (h : qr l) : ∀ k, k ≤ l.length → fm l k = l.take k
 | 0, _ => rfl
 | k + 1, hk => by
  have ih := tF h k (by omega)
  have e : l.getD k ⟨⟨0, 0⟩, 0⟩ = l[k] := by simp [show k < l.length by omega]
  have hp : oG (l.take k) l[k] (l.take k).length = (l.take k).length := Be (by
   by_cases h0 : (l.take k).length = 0
   ·exact .inl h0
   ·right
    have hl : (l.take k).length = k := by simp; omega
    rw [hl] at h0 ⊢
    have hlt := List.pairwise_iff_getElem.1 h (k - 1) k (by omega) (by omega) (by omega)
    have e2 : (l.take k).getD (k - 1) ⟨⟨0, 0⟩, 0⟩ = l[k - 1] := by
     simp [List.getD_eq_getElem?_getD, List.getElem?_take, show k - 1 < k by omega, List.getElem?_eq_getElem (show k - 1 < l.length by omega)]
    rw [e2]
    refine Bool.eq_false_iff.2 fun hb => ?_
    have := FZ hlt hb
    rw [u4] at this
    cases this)
  rw [fm, ih, e, Ga, hp, List.take_length, List.drop_length, List.take_succ_eq_append_getElem (by omega)]
theorem Fg (S : Sp) : fm (eR S) (eR S).length = eR S := by
 rw [tF (oB S _) _ (Nat.le_refl _), List.take_length]
def mi (l : List Rw) (n o : Nat) : Nat → Nat
 | 0 => 0
 | k + 1 => if (l.getD k ⟨⟨0, 0⟩, 0⟩).o.testBit o = true then mi l n o k ||| qH (l.getD k ⟨⟨0, 0⟩, 0⟩).c.m (l.getD k ⟨⟨0, 0⟩, 0⟩).c.v n else mi l n o k
theorem Hd {l : List Rw} {n o k : Nat} (h : (l.getD k ⟨⟨0, 0⟩, 0⟩).o.testBit o = true) : mi l n o k ||| qH (l.getD k ⟨⟨0, 0⟩, 0⟩).c.m (l.getD k ⟨⟨0, 0⟩, 0⟩).c.v n = mi l n o (k + 1) := (if_pos h).symm
theorem GS {l : List Rw} {n o k : Nat} (h : ¬ (l.getD k ⟨⟨0, 0⟩, 0⟩).o.testBit o = true) : mi l n o k = mi l n o (k + 1) := (if_neg h).symm
def Nr (x : Rw) (o p : Nat) : Prop := x.o.testBit o = true ∧ hold x.c p
theorem kB {l : List Rw} {n o : Nat} (hn : n ≤ 8) (p : Nat) : ∀ k, k ≤ l.length → ((mi l n o k).testBit p = true ↔ p < 2 ^ n ∧ ∃ j, j < k ∧ Nr (l.getD j ⟨⟨0, 0⟩, 0⟩) o p)
 | 0, _ => by simp [mi]
 | k + 1, hk => by
  have ih := kB (l := l) (o := o) hn p k (by omega)
  rw [mi]
  split
  ·rename_i h
   rw [Nat.testBit_or, Bool.or_eq_true, ih, jq hn, Bool.and_eq_true, decide_eq_true_eq, decide_eq_true_eq]
   constructor
   ·rintro (⟨h1, j, hj, r⟩ | ⟨h1, h2⟩)
    ·exact ⟨h1, j, by omega, r⟩
    ·exact ⟨h1, k, by omega, h, h2⟩
   ·rintro ⟨h1, j, hj, r⟩
    rcases Nat.lt_succ_iff_lt_or_eq.1 hj with hj | rfl
    ·exact .inl ⟨h1, j, hj, r⟩
    ·exact .inr ⟨h1, r.2⟩
  ·rename_i h
   rw [ih]
   constructor
   ·rintro ⟨h1, j, hj, r⟩; exact ⟨h1, j, by omega, r⟩
   ·rintro ⟨h1, j, hj, r⟩
    rcases Nat.lt_succ_iff_lt_or_eq.1 hj with hj | rfl
    ·exact ⟨h1, j, hj, r⟩
    ·exact absurd r.1 h
def Ej (S : Sp) (x : Rw) : Bool := dY x.c.m x.c.v S.n && (decide (0 < x.o) && decide (x.o < 2 ^ S.on.length))
def oz (S : Sp) (l : List Rw) : Bool := l.all (Ej S)
def xg (S : Sp) (l : List Rw) (o : Nat) : Bool := ep (zP S o) (mi l S.n.toNat o l.length) && ep (mi l S.n.toNat o l.length) (jf S o)
def jt (S : Sp) (l : List Rw) : Bool := dP S && (oz S l && (List.range S.on.length).all (xg S l))
theorem gV {S : Sp} {l : List Rw} : jt S l = true ↔ dP S = true ∧ oz S l = true ∧ ∀ o, o < S.on.length → xg S l o = true := by
 unfold jt
 rw [Bool.and_eq_true, Bool.and_eq_true, List.all_eq_true]
 simp only [List.mem_range]
theorem kl {S : Sp} {l : List Rw} : oz S l = true ↔ ∀ k, k < l.length → Ej S (l.getD k ⟨⟨0, 0⟩, 0⟩) = true := by
 unfold oz
 rw [List.all_eq_true]
 constructor
 ·intro h k hk; exact h _ (dS hk)
 ·intro h x hx
  obtain ⟨k, hk, rfl⟩ := fo (d := ⟨⟨0, 0⟩, 0⟩) hx
  exact h k hk
theorem jb {S : Sp} {x : Rw} : Ej S x = true ↔ dY x.c.m x.c.v S.n = true ∧ 0 < x.o ∧ x.o < 2 ^ S.on.length := by
 unfold Ej
 rw [Bool.and_eq_true, Bool.and_eq_true, decide_eq_true_eq, decide_eq_true_eq]
end
section
open Go Go.RowKit
theorem ij {b : Bool} (h : (!b) = false) : b = true := by cases b <;> simp_all
theorem je {b : Bool} (h : (!b) = true) : b = false := by cases b <;> simp_all
theorem zX {b : Bool} (h : b = true) : Value.bool true = .bool b := by rw [h]
theorem oA {b : Bool} (h : ¬ b = true) : Value.bool false = .bool b := by rw [Bool.eq_false_iff.2 h]
theorem wE {n er : Int} {sa : Nat} (h : (0 ≤ n ∧ n ≤ 8 ∧ sa = fi n.toNat ∧ er = 0) ∨ (¬ (0 ≤ n ∧ n ≤ 8) ∧ er = 1)) (h0 : ¬ ¬ er = 0) : 0 ≤ n ∧ n ≤ 8 ∧ sa = fi n.toNat := by
 rcases h with ⟨h1, h2, h3, _⟩ | ⟨_, h2⟩
 ·exact ⟨h1, h2, h3⟩
 ·omega
theorem Ob {n er : Int} {sa : Nat} (h : (0 ≤ n ∧ n ≤ 8 ∧ sa = fi n.toNat ∧ er = 0) ∨ (¬ (0 ≤ n ∧ n ≤ 8) ∧ er = 1)) (h0 : ¬ er = 0) : ¬ (0 ≤ n ∧ n ≤ 8) := by
 rcases h with ⟨_, _, _, h2⟩ | ⟨h1, _⟩
 ·exact absurd h2 h0
 ·exact h1
theorem Jp {o i : Nat} : decide (((o / 2 ^ i % 2 : Nat) : Int) = 1) = o.testBit i := by
 rw [gY, vH]
def mB (o : Nat) : Nat → Bool
 | 0 => false
 | k + 1 => mB o k || o.testBit k
theorem Hl {o k : Nat} (h : o.testBit k = true) : true = mB o (k + 1) := by rw [mB, h, Bool.or_true]
theorem Jv {o k : Nat} (h : o.testBit k = false) : mB o k = mB o (k + 1) := by rw [mB, h, Bool.or_false]
theorem wI {o : Nat} : ∀ k, mB o k = true ↔ ∃ j, j < k ∧ o.testBit j = true
 | 0 => by simp [mB]
 | k + 1 => by
  rw [mB, Bool.or_eq_true, wI k]
  constructor
  ·rintro (⟨j, hj, h⟩ | h)
   ·exact ⟨j, by omega, h⟩
   ·exact ⟨k, by omega, h⟩
  ·rintro ⟨j, hj, h⟩
   rcases Nat.lt_succ_iff_lt_or_eq.1 hj with hj | rfl
   ·exact .inl ⟨j, hj, h⟩
   ·exact .inr h
def Pf (o outs : Nat) : Bool := decide (0 < o) && decide (o < 2 ^ outs)
theorem yF {o outs : Nat} : Pf o outs = true ↔ 0 < o ∧ o < 2 ^ outs := by unfold Pf; rw [Bool.and_eq_true, decide_eq_true_eq, decide_eq_true_eq]
theorem OW {o outs k : Nat} (h : o.testBit k = true) (hk : outs ≤ k) : Pf o outs = false := Bool.eq_false_iff.2 fun hh => by
 rw [fX.1 (yF.1 hh).2 k hk] at h; cases h
theorem EN {o outs : Nat} (h8 : o < 256) (h : ∀ j, j < 8 → o.testBit j = true → j < outs) : Pf o outs = mB o 8 := by
 have hz : ∀ j, 8 ≤ j → o.testBit j = false := (fX (n := 8)).1 h8
 rw [Bool.eq_iff_iff, yF, wI]
 constructor
 ·rintro ⟨h1, _⟩
  obtain ⟨j, hj⟩ := og h1
  by_cases h8 : j < 8
  ·exact ⟨j, h8, hj⟩
  ·rw [hz j (by omega)] at hj; cases hj
 ·rintro ⟨j, hj, hb⟩
  refine ⟨uc hb, fX.2 fun i hi => Bool.eq_false_iff.2 fun hb2 => ?_⟩
  by_cases h8 : i < 8
  ·have := h i h8 hb2; omega
  ·rw [hz i (by omega)] at hb2; cases hb2
theorem IW {S : Sp} {m u o : Nat} (h1 : dP S = true) (h2 : (0 : Int) < (o : Int)) : decide (((andNot o (kg S ⟨m, u⟩) : Nat) : Int) = 0) = pU S ⟨⟨m, u⟩, o⟩ := by
 unfold pU
 rw [h1, decide_eq_true (show 0 < o by omega), Bool.true_and, Bool.true_and, Bool.eq_iff_iff, decide_eq_true_eq, decide_eq_true_eq]
 exact Int.ofNat_inj
theorem JE {S : Sp} {m u o : Nat} (h2 : ¬ (0 : Int) < (o : Int)) : ¬ pU S ⟨⟨m, u⟩, o⟩ = true := fun hi => by
 have h3 : 0 < o := (gy.1 hi).2.1
 omega
theorem Jq {S : Sp} {x : Rw} (h2 : dP S = false) : ¬ pU S x = true := fun hi => by
 have := (gy.1 hi).1
 rw [h2] at this; cases this
theorem KE {a b k : Nat} (ha : a < 2 ^ k) : a + 2 ^ k = a ||| 2 ^ k := by
 have h := Nat.two_pow_add_eq_or_of_lt ha 1
 rw [Nat.mul_one] at h
 rw [Nat.add_comm, h, Nat.or_comm]
theorem L8 {a k : Nat} (h : a.testBit k = false) : a + 2 ^ k = a ||| 2 ^ k := by
 have e : a = 2 ^ (k + 1) * (a / 2 ^ (k + 1)) + a % 2 ^ (k + 1) := (Nat.div_add_mod a _).symm
 have hlow : a % 2 ^ (k + 1) < 2 ^ k := by
  refine fX.2 fun j hj => ?_
  rw [Nat.testBit_mod_two_pow]
  by_cases hjk : j = k
  ·subst hjk; rw [h, Bool.and_false]
  ·rw [decide_eq_false (by omega), Bool.false_and]
 have hlt : a % 2 ^ (k + 1) + 2 ^ k < 2 ^ (k + 1) := by have := Nat.pow_succ 2 k; omega
 have e2 : a + 2 ^ k = 2 ^ (k + 1) * (a / 2 ^ (k + 1)) + (a % 2 ^ (k + 1) + 2 ^ k) := by omega
 rw [e2, Nat.two_pow_add_eq_or_of_lt hlt, KE (b := 0) hlow, ← Nat.or_assoc, ← Nat.two_pow_add_eq_or_of_lt (Nat.mod_lt _ (Nat.two_pow_pos _)), ← e]
theorem PY {m u o m2 u2 o2 : Nat} (h : ¬ (o : Int) = (o2 : Int)) : decide ((o : Int) < (o2 : Int)) = zN ⟨⟨m, u⟩, o⟩ ⟨⟨m2, u2⟩, o2⟩ := by
 rw [Bool.eq_iff_iff, qo, decide_eq_true_eq]
 simp only
 omega
theorem P2 {m u o m2 u2 o2 : Nat} (h : ¬ ¬ (o : Int) = (o2 : Int)) (h2 : ¬ (m : Int) = (m2 : Int)) : decide ((m : Int) < (m2 : Int)) = zN ⟨⟨m, u⟩, o⟩ ⟨⟨m2, u2⟩, o2⟩ := by
 rw [Bool.eq_iff_iff, qo, decide_eq_true_eq]
 simp only
 omega
theorem Pz {m u o m2 u2 o2 : Nat} (h : ¬ ¬ (o : Int) = (o2 : Int)) (h2 : ¬ ¬ (m : Int) = (m2 : Int)) : decide ((u : Int) < (u2 : Int)) = zN ⟨⟨m, u⟩, o⟩ ⟨⟨m2, u2⟩, o2⟩ := by
 rw [Bool.eq_iff_iff, qo, decide_eq_true_eq]
 simp only
 omega
theorem CR {l : List Rw} {x : Rw} {i : Nat} (h0 : 0 < i) (h : zN x (l.getD ((i : Int) - 1).toNat ⟨⟨0, 0⟩, 0⟩) = true) : oG l x i = oG l x (i - 1) :=
 FX h0 (by rwa [show ((i : Int) - 1).toNat = i - 1 by omega] at h)
theorem xZ {l : List Rw} {x : Rw} {i : Nat} (h : i = 0 ∨ zN x (l.getD ((i : Int) - 1).toNat ⟨⟨0, 0⟩, 0⟩) = false) : oG l x i = i :=
 Be (by rwa [show ((i : Int) - 1).toNat = i - 1 by omega] at h)
theorem ve {sz : Nat} {v : Value} {h : Nat} {α : Type} {l : List α} (e : ((l.drop 0).take (h - 0)).length = h - 0) : iV (fV sz v 0 h h) = ((l.drop 0).take (h - 0)).length := e.symm
theorem Hn {s : Nat} {n : Int} (h8 : n ≤ 8) {i : Nat} (hi : i < (eE s n).length) : ((eE s n).getD i ⟨0, 0⟩).m < 256 ∧ ((eE s n).getD i ⟨0, 0⟩).v < 256 := by
 have := ln (j1 (IB hi))
 have h2 := fh h8
 omega
theorem uG {o i : Nat} (h : ((o / 2 ^ ((i : Nat) : Int).toNat &&& 1 : Nat) : Int) = 1) : o.testBit i = true := kZ.1 h
theorem uz {o i : Nat} (h : ¬ ((o / 2 ^ ((i : Nat) : Int).toNat &&& 1 : Nat) : Int) = 1) : ¬ o.testBit i = true := fun k => h (kZ.2 k)
theorem B9 {a b : Nat} (h : (a : Int) = (b : Int)) : a = b := Int.ofNat_inj.1 h
end
section
open Go Go.RowKit Go.ChangeShapes Go.WideShapes Go.ChangeAt Go.Joins Go.Deep
section
variable {H : Type} {encH : TypeId × Value → H} {P : Program} {w : World} {base : Nat} {held : Bool} {r : Reach} {b0 : Nat} {t e : TypeId}
theorem HU {u : TypeId} (ht : P.underlying t = some (.array 4 u)) (hu : P.underlying u = some (.int .u64)) (hc : P.cellsOf u = 1) {n : Nat} {cs : List Value} {y : DataW H × List MemPlace} (hl : cs.length = 4) (h : DataW.trod encH P w base (fun _ => true) held n t cs = some y) : ∃ s : Nat, cs = gt s ∧ s < 2 ^ 256 := by
 match cs, hl with
 | [c0, c1, c2, c3], _ =>
  obtain ⟨y0, y1, y2, y3, n, hx, h0, h1, h2, h3⟩ := trod_array4 ht hc h
  obtain ⟨n0, e0, _, w0⟩ := DataW.trod_int hu h0
  obtain ⟨n1, e1, _, w1⟩ := DataW.trod_int hu h1
  obtain ⟨n2, e2, _, w2⟩ := DataW.trod_int hu h2
  obtain ⟨n3, e3, _, w3⟩ := DataW.trod_int hu h3
  simp only [List.cons.injEq, and_true] at e0 e1 e2 e3
  subst e0 e1 e2 e3
  obtain ⟨k0, rfl, l0⟩ := zo w0
  obtain ⟨k1, rfl, l1⟩ := zo w1
  obtain ⟨k2, rfl, l2⟩ := zo w2
  obtain ⟨k3, rfl, l3⟩ := zo w3
  obtain ⟨s, hs, hv⟩ := yJ l0 l1 l2 l3
  refine ⟨s, ?_, hs⟩
  have := congrArg (fun v : Value => v.cells.toList) hv
  exact this
theorem Km {f0 f1 : Field} (hs : P.underlying t = some (.struct #[f0, f1])) (ho0 : f0.offset = 0) (ho1 : f1.offset = 1) (hc0 : P.cellsOf f0.type = 1) (hc1 : P.cellsOf f1.type = 1) (h0 : P.underlying f0.type = some (.int .u8)) (h1 : P.underlying f1.type = some (.int .u8))
  {n : Nat} {cs : List Value} {y : DataW H × List MemPlace} (hl : cs.length = 2) (h : DataW.trod encH P w base (fun _ => true) held n t cs = some y) : ∃ c : Cb, cs = gU c ∧ (c.m < 256 ∧ c.v < 256) := by
 match cs, hl with
 | [a, b], _ =>
  obtain ⟨y0, y1, n, hx, _, g0, g1⟩ := trod_struct2 hs h
  rw [ho0, hc0] at g0
  rw [ho1, hc1] at g1
  obtain ⟨n0, e0, _, w0⟩ := DataW.trod_int h0 g0
  obtain ⟨n1, e1, _, w1⟩ := DataW.trod_int h1 g1
  simp at e0 e1
  subst e0 e1
  obtain ⟨k0, rfl, l0⟩ := JG w0
  obtain ⟨k1, rfl, l1⟩ := JG w1
  exact ⟨⟨k0, k1⟩, rfl, l0, l1⟩
theorem N1 {f0 f1 g0 g1 : Field} (hs : P.underlying t = some (.struct #[f0, f1])) (ho0 : f0.offset = 0) (ho1 : f1.offset = 2) (hc0 : P.cellsOf f0.type = 2) (hc1 : P.cellsOf f1.type = 1) (h1 : P.underlying f1.type = some (.int .u8))
  (hs2 : P.underlying f0.type = some (.struct #[g0, g1])) (hp0 : g0.offset = 0) (hp1 : g1.offset = 1) (hd0 : P.cellsOf g0.type = 1) (hd1 : P.cellsOf g1.type = 1) (k0 : P.underlying g0.type = some (.int .u8)) (k1 : P.underlying g1.type = some (.int .u8))
  {n : Nat} {cs : List Value} {y : DataW H × List MemPlace} (hl : cs.length = 3) (h : DataW.trod encH P w base (fun _ => true) held n t cs = some y) : ∃ x : Rw, cs = gv x ∧ (x.c.m < 256 ∧ x.c.v < 256 ∧ x.o < 256) := by
 match cs, hl with
 | [a, b, c], _ =>
  obtain ⟨y0, y1, n, hx, _, q0, q1⟩ := trod_struct2 hs h
  rw [ho0, hc0] at q0
  rw [ho1, hc1] at q1
  obtain ⟨cb, e0, l0, l1⟩ := Km hs2 hp0 hp1 hd0 hd1 k0 k1 (by simp) q0
  obtain ⟨n1, e1, _, w1⟩ := DataW.trod_int h1 q1
  simp [gU] at e0 e1
  obtain ⟨rfl, rfl⟩ := e0
  subst e1
  obtain ⟨z, rfl, lz⟩ := JG w1
  exact ⟨⟨cb, z⟩, rfl, l0, l1, lz⟩
theorem open_spec {v : Value} {d : DataW H} {p : List MemPlace} {f0 f1 f2 : Field} {u eS : TypeId} (hs : P.underlying t = some (.struct #[f0, f1, f2])) (hone : oneCellFields P #[f0, f1, f2] = true) (hC : P.cellsOf t = 3) (h0 : P.underlying f0.type = some (.int .i64)) (h1 : P.underlying f1.type = some (.slice eS)) (h2 : P.underlying f2.type = some (.slice eS))
  (hc : P.cellsOf eS = 4) (hS : P.underlying eS = some (.array 4 u)) (hu : P.underlying u = some (.int .u64)) (hcu : P.cellsOf u = 1) (hv : Value.okWide P w r b0 t v) (h : DataW.Trod encH P w base (fun _ => true) held t v d p) :
  ∃ (S : Sp) (onV mayV : Value), v = .agg #[.int .i64 S.n, onV, mayV] ∧ dM gt 4 w onV S.on ∧ dM gt 4 w mayV S.may ∧ (-9223372036854775808 ≤ S.n ∧ S.n ≤ 9223372036854775807) ∧ (∀ s ∈ S.on, s < 2 ^ 256) ∧ ∀ s ∈ S.may, s < 2 ^ 256 := by
 obtain ⟨v0, v1, v2, y0, y1, y2, n, rfl, _, _, g0, g1, g2⟩ := open_agg3 hs hone hC hv h
 obtain ⟨z, e0, _, w0⟩ := DataW.trod_int h0 g0
 simp only [List.cons.injEq, and_true] at e0
 subst e0
 obtain ⟨l1, k1, q1⟩ := open_sl (α := Nat) h1 hc (by decide) dG (fun n cs y hl hh => HU hS hu hcu hl hh) g1
 obtain ⟨l2, k2, q2⟩ := open_sl (α := Nat) h2 hc (by decide) dG (fun n cs y hl hh => HU hS hu hcu hl hh) g2
 exact ⟨⟨z, l1, l2⟩, v1, v2, rfl, k1, k2, NZ w0, q1, q2⟩
instance : Inhabited Rw := ⟨⟨⟨0, 0⟩, 0⟩⟩
instance : Inhabited Cb := ⟨⟨0, 0⟩⟩
end
end
end Go.Proofs.YteimkklmmanncaaGreat
