/-
  Primes out of cubes of one literal less, again and again. No program in it.
-/
import Derived.Test.YtpamgfbecgjjeaaPrime
namespace Go.Proofs.Ytpamgfbecgjjeaa
set_option linter.unusedVariables false
set_option linter.unusedSimpArgs false
open Go Go.RowKit

/-! ### Steps of the walks -/
theorem pts_cases {m u : Nat} {n : Int} {v : Value} (h : v = if rightB m u n = true then .tuple #[setV (ptsS m u n.toNat), .int .i64 0] else .tuple #[setV 0, .int .i64 1]) :
    ∃ (sa : Nat) (er : Int), v = .tuple #[setV sa, .int .i64 er] ∧ ((rightB m u n = true ∧ sa = ptsS m u n.toNat ∧ er = 0) ∨ (rightB m u n = false ∧ er = 1)) := by
  by_cases hr : rightB m u n = true
  · rw [if_pos hr] at h
    exact ⟨_, _, h, .inl ⟨hr, rfl, rfl⟩⟩
  · rw [if_neg hr] at h
    exact ⟨_, _, h, .inr ⟨by simpa using hr, rfl⟩⟩
theorem wi_one {m u s sa : Nat} {n er : Int} (h : (rightB m u n = true ∧ sa = ptsS m u n.toNat ∧ er = 0) ∨ (rightB m u n = false ∧ er = 1)) (h0 : er = 0) : withinB sa s = wiB m u s n := by
  rcases h with ⟨h1, rfl, _⟩ | ⟨_, h2⟩
  · exact wiB_t' h1
  · omega
theorem wi_none {m u s sa : Nat} {n er : Int} (h : (rightB m u n = true ∧ sa = ptsS m u n.toNat ∧ er = 0) ∨ (rightB m u n = false ∧ er = 1)) (h0 : ¬ er = 0) : false = wiB m u s n := by
  rcases h with ⟨_, _, h2⟩ | ⟨h1, _⟩
  · exact absurd h2 h0
  · exact wiB_f h1
theorem lt_v1 {m u m2 u2 : Nat} (h : (m : Int) < (m2 : Int)) : true = ltC ⟨m, u⟩ ⟨m2, u2⟩ := (ltC_iff.2 (.inl (by simp only; omega))).symm
theorem lt_v2 {m u m2 u2 : Nat} (_h : ¬ (m : Int) < (m2 : Int)) (h2 : (m : Int) = (m2 : Int)) : decide ((u : Int) < (u2 : Int)) = ltC ⟨m, u⟩ ⟨m2, u2⟩ := by
  rw [Bool.eq_iff_iff, ltC_iff, decide_eq_true_eq]
  simp only
  omega
theorem lt_v3 {m u m2 u2 : Nat} (h : ¬ (m : Int) < (m2 : Int)) (h2 : ¬ (m : Int) = (m2 : Int)) : false = ltC ⟨m, u⟩ ⟨m2, u2⟩ := by
  symm
  refine Bool.eq_false_iff.2 fun h3 => ?_
  rw [ltC_iff] at h3
  simp only at h3
  omega
theorem pos_step {l : List Cb} {c : Cb} {i : Nat} (hi : 0 < i) (h : (!ltC (l.getD ((i : Int) - 1).toNat ⟨0, 0⟩) c) = true) : posC l c i = posC l c (i - 1) := by
  obtain ⟨j, rfl⟩ : ∃ j, i = j + 1 := ⟨i - 1, by omega⟩
  have e : ((j + 1 : Nat) : Int) - 1 = (j : Int) := by omega
  rw [e, Int.toNat_natCast] at h
  simp only [posC]
  rw [if_neg (by simpa using h)]
  rfl
theorem pos_end {l : List Cb} {c : Cb} {i : Nat} (h : i = 0 ∨ (!ltC (l.getD ((i : Int) - 1).toNat ⟨0, 0⟩) c) = false) : posC l c i = i := by
  rcases h with rfl | h
  · rfl
  · cases i with
    | zero => rfl
    | succ j =>
      have e : ((j + 1 : Nat) : Int) - 1 = (j : Int) := by omega
      rw [e, Int.toNat_natCast] at h
      simp only [posC]
      rw [if_pos (by simpa using h)]
theorem slOf_full {sz : Nat} {v : Value} {h : Nat} {α : Type} {l : List α} (e : ((l.drop 0).take (h - 0)).length = h - 0) : slC (slOf sz v 0 h h) = ((l.drop 0).take (h - 0)).length := e.symm

/-! ### Literals less and more -/
def woC (c : Cb) (i : Nat) : Cb := ⟨woM c.m (i : Int), c.v &&& woM c.m (i : Int)⟩
def flipC (c : Cb) (i : Nat) : Cb := ⟨c.m, c.v ^^^ 2 ^ i⟩
def imp (s : Nat) (n : Int) (c : Cb) : Prop := wiB c.m c.v s n = true
theorem imp_iff {s : Nat} {n : Int} {c : Cb} : imp s n c ↔ rightB c.m c.v n = true ∧ ∀ p, p < 2 ^ n.toNat → p &&& c.m = c.v → s.testBit p = true := by
  unfold imp wiB
  rw [Bool.and_eq_true]
  constructor
  · rintro ⟨h1, h2⟩
    obtain ⟨h0, h8, hm, hv⟩ := rightB_iff.1 h1
    refine ⟨h1, fun p hp hpm => ?_⟩
    have := two_pow_le h8
    exact withinB_iff.1 h2 p (by omega) (by rw [ptsS_testBit (by omega)]; simp [hp, hpm])
  · rintro ⟨h1, h2⟩
    obtain ⟨h0, h8, hm, hv⟩ := rightB_iff.1 h1
    refine ⟨h1, withinB_iff.2 fun p _ hp => ?_⟩
    rw [ptsS_testBit (by omega)] at hp
    simp at hp
    exact h2 p hp.1 hp.2

theorem bit_of_right {m v : Nat} (h : v &&& m = v) (j : Nat) : v.testBit j = (v.testBit j && m.testBit j) := by
  conv => lhs; rw [← h, Nat.testBit_and]
theorem wo_points {m v i p : Nat} (hi : i < 8) (hb : m.testBit i = true) (hv : v &&& m = v) : p &&& woM m (i : Int) = v &&& woM m (i : Int) ↔ (p &&& m = v ∨ p &&& m = v ^^^ 2 ^ i) := by
  have hw := fun j => woM_testBit (m := m) hi j
  have hvb := bit_of_right hv
  constructor
  · intro h
    have hj : ∀ j, j ≠ i → (p.testBit j && m.testBit j) = (v.testBit j && m.testBit j) := fun j hj => by
      have := congrArg (fun x => x.testBit j) h
      simp only [Nat.testBit_and, hw, decide_eq_true hj, Bool.and_true] at this
      exact this
    by_cases e : p.testBit i = v.testBit i
    · left
      refine Nat.eq_of_testBit_eq fun j => ?_
      rw [Nat.testBit_and, hvb j]
      by_cases hji : j = i
      · subst hji; rw [e]
      · exact hj j hji
    · right
      refine Nat.eq_of_testBit_eq fun j => ?_
      rw [Nat.testBit_and, Nat.testBit_xor, Nat.testBit_two_pow]
      by_cases hji : j = i
      · subst hji
        rw [hb]
        cases hp : p.testBit j <;> cases hq : v.testBit j <;> simp_all
      · have : ¬ i = j := fun h => hji h.symm
        rw [hj j hji, ← hvb j]
        simp [this]
  · rintro (h | h)
    · refine Nat.eq_of_testBit_eq fun j => ?_
      have := congrArg (fun x => x.testBit j) h
      simp only [Nat.testBit_and] at this
      rw [Nat.testBit_and, Nat.testBit_and, hw, ← Bool.and_assoc, this, ← Bool.and_assoc, ← hvb j]
    · refine Nat.eq_of_testBit_eq fun j => ?_
      have := congrArg (fun x => x.testBit j) h
      simp only [Nat.testBit_and, Nat.testBit_xor, Nat.testBit_two_pow] at this
      rw [Nat.testBit_and, Nat.testBit_and, hw, ← Bool.and_assoc, this, ← Bool.and_assoc, ← hvb j]
      by_cases hji : j = i
      · subst hji; simp
      · have : ¬ i = j := fun h => hji h.symm
        simp [this]

theorem right_wo {m v i : Nat} {n : Int} (h : rightB m v n = true) : rightB (woM m (i : Int)) (v &&& woM m (i : Int)) n = true := by
  obtain ⟨h0, h8, hm, hv⟩ := rightB_iff.1 h
  have := woM_le m (i : Int)
  exact rightB_iff.2 ⟨h0, h8, by omega, by rw [Nat.and_assoc, Nat.and_self]⟩
theorem right_flip {m v i : Nat} {n : Int} (h : rightB m v n = true) (hb : m.testBit i = true) : rightB m (v ^^^ 2 ^ i) n = true := by
  obtain ⟨h0, h8, hm, hv⟩ := rightB_iff.1 h
  refine rightB_iff.2 ⟨h0, h8, hm, Nat.eq_of_testBit_eq fun j => ?_⟩
  have hvb := bit_of_right hv j
  rw [Nat.testBit_and, Nat.testBit_xor, Nat.testBit_two_pow]
  by_cases hji : i = j
  · subst hji; simp [hb]
  · simp only [hji, decide_false, Bool.xor_false]
    exact hvb.symm

/-- Without a literal a cube is within, just if it and the other one are. -/
theorem wo_imp {s i : Nat} {n : Int} {c : Cb} (hr : rightB c.m c.v n = true) (hi : i < n.toNat) (hb : c.m.testBit i = true) : imp s n (woC c i) ↔ imp s n c ∧ imp s n (flipC c i) := by
  obtain ⟨h0, h8, hm, hv⟩ := rightB_iff.1 hr
  have hw := fun p => wo_points (p := p) (i := i) (by omega) hb hv
  rw [imp_iff, imp_iff, imp_iff]
  constructor
  · rintro ⟨h1, h2⟩
    exact ⟨⟨hr, fun p hp hpm => h2 p hp ((hw p).2 (.inl hpm))⟩, ⟨right_flip hr hb, fun p hp hpm => h2 p hp ((hw p).2 (.inr hpm))⟩⟩
  · rintro ⟨⟨_, h1⟩, ⟨_, h2⟩⟩
    refine ⟨right_wo hr, fun p hp hpm => ?_⟩
    rcases (hw p).1 hpm with h | h
    · exact h1 p hp h
    · exact h2 p hp h

/-! ### How many literals -/
def cntTo (m : Nat) : Nat → Nat
  | 0 => 0
  | k + 1 => cntTo m k + if m.testBit k = true then 1 else 0
theorem cntTo_le (m : Nat) : ∀ k, cntTo m k ≤ k
  | 0 => Nat.le_refl _
  | k + 1 => by
    have := cntTo_le m k
    simp only [cntTo]
    split <;> omega
theorem cntTo_wo {m i : Nat} (hi : i < 8) (hb : m.testBit i = true) : ∀ k, cntTo (woM m (i : Int)) k + (if i < k then 1 else 0) = cntTo m k
  | 0 => by simp [cntTo]
  | k + 1 => by
    have ih := cntTo_wo hi hb k
    simp only [cntTo, woM_testBit hi]
    by_cases e : k = i
    · subst e
      rw [if_neg (Nat.lt_irrefl _)] at ih
      simp [hb, ← ih]
    · rw [decide_eq_true e, Bool.and_true]
      by_cases h2 : i < k
      · rw [if_pos h2] at ih
        simp only [show i < k + 1 from by omega, if_true]
        omega
      · rw [if_neg h2] at ih
        simp only [show ¬ i < k + 1 from by omega, if_false]
        omega
theorem cntTo_all {m : Nat} : ∀ k, cntTo m k = k → ∀ i, i < k → m.testBit i = true
  | 0, _, i, hi => absurd hi (Nat.not_lt_zero _)
  | k + 1, h, i, hi => by
    have := cntTo_le m k
    simp only [cntTo] at h
    split at h
    · rename_i hk
      rcases Nat.lt_succ_iff_lt_or_eq.1 hi with h2 | rfl
      · exact cntTo_all k (by omega) i h2
      · exact hk
    · omega
theorem cntTo_full {m : Nat} : ∀ k, (∀ i, i < k → m.testBit i = true) → cntTo m k = k
  | 0, _ => rfl
  | k + 1, h => by
    have := cntTo_full k (fun i hi => h i (by omega))
    simp only [cntTo, this, h k (Nat.lt_succ_self _), if_true]
theorem cntTo_gap {m k : Nat} (h : cntTo m k < k) : ∃ i, i < k ∧ m.testBit i = false := by
  refine Decidable.byContradiction fun hn => ?_
  have := cntTo_full (m := m) k (fun i hi => by
    refine Decidable.byContradiction fun h2 => hn ⟨i, hi, by simpa using h2⟩)
  omega
def cntC (n : Int) (c : Cb) : Nat := cntTo c.m n.toNat
theorem cnt_wo {n : Int} {c : Cb} {i : Nat} (h8 : n ≤ 8) (hi : i < n.toNat) (hb : c.m.testBit i = true) : cntC n (woC c i) + 1 = cntC n c := by
  have h := cntTo_wo (m := c.m) (i := i) (by omega) hb n.toNat
  rwa [if_pos hi] at h

/-- A cube within of fewer literals comes from one of one more. -/
theorem come_from {s : Nat} {n : Int} {d : Cb} (h : imp s n d) (hc : cntC n d < n.toNat) : ∃ c i, i < n.toNat ∧ c.m.testBit i = true ∧ imp s n c ∧ imp s n (flipC c i) ∧ d = woC c i ∧ cntC n c = cntC n d + 1 := by
  obtain ⟨i, hi, hb⟩ := cntTo_gap hc
  have hr := (imp_iff.1 h).1
  obtain ⟨h0, h8, hm, hv⟩ := rightB_iff.1 hr
  have hvb := bit_of_right hv
  have hi8 : i < 8 := by omega
  have hb2 : (d.m ||| 2 ^ i).testBit i = true := by simp
  have e1 : woM (d.m ||| 2 ^ i) (i : Int) = d.m := Nat.eq_of_testBit_eq fun j => by
    rw [woM_testBit hi8, Nat.testBit_or, Nat.testBit_two_pow]
    by_cases e : j = i
    · subst e; simp [hb]
    · have : ¬ i = j := fun h => e h.symm
      simp [this, e]
  have hrc : rightB (d.m ||| 2 ^ i) d.v n = true := by
    refine rightB_iff.2 ⟨h0, h8, Nat.or_lt_two_pow hm (Nat.pow_lt_pow_right (by decide) hi), Nat.eq_of_testBit_eq fun j => ?_⟩
    rw [Nat.testBit_and, Nat.testBit_or, hvb j]
    cases d.v.testBit j <;> cases d.m.testBit j <;> simp
  have hd : d = woC ⟨d.m ||| 2 ^ i, d.v⟩ i := by
    unfold woC
    simp only [e1, hv]
  have hw := (wo_imp (s := s) (c := ⟨d.m ||| 2 ^ i, d.v⟩) hrc hi hb2).1 (hd ▸ h)
  refine ⟨⟨d.m ||| 2 ^ i, d.v⟩, i, hi, hb2, hw.1, hw.2, hd, ?_⟩
  have := cnt_wo (c := ⟨d.m ||| 2 ^ i, d.v⟩) h8 hi hb2
  rw [← hd] at this
  exact this.symm

/-! ### A round -/
/-- Two that differ in one literal are both there. -/
def pairs (now : List Cb) (c : Cb) (i : Nat) : Prop := c.m.testBit i = true ∧ flipC c i ∈ now
def NextOf (now : List Cb) (n : Int) (seen : List Cb) (d : Cb) : Prop := ∃ c, c ∈ seen ∧ ∃ i, i < n.toNat ∧ pairs now c i ∧ d = woC c i
def MergedOf (now : List Cb) (n : Int) (seen : List Cb) (d : Cb) : Prop := d ∈ seen ∧ ∃ i, i < n.toNat ∧ pairs now d i
/-- The cubes within that have so many literals (and one more in number). -/
def Level (s : Nat) (n : Int) (t : Nat) (now : List Cb) : Prop := ∀ c, c ∈ now ↔ imp s n c ∧ cntC n c + 1 = t

section
variable {s t : Nat} {n : Int} {now : List Cb}
theorem cnt_flip (c : Cb) (i : Nat) : cntC n (flipC c i) = cntC n c := rfl
theorem pairs_iff (h : Level s n t now) {c : Cb} (hc : c ∈ now) {i : Nat} (hi : i < n.toNat) : pairs now c i ↔ shrinks c.m c.v s n i = true := by
  obtain ⟨h1, h2⟩ := (h c).1 hc
  have hr := (imp_iff.1 h1).1
  unfold pairs shrinks
  rw [Bool.and_eq_true]
  constructor
  · rintro ⟨hb, hf⟩
    exact ⟨hb, (wo_imp hr hi hb).2 ⟨h1, ((h _).1 hf).1⟩⟩
  · rintro ⟨hb, hw⟩
    exact ⟨hb, (h _).2 ⟨((wo_imp hr hi hb).1 hw).2, h2⟩⟩
theorem merged_iff (h : Level s n t now) {c : Cb} (hc : c ∈ now) : MergedOf now n now c ↔ primeB c.m c.v s n = false := by
  have h1 := ((h c).1 hc).1
  rw [← Bool.not_eq_true, primeB_iff]
  constructor
  · rintro ⟨_, i, hi, hp⟩ ⟨_, h3⟩
    have := h3 i hi
    rw [(pairs_iff h hc hi).1 hp] at this
    cases this
  · intro h2
    refine ⟨hc, Classical.byContradiction fun hn => h2 ⟨h1, fun i hi => ?_⟩⟩
    refine Bool.eq_false_iff.2 fun hs => hn ⟨i, hi, (pairs_iff h hc hi).2 hs⟩
theorem next_level (h8 : n ≤ 8) (h : Level s n (t + 1) now) (ht : t ≤ n.toNat) {nl : List Cb} (hn : ∀ d, d ∈ nl ↔ NextOf now n now d) : Level s n t nl := by
  intro d
  rw [hn]
  constructor
  · rintro ⟨c, hc, i, hi, hp, rfl⟩
    obtain ⟨h1, h2⟩ := (h c).1 hc
    have hr := (imp_iff.1 h1).1
    refine ⟨(wo_imp hr hi hp.1).2 ⟨h1, ((h _).1 hp.2).1⟩, ?_⟩
    have := cnt_wo (c := c) h8 hi hp.1
    omega
  · rintro ⟨h1, h2⟩
    obtain ⟨c, i, hi, hb, hc, hf, hd, hcnt⟩ := come_from h1 (by omega)
    exact ⟨c, (h c).2 ⟨hc, by omega⟩, i, hi, ⟨hb, (h _).2 ⟨hf, by rw [cnt_flip]; omega⟩⟩, hd⟩
/-- The primes with so many literals, or more. -/
def OutOf (s : Nat) (n : Int) (t : Nat) (out : List Cb) : Prop := ∀ c, c ∈ out ↔ primeB c.m c.v s n = true ∧ t ≤ cntC n c
theorem out_step {out out2 ml : List Cb} (h : Level s n (t + 1) now) (ho : OutOf s n (t + 1) out) (hm : ∀ d, d ∈ ml ↔ MergedOf now n now d) (h2 : ∀ c, c ∈ out2 ↔ c ∈ out ∨ (c ∈ now ∧ c ∉ ml)) : OutOf s n t out2 := by
  intro c
  rw [h2, ho, hm]
  constructor
  · rintro (⟨h3, h4⟩ | ⟨h3, h4⟩)
    · exact ⟨h3, by omega⟩
    · rw [merged_iff h h3, Bool.not_eq_false] at h4
      exact ⟨h4, by have := ((h c).1 h3).2; omega⟩
  · rintro ⟨h3, h4⟩
    by_cases e : t + 1 ≤ cntC n c
    · exact .inl ⟨h3, e⟩
    · have hc : c ∈ now := (h c).2 ⟨(primeB_iff.1 h3).1, by omega⟩
      exact .inr ⟨hc, by rw [merged_iff h hc, Bool.not_eq_false]; exact h3⟩
theorem none_below (ht : t ≤ n.toNat + 1) (h : Level s n t []) : ∀ (k : Nat) (c : Cb), imp s n c → cntC n c + 1 + k = t → False
  | 0, c, hc, e => by have := (h c).2 ⟨hc, e⟩; simp at this
  | k + 1, c, hc, e => by
    obtain ⟨c', i, hi, hb, hc', hf, hd, hcnt⟩ := come_from hc (by omega)
    exact none_below ht h k c' hc' (by omega)
theorem out_all {out : List Cb} (ht : t ≤ n.toNat + 1) (h : Level s n t []) (ho : OutOf s n t out) (hr : Rising out) : out = primesL s n := by
  refine rising_ext hr (rising_primesL s n) fun c => ?_
  rw [ho, mem_primesL]
  constructor
  · exact fun h => h.1
  · intro hp
    refine ⟨hp, Decidable.byContradiction fun hlt => ?_⟩
    exact none_below ht h (t - (cntC n c + 1)) c (primeB_iff.1 hp).1 (by omega)
theorem out_none : OutOf s n (n.toNat + 1) [] := by
  intro c
  constructor
  · intro h; simp at h
  · rintro ⟨_, h⟩
    have := cntTo_le c.m n.toNat
    unfold cntC at h
    omega
/-- The first round: each point as a cube. -/
theorem first_level (hs : ofB s n = true) {ks : List Cb} (hk : ∀ c, c ∈ ks ↔ ∃ x ∈ listS s, c = ⟨2 ^ n.toNat - 1, x.toNat⟩) : Level s n (n.toNat + 1) ks := by
  unfold ofB at hs
  simp only [Bool.and_eq_true, decide_eq_true_eq] at hs
  obtain ⟨h0, h8, hw⟩ := hs
  have hp8 := two_pow_le h8
  have hpt : ∀ p, p < 256 → s.testBit p = true → p < 2 ^ n.toNat := fun p hp h => by
    have := withinB_iff.1 hw p hp h
    rw [allS_testBit] at this
    simpa using this
  intro c
  rw [hk]
  constructor
  · rintro ⟨x, hx, rfl⟩
    obtain ⟨p, hp, hb, rfl⟩ := mem_listS.1 hx
    have hlt := hpt p hp hb
    have e : ∀ q, q < 2 ^ n.toNat → q &&& (2 ^ n.toNat - 1) = q := fun q hq => by rw [Nat.and_two_pow_sub_one_eq_mod, Nat.mod_eq_of_lt hq]
    refine ⟨imp_iff.2 ⟨rightB_iff.2 ⟨h0, h8, by have := Nat.two_pow_pos n.toNat; simp only; omega, e p hlt⟩, fun q hq h => ?_⟩, ?_⟩
    · simp only [Int.toNat_natCast] at h
      rw [e q hq] at h
      rw [h]; exact hb
    · unfold cntC
      rw [cntTo_full n.toNat (fun i hi => by rw [Nat.testBit_two_pow_sub_one]; simpa using hi)]
  · rintro ⟨h1, h2⟩
    have h3 := imp_iff.1 h1
    obtain ⟨_, _, hm, hv⟩ := rightB_iff.1 h3.1
    have hm2 : c.m = 2 ^ n.toNat - 1 := Nat.eq_of_testBit_eq fun j => by
      rw [Nat.testBit_two_pow_sub_one]
      by_cases hj : j < n.toNat
      · rw [cntTo_all n.toNat (by unfold cntC at h2; omega) j hj]; simp [hj]
      · rw [Nat.testBit_lt_two_pow (Nat.lt_of_lt_of_le hm (Nat.pow_le_pow_right (by decide) (by omega)))]; simp [hj]
    have hlt := (right_lt h3.1).2
    refine ⟨(c.v : Int), mem_listS.2 ⟨c.v, by omega, h3.2 c.v hlt hv, rfl⟩, ?_⟩
    cases c
    simp only [Int.toNat_natCast, Cb.mk.injEq, and_true]
    exact hm2
end

theorem nodup_le {α : Type} [DecidableEq α] : ∀ {l l' : List α}, l.Nodup → (∀ a ∈ l, a ∈ l') → l.length ≤ l'.length
  | [], _, _, _ => by simp
  | a :: l, l', h, hs => by
    obtain ⟨h1, h2⟩ := List.nodup_cons.1 h
    have ha := hs a (by simp)
    have := nodup_le (l := l) (l' := l'.erase a) h2 (fun b hb => by
      have hne : b ≠ a := fun e => h1 (e ▸ hb)
      exact (List.mem_erase_of_ne hne).2 (hs b (by simp [hb])))
    rw [List.length_erase_of_mem ha] at this
    have := List.length_pos_of_mem ha
    simp only [List.length_cons]
    omega

/-! ### Steps of the walk of prime.All -/
theorem all_cases {n : Int} {v : Value} (h : v = if 0 ≤ n ∧ n ≤ 8 then .tuple #[setV (allS n.toNat), .int .i64 0] else .tuple #[setV 0, .int .i64 1]) :
    ∃ (sa : Nat) (er : Int), v = .tuple #[setV sa, .int .i64 er] ∧ ((0 ≤ n ∧ n ≤ 8 ∧ sa = allS n.toNat ∧ er = 0) ∨ (¬ (0 ≤ n ∧ n ≤ 8) ∧ er = 1)) := by
  by_cases hr : 0 ≤ n ∧ n ≤ 8
  · rw [if_pos hr] at h
    exact ⟨_, _, h, .inl ⟨hr.1, hr.2, rfl, rfl⟩⟩
  · rw [if_neg hr] at h
    exact ⟨_, _, h, .inr ⟨hr, rfl⟩⟩
theorem of_not1 {s sa : Nat} {n er : Int} (h : (0 ≤ n ∧ n ≤ 8 ∧ sa = allS n.toNat ∧ er = 0) ∨ (¬ (0 ≤ n ∧ n ≤ 8) ∧ er = 1)) (h0 : ¬ er = 0) : ¬ ofB s n = true := by
  rcases h with ⟨_, _, _, h2⟩ | ⟨h1, _⟩
  · exact absurd h2 h0
  · unfold ofB
    simp only [Bool.and_eq_true, decide_eq_true_eq]
    exact fun h2 => h1 ⟨h2.1, h2.2.1⟩
theorem of_not2 {s sa : Nat} {n er : Int} (h : (0 ≤ n ∧ n ≤ 8 ∧ sa = allS n.toNat ∧ er = 0) ∨ (¬ (0 ≤ n ∧ n ≤ 8) ∧ er = 1)) (h0 : ¬ ¬ er = 0) (hw : (!withinB s sa) = true) : ¬ ofB s n = true := by
  rcases h with ⟨_, _, rfl, _⟩ | ⟨_, h2⟩
  · unfold ofB
    simp only [Bool.and_eq_true, decide_eq_true_eq]
    intro h2
    rw [h2.2.2] at hw
    cases hw
  · omega
theorem of_yes {s sa : Nat} {n er : Int} (h : (0 ≤ n ∧ n ≤ 8 ∧ sa = allS n.toNat ∧ er = 0) ∨ (¬ (0 ≤ n ∧ n ≤ 8) ∧ er = 1)) (h0 : ¬ ¬ er = 0) (hw : (!withinB s sa) = false) : ofB s n = true := by
  rcases h with ⟨h1, h2, rfl, _⟩ | ⟨_, h2⟩
  · unfold ofB
    rw [decide_eq_true h1, decide_eq_true h2]
    simpa using hw
  · omega
theorem of_bounds {s : Nat} {n : Int} (h : ofB s n = true) : 0 ≤ n ∧ n ≤ 8 := by
  unfold ofB at h
  simp only [Bool.and_eq_true, decide_eq_true_eq] at h
  exact ⟨h.1, h.2.1⟩

theorem r_top8 {P : Program} {f : Nat → Value} {w : World} {d : Option Nat} {ty t t2 : TypeId} {ps : String} {af : Array Edge} {g : Option (Nat × Bool)} {x y : Operand} {n : Int}
    (hx : evF f x = .int .u8 (IntKind.u8.wrap (1 * 2 ^ (min n.toNat IntKind.u8.bits)))) (hy : evF f y = .int .u8 1) (h0 : 0 ≤ n) (h8 : n ≤ 8) :
    (execOp (evF f) ⟨d, .binOp .sub t x y t2, ty, ps, af, g⟩).run P w = .ok (.value (.int .u8 ((2 ^ n.toNat - 1 : Nat) : Int))) w := by
  rw [r_sub hx hy]
  have : ∀ k : Nat, k ≤ 8 → IntKind.u8.wrap (IntKind.u8.wrap (1 * 2 ^ (min k IntKind.u8.bits)) - 1) = ((2 ^ k - 1 : Nat) : Int) := fun k hk => by
    have : k = 0 ∨ k = 1 ∨ k = 2 ∨ k = 3 ∨ k = 4 ∨ k = 5 ∨ k = 6 ∨ k = 7 ∨ k = 8 := by omega
    rcases this with rfl | rfl | rfl | rfl | rfl | rfl | rfl | rfl | rfl <;> decide
  rw [this n.toNat (by omega)]

theorem keys_step {M k p : Nat} {l : List Int} {ks : List Cb} (h : ∀ c, c ∈ ks ↔ ∃ j, j < k ∧ c = ⟨M, (l.getD j 0).toNat⟩) (hp : l.getD k 0 = (p : Int)) : ∀ c, c ∈ insK ks ⟨M, p⟩ ↔ ∃ j, j < k + 1 ∧ c = ⟨M, (l.getD j 0).toNat⟩ := by
  intro c
  rw [mem_insK, h]
  constructor
  · rintro (⟨j, hj, rfl⟩ | rfl)
    · exact ⟨j, by omega, rfl⟩
    · exact ⟨k, by omega, by rw [hp, Int.toNat_natCast]⟩
  · rintro ⟨j, hj, rfl⟩
    rcases Nat.lt_succ_iff_lt_or_eq.1 hj with hj | rfl
    · exact .inl ⟨j, hj, rfl⟩
    · exact .inr (by rw [hp, Int.toNat_natCast])
theorem keys_all {M k : Nat} {l : List Int} {ks : List Cb} (h : ∀ c, c ∈ ks ↔ ∃ j, j < k ∧ c = ⟨M, (l.getD j 0).toNat⟩) (hk : k = l.length) : ∀ c, c ∈ ks ↔ ∃ x ∈ l, c = ⟨M, x.toNat⟩ := by
  intro c
  rw [h]
  constructor
  · rintro ⟨j, hj, rfl⟩
    exact ⟨_, getD_mem (by omega), rfl⟩
  · rintro ⟨x, hx, rfl⟩
    obtain ⟨j, hj, rfl⟩ := List.mem_iff_getElem.1 hx
    exact ⟨j, by omega, by simp [hj]⟩

section
variable {s t : Nat} {n : Int} {now seen nl ml out : List Cb}
theorem allT_len {α : Type} (l : List α) : (allT l).length = l.length := by simp [allT]
theorem mem_allT {α : Type} {l : List α} {k : α} {v : Bool} (h : (k, v) ∈ allT l) : k ∈ l ∧ v = true := by
  unfold allT at h
  obtain ⟨a, ha, e⟩ := List.mem_map.1 h
  cases e
  exact ⟨ha, rfl⟩
theorem level_pos (h : Level s n t now) (h0 : (0 : Int) < ((allT now).length : Int)) : ∃ t', t = t' + 1 := by
  rw [allT_len] at h0
  obtain ⟨c, hc⟩ := List.exists_mem_of_length_pos (l := now) (by omega)
  exact ⟨_, ((h c).1 hc).2.symm⟩
theorem level_none {l : List Cb} (h0 : ¬ (0 : Int) < ((allT l).length : Int)) : l = [] := by
  rw [allT_len] at h0
  exact List.eq_nil_of_length_eq_zero (by omega)
theorem level_lt (h : Level s n t now) (h8 : n ≤ 8) {c : Cb} (hc : c ∈ now) : c.m < 256 ∧ c.v < 256 := by
  have h1 := right_lt (imp_iff.1 ((h c).1 hc).1).1
  have := two_pow_le h8
  omega
theorem nextOf_nil : ∀ d, d ∈ ([] : List Cb) ↔ NextOf now n [] d := fun d => by simp [NextOf]
theorem mergedOf_nil : ∀ d, d ∈ ([] : List Cb) ↔ MergedOf now n [] d := fun d => by simp [MergedOf]
theorem next_zero {kk : Cb} (h : ∀ d, d ∈ nl ↔ NextOf now n seen d) : ∀ d, d ∈ nl ↔ NextOf now n seen d ∨ ∃ q, q < 0 ∧ pairs now kk q ∧ d = woC kk q := fun d => by rw [h]; simp
theorem merged_zero {kk : Cb} (h : ∀ d, d ∈ ml ↔ MergedOf now n seen d) : ∀ d, d ∈ ml ↔ MergedOf now n seen d ∨ (d = kk ∧ ∃ q, q < 0 ∧ pairs now kk q) := fun d => by rw [h]; simp
theorem next_put {kk : Cb} {i : Nat} (h : ∀ d, d ∈ nl ↔ NextOf now n seen d ∨ ∃ q, q < i ∧ pairs now kk q ∧ d = woC kk q) (hp : pairs now kk i) :
    ∀ d, d ∈ insK nl (woC kk i) ↔ NextOf now n seen d ∨ ∃ q, q < i + 1 ∧ pairs now kk q ∧ d = woC kk q := fun d => by
  rw [mem_insK, h]
  constructor
  · rintro ((h1 | ⟨q, h1, h2, h3⟩) | h1)
    · exact .inl h1
    · exact .inr ⟨q, by omega, h2, h3⟩
    · exact .inr ⟨i, by omega, hp, h1⟩
  · rintro (h1 | ⟨q, h1, h2, h3⟩)
    · exact .inl (.inl h1)
    · rcases Nat.lt_succ_iff_lt_or_eq.1 h1 with h1 | rfl
      · exact .inl (.inr ⟨q, h1, h2, h3⟩)
      · exact .inr h3
theorem next_pass {kk : Cb} {i : Nat} (h : ∀ d, d ∈ nl ↔ NextOf now n seen d ∨ ∃ q, q < i ∧ pairs now kk q ∧ d = woC kk q) (hp : ¬ pairs now kk i) :
    ∀ d, d ∈ nl ↔ NextOf now n seen d ∨ ∃ q, q < i + 1 ∧ pairs now kk q ∧ d = woC kk q := fun d => by
  rw [h]
  constructor
  · rintro (h1 | ⟨q, h1, h2, h3⟩)
    · exact .inl h1
    · exact .inr ⟨q, by omega, h2, h3⟩
  · rintro (h1 | ⟨q, h1, h2, h3⟩)
    · exact .inl h1
    · rcases Nat.lt_succ_iff_lt_or_eq.1 h1 with h1 | rfl
      · exact .inr ⟨q, h1, h2, h3⟩
      · exact absurd h2 hp
theorem merged_put {kk : Cb} {i : Nat} (h : ∀ d, d ∈ ml ↔ MergedOf now n seen d ∨ (d = kk ∧ ∃ q, q < i ∧ pairs now kk q)) (hp : pairs now kk i) :
    ∀ d, d ∈ insK ml kk ↔ MergedOf now n seen d ∨ (d = kk ∧ ∃ q, q < i + 1 ∧ pairs now kk q) := fun d => by
  rw [mem_insK, h]
  constructor
  · rintro ((h1 | ⟨h1, q, h2, h3⟩) | h1)
    · exact .inl h1
    · exact .inr ⟨h1, q, by omega, h3⟩
    · exact .inr ⟨h1, i, by omega, hp⟩
  · rintro (h1 | ⟨h1, q, h2, h3⟩)
    · exact .inl (.inl h1)
    · exact .inr h1
theorem merged_pass {kk : Cb} {i : Nat} (h : ∀ d, d ∈ ml ↔ MergedOf now n seen d ∨ (d = kk ∧ ∃ q, q < i ∧ pairs now kk q)) (hp : ¬ pairs now kk i) :
    ∀ d, d ∈ ml ↔ MergedOf now n seen d ∨ (d = kk ∧ ∃ q, q < i + 1 ∧ pairs now kk q) := fun d => by
  rw [h]
  constructor
  · rintro (h1 | ⟨h1, q, h2, h3⟩)
    · exact .inl h1
    · exact .inr ⟨h1, q, by omega, h3⟩
  · rintro (h1 | ⟨h1, q, h2, h3⟩)
    · exact .inl h1
    · rcases Nat.lt_succ_iff_lt_or_eq.1 h2 with h2 | rfl
      · exact .inr ⟨h1, q, h2, h3⟩
      · exact absurd h3 hp
theorem next_end {kk : Cb} {i : Nat} (h : ∀ d, d ∈ nl ↔ NextOf now n seen d ∨ ∃ q, q < i ∧ pairs now kk q ∧ d = woC kk q) (hi : i = n.toNat) : ∀ d, d ∈ nl ↔ NextOf now n (kk :: seen) d := fun d => by
  subst hi
  rw [h]
  unfold NextOf
  constructor
  · rintro (⟨c, hc, r⟩ | ⟨q, h1, h2, h3⟩)
    · exact ⟨c, List.mem_cons_of_mem _ hc, r⟩
    · exact ⟨kk, List.mem_cons_self, q, h1, h2, h3⟩
  · rintro ⟨c, hc, i, hi, r⟩
    rcases List.mem_cons.1 hc with rfl | hc
    · exact .inr ⟨i, hi, r⟩
    · exact .inl ⟨c, hc, i, hi, r⟩
theorem merged_end {kk : Cb} {i : Nat} (h : ∀ d, d ∈ ml ↔ MergedOf now n seen d ∨ (d = kk ∧ ∃ q, q < i ∧ pairs now kk q)) (hi : i = n.toNat) : ∀ d, d ∈ ml ↔ MergedOf now n (kk :: seen) d := fun d => by
  subst hi
  rw [h]
  unfold MergedOf
  constructor
  · rintro (⟨h1, r⟩ | ⟨rfl, r⟩)
    · exact ⟨List.mem_cons_of_mem _ h1, r⟩
    · exact ⟨List.mem_cons_self, r⟩
  · rintro ⟨h1, r⟩
    rcases List.mem_cons.1 h1 with rfl | h1
    · exact .inr ⟨rfl, r⟩
    · exact .inl ⟨h1, r⟩
theorem pairs_yes {m v i : Nat} (h1 : ((m / 2 ^ ((i : Nat) : Int).toNat &&& 1 : Nat) : Int) = 1) (h2 : (getL (allT now) ⟨m, v ^^^ 1 * 2 ^ ((i : Nat) : Int).toNat⟩).getD false = true) : pairs now ⟨m, v⟩ i := by
  rw [Int.toNat_natCast] at h1 h2
  rw [allT_get, decide_eq_true_eq, Nat.one_mul] at h2
  exact ⟨shr_bit.1 h1, h2⟩
theorem pairs_no1 {m v i : Nat} (h1 : ¬ ((m / 2 ^ ((i : Nat) : Int).toNat &&& 1 : Nat) : Int) = 1) : ¬ pairs now ⟨m, v⟩ i := by
  rw [Int.toNat_natCast] at h1
  exact fun h => h1 (shr_bit.2 h.1)
theorem pairs_no2 {m v i : Nat} (h2 : (getL (allT now) ⟨m, v ^^^ 1 * 2 ^ ((i : Nat) : Int).toNat⟩).getD false = false) : ¬ pairs now ⟨m, v⟩ i := by
  rw [Int.toNat_natCast] at h2
  rw [allT_get, decide_eq_false_iff_not, Nat.one_mul] at h2
  exact fun h => h2 h.2
theorem next_same (h : ∀ d, d ∈ nl ↔ NextOf now n seen d) (hs : ∀ c, c ∈ seen ↔ c ∈ now) : ∀ d, d ∈ nl ↔ NextOf now n now d := fun d => by
  rw [h]; unfold NextOf; simp only [hs]
theorem merged_same (h : ∀ d, d ∈ ml ↔ MergedOf now n seen d) (hs : ∀ c, c ∈ seen ↔ c ∈ now) : ∀ d, d ∈ ml ↔ MergedOf now n now d := fun d => by
  rw [h]; unfold MergedOf; simp only [hs]
theorem iter_sub {w : World} {it b : Nat} (h : IterT keyC Value.bool w it b (allT now) seen) : ∀ c ∈ seen, c ∈ now := fun c hc => by
  have := h.sub c hc
  rwa [allT_keys] at this
theorem seen_all {w : World} {it b : Nat} (h : IterT keyC Value.bool w it b (allT now) seen) (hd : ∀ p ∈ allT now, p.1 ∈ seen) : ∀ c, c ∈ seen ↔ c ∈ now := fun c =>
  ⟨iter_sub h c, fun hc => hd (c, true) (List.mem_map.2 ⟨c, hc, rfl⟩)⟩
theorem IterT.len_le {α β : Type} [DecidableEq α] {enc : α → Value} {encV : β → Value} {w : World} {it b : Nat} {l : List (α × β)} {seen : List α} (h : IterT enc encV w it b l seen) : seen.length ≤ l.length := by
  have := nodup_le h.nodup h.sub
  simpa using this
theorem o2_nil : ∀ c, c ∈ out ↔ c ∈ out ∨ (c ∈ ([] : List Cb) ∧ c ∉ ml) := fun c => by simp
theorem o2_take {out2 : List Cb} {kk : Cb} (h : ∀ c, c ∈ out2 ↔ c ∈ out ∨ (c ∈ seen ∧ c ∉ ml)) (hk : kk ∉ ml) : ∀ c, c ∈ insC out2 kk ↔ c ∈ out ∨ (c ∈ kk :: seen ∧ c ∉ ml) := fun c => by
  rw [mem_insC, h, List.mem_cons]
  constructor
  · rintro (rfl | h1 | ⟨h1, h2⟩)
    · exact .inr ⟨.inl rfl, hk⟩
    · exact .inl h1
    · exact .inr ⟨.inr h1, h2⟩
  · rintro (h1 | ⟨rfl | h1, h2⟩)
    · exact .inr (.inl h1)
    · exact .inl rfl
    · exact .inr (.inr ⟨h1, h2⟩)
theorem o2_pass {out2 : List Cb} {kk : Cb} (h : ∀ c, c ∈ out2 ↔ c ∈ out ∨ (c ∈ seen ∧ c ∉ ml)) (hk : kk ∈ ml) : ∀ c, c ∈ out2 ↔ c ∈ out ∨ (c ∈ kk :: seen ∧ c ∉ ml) := fun c => by
  rw [h, List.mem_cons]
  constructor
  · rintro (h1 | ⟨h1, h2⟩)
    · exact .inl h1
    · exact .inr ⟨.inr h1, h2⟩
  · rintro (h1 | ⟨rfl | h1, h2⟩)
    · exact .inl h1
    · exact absurd hk h2
    · exact .inr ⟨h1, h2⟩
theorem o2_done {out2 : List Cb} (h : ∀ c, c ∈ out2 ↔ c ∈ out ∨ (c ∈ seen ∧ c ∉ ml)) (hs : ∀ c, c ∈ seen ↔ c ∈ now) : ∀ c, c ∈ out2 ↔ c ∈ out ∨ (c ∈ now ∧ c ∉ ml) := fun c => by rw [h, hs]
theorem o2_new {out2 : List Cb} {kk : Cb} (hL : Level s n (t + 1) now) (hO : OutOf s n (t + 1) out) (h : ∀ c, c ∈ out2 ↔ c ∈ out ∨ (c ∈ seen ∧ c ∉ ml)) (hk : kk ∈ now) (hs : kk ∉ seen) : kk ∉ out2 := fun hm => by
  rcases (h kk).1 hm with h1 | h1
  · have h2 := ((hO kk).1 h1).2
    have h3 := ((hL kk).1 hk).2
    omega
  · exact hs h1.1
theorem o2_small {out2 : List Cb} (hL : Level s n (t + 1) now) (h8 : n ≤ 8) (hO : OutOf s n (t + 1) out) (h : ∀ c, c ∈ out2 ↔ c ∈ out ∨ (c ∈ seen ∧ c ∉ ml)) (hs : ∀ c ∈ seen, c ∈ now) (hR : Rising out2) : out2.length ≤ 65536 :=
  rising_small hR fun c hc => by
    rcases (h c).1 hc with h1 | h1
    · have h2 := right_lt (prime_right ((hO c).1 h1).1)
      have := two_pow_le h8
      omega
    · exact level_lt hL h8 (hs c h1.1)
theorem not_in {kk : Cb} (h : (!(getL (allT ml) ⟨kk.m, kk.v⟩).getD false) = true) : kk ∉ ml := by
  rw [allT_get] at h
  simpa using h
theorem is_in {kk : Cb} (h : (!(getL (allT ml) ⟨kk.m, kk.v⟩).getD false) = false) : kk ∈ ml := by
  rw [allT_get] at h
  simpa using h
end

/-! ### Steps of the statements' walks -/
theorem all_res {s : Nat} {n : Int} {v : Value} {w' : World} {N : Nat} {T : TypeId} (h : if ofB s n = true then ∃ x, v = .tuple #[x, .int .i64 0] ∧ OwT encC 2 T w' N x (primesL s n) else v = .tuple #[.slice none 0 0, .int .i64 1]) :
    ∃ (x : Value) (er : Int) (l : List Cb), v = .tuple #[x, .int .i64 er] ∧ OwT encC 2 T w' N x l ∧ ((ofB s n = true ∧ er = 0 ∧ l = primesL s n) ∨ (ofB s n = false ∧ er = 1 ∧ l = [])) := by
  by_cases ho : ofB s n = true
  · rw [if_pos ho] at h
    obtain ⟨x, h1, h2⟩ := h
    exact ⟨x, 0, _, h1, h2, .inl ⟨ho, rfl, rfl⟩⟩
  · rw [if_neg ho] at h
    exact ⟨_, 1, [], h, OwT.nil, .inr ⟨by simpa using ho, rfl, rfl⟩⟩
theorem primesL_len {s : Nat} {n : Int} (h : n ≤ 8) : (primesL s n).length ≤ 65536 := by
  have h1 := primesM_len s n (2 ^ n.toNat)
  have h2 := two_pow_le h
  have h3 : 2 ^ n.toNat * 2 ^ n.toNat ≤ 256 * 256 := Nat.mul_le_mul h2 h2
  unfold primesL
  omega
end Go.Proofs.Ytpamgfbecgjjeaa
