/-
  Primes as members: what both halves have, and what one alone has, with a literal. No program in it.
-/
import Derived.Test.YtpamgfbecgjjeaaIsop
import Derived.Test.YtpamgfbecgjjeaaZ1
namespace Go.Proofs.Ytpamgfbecgjjeaa
set_option linter.unusedVariables false
set_option linter.unusedSimpArgs false
open Go Go.RowKit

/-! ### A cube's member -/
def memT (m v : Nat) : Nat → Nat
  | 0 => 0
  | k + 1 => memT m v k + (if m.testBit k = true then 2 ^ (2 * k + (if v.testBit k = true then 1 else 0)) else 0)
def memC (c : Cb) : Nat := memT c.m c.v 8
theorem pow_2k (k : Nat) : 2 ^ (2 * k) + 2 ^ (2 * k) + 2 ^ (2 * k) + 2 ^ (2 * k) = 2 ^ (2 * (k + 1)) := by
  rw [show 2 * (k + 1) = 2 * k + 1 + 1 by omega, Nat.pow_succ, Nat.pow_succ]
  omega
theorem pow_2k1 (k : Nat) : 2 ^ (2 * k + 1) = 2 ^ (2 * k) + 2 ^ (2 * k) := by rw [Nat.pow_succ]; omega
theorem memT_lt (m v : Nat) : ∀ k, memT m v k < 2 ^ (2 * k)
  | 0 => by simp [memT]
  | k + 1 => by
    have ih := memT_lt m v k
    have h1 := pow_2k k
    have h2 := pow_2k1 k
    rw [memT]
    split
    · split
      · rw [h2]; omega
      · rw [Nat.add_zero]; omega
    · omega
theorem addp_bit {x a e t : Nat} (hx : x < 2 ^ a) (ha : a ≤ e) : (x + 2 ^ e).testBit t = (x.testBit t || decide (t = e)) := by
  have hlt : x < 2 ^ e := Nat.lt_of_lt_of_le hx (Nat.pow_le_pow_right (by decide) ha)
  have h := Nat.two_pow_add_eq_or_of_lt hlt 1
  rw [Nat.mul_one] at h
  rw [Nat.add_comm, h, Nat.testBit_or, Nat.testBit_two_pow, Bool.or_comm]
  by_cases q : t = e
  · subst q; simp
  · have : ¬ e = t := fun k => q k.symm
    simp [q, this]
theorem memT_or (m v k : Nat) (h : m.testBit k = true) : memT m v k ||| 1 * 2 ^ (2 * k + (if v.testBit k = true then 1 else 0)) = memT m v (k + 1) := by
  rw [memT, if_pos h]
  generalize hb : (if v.testBit k = true then 1 else 0 : Nat) = b
  have hlt : memT m v k < 2 ^ (2 * k + b) := Nat.lt_of_lt_of_le (memT_lt m v k) (Nat.pow_le_pow_right (by decide) (by omega))
  have h := Nat.two_pow_add_eq_or_of_lt hlt 1
  rw [Nat.mul_one] at h
  rw [Nat.one_mul, Nat.or_comm, ← h, Nat.add_comm]
theorem memT_skip (m v k : Nat) (h : m.testBit k = false) : memT m v k = memT m v (k + 1) := by rw [memT, if_neg (by rw [h]; decide), Nat.add_zero]
/-- The items of a member. -/
theorem memT_bit (m v : Nat) : ∀ (k j b : Nat), b < 2 → ((memT m v k).testBit (2 * j + b) = true ↔ j < k ∧ m.testBit j = true ∧ v.testBit j = decide (b = 1))
  | 0, j, b, _ => by simp [memT]
  | k + 1, j, b, hb => by
    have ih := memT_bit m v k j b hb
    rw [memT]
    by_cases hm : m.testBit k = true
    · rw [if_pos hm]
      generalize hv : (if v.testBit k = true then 1 else 0 : Nat) = d
      have hd : d < 2 ∧ v.testBit k = decide (d = 1) := by
        subst hv
        split
        · rename_i h; exact ⟨by omega, by rw [h]; rfl⟩
        · rename_i h; exact ⟨by omega, by simpa using h⟩
      rw [addp_bit (memT_lt m v k) (by omega), Bool.or_eq_true, ih, decide_eq_true_iff]
      constructor
      · rintro (⟨h1, h2, h3⟩ | h)
        · exact ⟨by omega, h2, h3⟩
        · obtain rfl : j = k := by omega
          obtain rfl : b = d := by omega
          exact ⟨by omega, hm, hd.2⟩
      · rintro ⟨h1, h2, h3⟩
        by_cases e : j = k
        · subst e
          rw [hd.2] at h3
          have : (d = 1) ↔ (b = 1) := decide_eq_decide.1 h3
          exact .inr (by omega)
        · exact .inl ⟨by omega, h2, h3⟩
    · rw [if_neg hm, Nat.add_zero, ih]
      constructor
      · rintro ⟨h1, h2⟩; exact ⟨by omega, h2⟩
      · rintro ⟨h1, h2, h3⟩
        refine ⟨?_, h2, h3⟩
        by_cases e : j = k
        · subst e; exact absurd h2 hm
        · omega
theorem memC_to {c d : Cb} (h : memC c = memC d) {j : Nat} (hj : j < 8) (hc : c.m.testBit j = true) : d.m.testBit j = true ∧ d.v.testBit j = c.v.testBit j := by
  unfold memC at h
  cases hv : c.v.testBit j with
  | false =>
    have h1 := (memT_bit c.m c.v 8 j 0 (by decide)).2 ⟨hj, hc, hv⟩
    rw [h] at h1
    exact ((memT_bit d.m d.v 8 j 0 (by decide)).1 h1).2
  | true =>
    have h1 := (memT_bit c.m c.v 8 j 1 (by decide)).2 ⟨hj, hc, hv⟩
    rw [h] at h1
    exact ((memT_bit d.m d.v 8 j 1 (by decide)).1 h1).2
theorem memC_inj {c d : Cb} (hc : c.m < 256) (hd : d.m < 256) (vc : c.v &&& c.m = c.v) (vd : d.v &&& d.m = d.v) (h : memC c = memC d) : c = d := by
  have hi : ∀ (a : Nat), a < 256 → ∀ j, 8 ≤ j → a.testBit j = false := fun a ha j hj => (lt_two (n := 8)).1 ha j hj
  have em : c.m = d.m := Nat.eq_of_testBit_eq fun j => by
    rcases Nat.lt_or_ge j 8 with hj | hj
    · cases e1 : c.m.testBit j with
      | true => exact (memC_to h hj e1).1.symm
      | false =>
        cases e2 : d.m.testBit j with
        | false => rfl
        | true => rw [(memC_to h.symm hj e2).1] at e1; cases e1
    · rw [hi _ hc j hj, hi _ hd j hj]
  have ev : c.v = d.v := Nat.eq_of_testBit_eq fun j => by
    rcases Nat.lt_or_ge j 8 with hj | hj
    · cases e1 : c.m.testBit j with
      | true => exact (memC_to h hj e1).2.symm
      | false => rw [bit_of_right vc, bit_of_right vd, ← em, e1, Bool.and_false, Bool.and_false]
    · rw [bit_of_right vc, bit_of_right vd, hi _ hc j hj, hi _ hd j hj, Bool.and_false, Bool.and_false]
  cases c; cases d
  simp only [Cb.mk.injEq]
  exact ⟨em, ev⟩
theorem memT_dvd (m v i : Nat) (h : ∀ j, j < i → m.testBit j = false) : ∀ k, 2 ^ (2 * i) ∣ memT m v k
  | 0 => Nat.dvd_zero _
  | k + 1 => by
    rw [memT]
    refine Nat.dvd_add (memT_dvd m v i h k) ?_
    split
    · rename_i hk
      refine Nat.pow_dvd_pow 2 ?_
      have : ¬ k < i := fun q => by rw [h k q] at hk; cases hk
      omega
    · exact Nat.dvd_zero _
theorem memT_litC {c : Cb} {i one : Nat} (h1 : one = 0 ∨ one = 1) (hm : c.m.testBit i = false) (hv : c.v.testBit i = false) : ∀ k, memT (litC i one c).m (litC i one c).v k = memT c.m c.v k + (if i < k then 2 ^ (2 * i + one) else 0)
  | 0 => by simp [memT]
  | k + 1 => by
    have ih := memT_litC h1 hm hv k
    have lm := litC_m c i one k
    have lv : (litC i one c).v.testBit k = (c.v.testBit k || (decide (k = i) && decide (one = 1))) := by
      rcases h1 with rfl | rfl
      · rw [litC_v0]; simp
      · rw [litC_v1]; simp
    rw [memT, memT, ih, lm, lv]
    by_cases e : k = i
    · subst e
      rcases h1 with rfl | rfl <;> simp [hm, hv]
    · rw [decide_eq_false e, Bool.or_false, Bool.false_and, Bool.or_false]
      by_cases q : i < k
      · have q2 : i < k + 1 := by omega
        rw [if_pos q, if_pos q2]
        omega
      · have q2 : ¬ i < k + 1 := by omega
        rw [if_neg q, if_neg q2]
        omega

/-! ### Points and cubes -/
structure Rt (n : Nat) (c : Cb) : Prop where
  m : c.m < 2 ^ n
  v : c.v &&& c.m = c.v
def wIn (n s : Nat) (c : Cb) : Prop := ∀ p, p < 2 ^ n → hold c p → s.testBit p = true
theorem rt_iff {n : Nat} (h8 : n ≤ 8) {c : Cb} : rightB c.m c.v (n : Int) = true ↔ Rt n c := by
  rw [rightB_iff, Int.toNat_natCast]
  exact ⟨fun h => ⟨h.2.2.1, h.2.2.2⟩, fun h => ⟨by omega, by omega, h.m, h.v⟩⟩
theorem wo_rt {n i : Nat} {c : Cb} (hi : i < 8) (h : Rt n c) : Rt n (woC c i) := by
  refine ⟨lt_two.2 fun j hj => ?_, ?_⟩
  · show (woM c.m (i : Int)).testBit j = false
    rw [woM_testBit hi, lt_two.1 h.m j hj, Bool.false_and]
  · show (c.v &&& woM c.m (i : Int)) &&& woM c.m (i : Int) = _
    rw [Nat.and_assoc, Nat.and_self]
    rfl
theorem prime_iff {n s : Nat} (h8 : n ≤ 8) {c : Cb} : primeB c.m c.v s (n : Int) = true ↔ Rt n c ∧ wIn n s c ∧ ∀ i, i < n → c.m.testBit i = true → ¬ wIn n s (woC c i) := by
  have hw : ∀ d : Cb, wiB d.m d.v s (n : Int) = true ↔ Rt n d ∧ wIn n s d := fun d => by
    have := imp_iff (s := s) (n := (n : Int)) (c := d)
    rw [rt_iff h8, Int.toNat_natCast] at this
    exact this
  rw [primeB_iff, hw, Int.toNat_natCast]
  constructor
  · rintro ⟨⟨h1, h2⟩, h3⟩
    refine ⟨h1, h2, fun i hi hb hq => ?_⟩
    have h4 := h3 i hi
    unfold shrinks at h4
    rw [hb, Bool.true_and] at h4
    have h5 := (hw (woC c i)).2 ⟨wo_rt (by omega) h1, hq⟩
    have h6 : wiB (woM c.m (i : Int)) (c.v &&& woM c.m (i : Int)) s (n : Int) = true := h5
    rw [h4] at h6
    cases h6
  · rintro ⟨h1, h2, h3⟩
    refine ⟨⟨h1, h2⟩, fun i hi => Bool.eq_false_iff.2 fun h4 => ?_⟩
    unfold shrinks at h4
    obtain ⟨h5, h6⟩ := Bool.and_eq_true_iff.1 h4
    exact h3 i hi h5 ((hw (woC c i)).1 h6).2
def PrS (n s x : Nat) : Prop := ∃ c : Cb, primeB c.m c.v s (n : Int) = true ∧ x = memC c
/-- Points that know of no input before i. -/
structure Fre (n s i : Nat) : Prop where
  le : i ≤ n
  out : ∀ p, p < 256 → s.testBit p = true → p < 2 ^ n
  free : ∀ p j, p < 256 → j < i → s.testBit (p ^^^ 2 ^ j) = s.testBit p
theorem fre_zero {n s : Nat} (h : ∀ p, p < 256 → s.testBit p = true → p < 2 ^ n) : Fre n s 0 := ⟨Nat.zero_le _, h, fun _ j _ hj => absurd hj (Nat.not_lt_zero j)⟩
section
variable {n s t i : Nat}
theorem Fre.good (h : Fre n s i) : Good n 0 s i := ⟨h.le, fun p _ hq => (by rw [Nat.zero_testBit] at hq; cases hq), h.out, fun p j _ _ => (by rw [Nat.zero_testBit, Nat.zero_testBit]), h.free⟩
theorem Fre.side (h8 : n ≤ 8) (h : Fre n s i) (hi : i < n) (x : Bool) : Fre n (sideS s i x) (i + 1) := by
  have g := h.good.side h8 hi x
  exact ⟨g.le, g.out, g.freeM⟩
theorem Fre.and (h : Fre n s i) (k : Fre n t i) : Fre n (s &&& t) i := by
  refine ⟨h.le, fun p hp hq => ?_, fun p j hp hj => ?_⟩
  · rw [Nat.testBit_and, Bool.and_eq_true] at hq
    exact h.out p hp hq.1
  · rw [Nat.testBit_and, Nat.testBit_and, h.free p j hp hj, k.free p j hp hj]
theorem Fre.lt (h8 : n ≤ 8) (h : Fre n s i) (h0 : ¬ eqS s 0 = true) (h1 : ¬ eqS s (allS n) = true) : i < n := by
  rcases Nat.lt_or_ge i n with k | k
  · exact k
  · obtain rfl : i = n := by have := h.le; omega
    have g : Good i s s i := ⟨h.le, fun _ _ q => q, h.out, h.free, h.free⟩
    rcases g.end h8 with q | q
    · exact absurd q h0
    · exact absurd q h1
theorem wo_noop {c : Cb} {j : Nat} (hj : j < 8) (hv : c.v &&& c.m = c.v) (hb : c.m.testBit j = false) : woC c j = c := by
  have e : woM c.m (j : Int) = c.m := Nat.eq_of_testBit_eq fun q => by
    rw [woM_testBit hj]
    by_cases k : q = j
    · subst k; rw [hb]; rfl
    · simp [k]
  show Cb.mk (woM c.m (j : Int)) (c.v &&& woM c.m (j : Int)) = c
  rw [e, hv]
theorem wIn_wo_free (h8 : n ≤ 8) {c : Cb} (hc : Rt n c) {j : Nat} (hj : j < n) (hf : ∀ p, p < 2 ^ n → s.testBit (p ^^^ 2 ^ j) = s.testBit p) (h : wIn n s c) : wIn n s (woC c j) := by
  intro p hp hh
  by_cases hb : c.m.testBit j = true
  · have hh' : p &&& woM c.m (j : Int) = c.v &&& woM c.m (j : Int) := hh
    rcases (wo_points (by omega) hb hc.v).1 hh' with k | k
    · exact h p hp k
    · rw [← hf p hp]
      refine h _ (xor_lt hj hp) ?_
      unfold hold
      refine Nat.eq_of_testBit_eq fun q => ?_
      have e := congrArg (fun x => x.testBit q) k
      simp only [Nat.testBit_and, xor_bit] at e ⊢
      by_cases e2 : q = j
      · subst e2
        rw [if_pos rfl]
        rw [if_pos rfl, hb, Bool.and_true] at e
        rw [hb, Bool.and_true, e, Bool.not_not]
      · rw [if_neg e2] at e ⊢
        exact e
  · refine h p hp ?_
    have e : woC c j = c := wo_noop (by omega) hc.v (by simpa using hb)
    rw [e] at hh
    exact hh
theorem prime_free (h8 : n ≤ 8) (h : Fre n s i) {c : Cb} (hp : primeB c.m c.v s (n : Int) = true) {j : Nat} (hj : j < i) : c.m.testBit j = false := by
  obtain ⟨h1, h2, h3⟩ := (prime_iff h8).1 hp
  have hle := h.le
  have h256 := pow_le256 h8
  refine Bool.eq_false_iff.2 fun hb => h3 j (by omega) hb ?_
  exact wIn_wo_free h8 h1 (by omega) (fun p hp => h.free p j (by omega) hj) h2
theorem prs_dvd (h8 : n ≤ 8) (h : Fre n s i) {x : Nat} (hx : PrS n s x) : 2 ^ (2 * i) ∣ x := by
  obtain ⟨c, hc, rfl⟩ := hx
  exact memT_dvd _ _ _ (fun j hj => prime_free h8 h hc hj) 8
theorem prs_lt (h8 : n ≤ 8) {x : Nat} (hx : PrS n s x) : x < 2 ^ (2 * n) := by
  obtain ⟨c, hc, rfl⟩ := hx
  obtain ⟨h1, _, _⟩ := (prime_iff h8).1 hc
  have key : ∀ d, memT c.m c.v (n + d) = memT c.m c.v n := fun d => by
    induction d with
    | zero => rfl
    | succ d ih => rw [← Nat.add_assoc, memT, lt_two.1 h1.m (n + d) (by omega), ih]; simp
  unfold memC
  rw [show 8 = n + (8 - n) by omega, key]
  exact memT_lt _ _ _
theorem prs_0 (h8 : n ≤ 8) (h : eqS s 0 = true) (x : Nat) : ¬ PrS n s x := by
  rintro ⟨c, hc, rfl⟩
  obtain ⟨h1, h2, _⟩ := (prime_iff h8).1 hc
  have h256 := pow_le256 h8
  have hv : c.v < 2 ^ n := lt_two.2 fun j hj => by rw [bit_of_right h1.v, lt_two.1 h1.m j hj, Bool.and_false]
  have h3 := h2 c.v hv h1.v
  rw [eqS_iff.1 h c.v (by omega), Nat.zero_testBit] at h3
  cases h3
theorem prs_all (h8 : n ≤ 8) (h : eqS s (allS n) = true) (x : Nat) : PrS n s x ↔ x = 0 := by
  have h256 := pow_le256 h8
  have all : ∀ c, wIn n s c := fun c p hp _ => by rw [eqS_iff.1 h p (by omega), allS_testBit]; exact decide_eq_true hp
  constructor
  · rintro ⟨c, hc, rfl⟩
    obtain ⟨h1, h2, h3⟩ := (prime_iff h8).1 hc
    have hm : ∀ j, c.m.testBit j = false := fun j => by
      rcases Nat.lt_or_ge j n with k | k
      · exact Bool.eq_false_iff.2 fun hb => h3 j k hb (all _)
      · exact lt_two.1 h1.m j k
    have key : ∀ k, memT c.m c.v k = 0 := fun k => by
      induction k with
      | zero => rfl
      | succ k ih => rw [memT, ih, hm]; rfl
    exact key 8
  · rintro rfl
    refine ⟨⟨0, 0⟩, (prime_iff h8).2 ⟨⟨Nat.two_pow_pos n, rfl⟩, all _, fun i _ hb => ?_⟩, rfl⟩
    rw [Nat.zero_testBit] at hb; cases hb
/-- A cube without input i, and with it. -/
theorem wIn_lit (h8 : n ≤ 8) (hi : i < n) {c : Cb} (hc : Rt n c) (hm : c.m.testBit i = false) (b : Bool) : wIn n (sideS s i b) c ↔ wIn n s (litC i (if b = true then 1 else 0) c) := by
  have h256 := pow_le256 h8
  have h1 : (if b = true then 1 else 0 : Nat) = 0 ∨ (if b = true then 1 else 0 : Nat) = 1 := by cases b; exact .inl rfl; exact .inr rfl
  have hb : decide ((if b = true then 1 else 0 : Nat) = 1) = b := by cases b <;> rfl
  constructor
  · intro h p hp hh
    obtain ⟨k1, k2⟩ := (hold_lit h1 hc.v hm).1 hh
    rw [hb] at k1
    have := ((sideS_testBit (by omega)).1 (h p hp k2)).2
    rwa [putP_eq k1] at this
  · intro h p hp hh
    refine (sideS_testBit (by omega)).2 ⟨by omega, h _ ((putP_lt hi).2 hp) ((hold_lit h1 hc.v hm).2 ⟨?_, (hold_put hm).2 hh⟩)⟩
    rw [putP_testBit, if_pos rfl, hb]
theorem wIn_com (h8 : n ≤ 8) (hi : i < n) {c : Cb} (hm : c.m.testBit i = false) : wIn n (sideS s i false &&& sideS s i true) c ↔ wIn n s c := by
  have h256 := pow_le256 h8
  constructor
  · intro h p hp hh
    have h2 := h p hp hh
    rw [Nat.testBit_and, Bool.and_eq_true] at h2
    cases hb : p.testBit i with
    | false => have := ((sideS_testBit (by omega)).1 h2.1).2; rwa [putP_eq hb] at this
    | true => have := ((sideS_testBit (by omega)).1 h2.2).2; rwa [putP_eq hb] at this
  · intro h p hp hh
    rw [Nat.testBit_and, Bool.and_eq_true]
    exact ⟨(sideS_testBit (by omega)).2 ⟨by omega, h _ ((putP_lt hi).2 hp) ((hold_put hm).2 hh)⟩, (sideS_testBit (by omega)).2 ⟨by omega, h _ ((putP_lt hi).2 hp) ((hold_put hm).2 hh)⟩⟩
theorem wo_bit {c : Cb} {j q : Nat} (hj : j < 8) : (woC c j).m.testBit q = (c.m.testBit q && decide (q ≠ j)) := woM_testBit hj q
theorem wo_litC {c : Cb} {i j one : Nat} (hi : i < 8) (hj : j < 8) (hij : ¬ j = i) (h1 : one = 0 ∨ one = 1) (hv : c.v.testBit i = false) : woC (litC i one c) j = litC i one (woC c j) := by
  have e1 : (woC (litC i one c) j).m = (litC i one (woC c j)).m := Nat.eq_of_testBit_eq fun q => by
    rw [wo_bit hj, litC_m, litC_m, wo_bit hj]
    by_cases e : q = i
    · subst e; have : ¬ q = j := fun k => hij k.symm; simp [this]
    · simp [e]
  have vv : ∀ (d : Cb) (q : Nat), (woC d j).v.testBit q = (d.v.testBit q && (d.m.testBit q && decide (q ≠ j))) := fun d q => by
    show (d.v &&& woM d.m (j : Int)).testBit q = _
    rw [Nat.testBit_and, woM_testBit hj]
  have e2 : (woC (litC i one c) j).v = (litC i one (woC c j)).v := Nat.eq_of_testBit_eq fun q => by
    rw [vv, litC_m]
    rcases h1 with rfl | rfl
    · rw [litC_v0, litC_v0, vv]
      by_cases e : q = i
      · subst e
        rw [hv, Bool.false_and, Bool.false_and]
      · simp [e]
    · rw [litC_v1, litC_v1, vv]
      by_cases e : q = i
      · subst e; have : ¬ q = j := fun k => hij k.symm; simp [this]
      · simp [e]
  cases h : woC (litC i one c) j
  cases k : litC i one (woC c j)
  rw [h, k] at e1 e2
  simp_all
theorem rt_lit {c : Cb} {one : Nat} (h1 : one = 0 ∨ one = 1) (hi : i < n) (hc : Rt n c) : Rt n (litC i one c) := by
  refine ⟨lt_two.2 fun j hj => ?_, Nat.eq_of_testBit_eq fun j => ?_⟩
  · rw [litC_m, lt_two.1 hc.m j hj, Bool.false_or, decide_eq_false (by omega)]
  · have hb := bit_of_right hc.v j
    rw [Nat.testBit_and, litC_m]
    rcases h1 with rfl | rfl
    · rw [litC_v0, hb]
      cases c.v.testBit j <;> cases c.m.testBit j <;> rfl
    · rw [litC_v1]
      by_cases e : j = i
      · subst e; simp
      · simp only [decide_eq_false e, Bool.or_false]
        rw [hb]
        cases c.v.testBit j <;> cases c.m.testBit j <;> rfl
/-- The cube without input i's literal, and which one it was. -/
theorem lit_back (hi : i < n) (h8 : n ≤ 8) {c : Cb} (hc : Rt n c) (hm : c.m.testBit i = true) : c = litC i (if c.v.testBit i = true then 1 else 0) (woC c i) := by
  have hi8 : i < 8 := by omega
  have vv : ∀ q : Nat, (woC c i).v.testBit q = (c.v.testBit q && (c.m.testBit q && decide (q ≠ i))) := fun q => by
    show (c.v &&& woM c.m (i : Int)).testBit q = _
    rw [Nat.testBit_and, woM_testBit hi8]
  have e1 : c.m = (litC i (if c.v.testBit i = true then 1 else 0) (woC c i)).m := Nat.eq_of_testBit_eq fun q => by
    rw [litC_m, wo_bit hi8]
    by_cases e : q = i
    · subst e; simp [hm]
    · simp [e]
  have e2 : c.v = (litC i (if c.v.testBit i = true then 1 else 0) (woC c i)).v := Nat.eq_of_testBit_eq fun q => by
    have hb := bit_of_right hc.v q
    cases hv : c.v.testBit i with
    | false =>
      rw [if_neg (by decide), litC_v0, vv]
      by_cases e : q = i
      · subst e; simp [hv]
      · simp only [ne_eq, e, not_false_eq_true, decide_true, Bool.and_true]; exact hb
    | true =>
      rw [if_pos rfl, litC_v1, vv]
      by_cases e : q = i
      · subst e; simp [hv]
      · simp only [ne_eq, e, not_false_eq_true, decide_true, Bool.and_true, decide_false, Bool.or_false]; exact hb
  cases h : litC i (if c.v.testBit i = true then 1 else 0) (woC c i)
  rw [h] at e1 e2
  cases c
  simp only [Cb.mk.injEq]
  exact ⟨e1, e2⟩
theorem prs_split (h8 : n ≤ 8) (h : Fre n s i) (hi : i < n) (x : Nat) :
    PrS n s x ↔ PrS n (sideS s i false &&& sideS s i true) x ∨ (∃ y, (PrS n (sideS s i false) y ∧ ¬ PrS n (sideS s i false &&& sideS s i true) y) ∧ x = y + 2 ^ (2 * i)) ∨ (∃ y, (PrS n (sideS s i true) y ∧ ¬ PrS n (sideS s i false &&& sideS s i true) y) ∧ x = y + 2 ^ (2 * i + 1)) := by
  have hi8 : i < 8 := by omega
  have h256 := pow_le256 h8
  have hS := fun b => h.side h8 hi b
  have hC := (hS false).and (hS true)
  have wsub : ∀ b c, wIn n (sideS s i false &&& sideS s i true) c → wIn n (sideS s i b) c := fun b c k p hp hh => by
    have := k p hp hh
    rw [Nat.testBit_and, Bool.and_eq_true] at this
    cases b with
    | false => exact this.1
    | true => exact this.2
  have one : ∀ b : Bool, (if b = true then 1 else 0 : Nat) = 0 ∨ (if b = true then 1 else 0 : Nat) = 1 := fun b => by cases b; exact .inl rfl; exact .inr rfl
  -- without a literal
  have A : ∀ c : Cb, c.m.testBit i = false → (primeB c.m c.v s (n : Int) = true ↔ primeB c.m c.v (sideS s i false &&& sideS s i true) (n : Int) = true) := fun c hm => by
    rw [prime_iff h8, prime_iff h8, wIn_com h8 hi hm]
    refine and_congr_right fun hc => and_congr_right fun _ => ?_
    refine forall_congr' fun j => forall_congr' fun hj => forall_congr' fun hb => not_congr ?_
    exact (wIn_com h8 hi (by rw [wo_bit (by omega), hm, Bool.false_and])).symm
  -- with one
  have B : ∀ (b : Bool) (c : Cb), Rt n c → c.m.testBit i = false → (primeB (litC i (if b = true then 1 else 0) c).m (litC i (if b = true then 1 else 0) c).v s (n : Int) = true ↔ primeB c.m c.v (sideS s i b) (n : Int) = true ∧ ¬ primeB c.m c.v (sideS s i false &&& sideS s i true) (n : Int) = true) := fun b c hc hm => by
    have hv : c.v.testBit i = false := by rw [bit_of_right hc.v, hm, Bool.and_false]
    have hrt := rt_lit (one b) hi hc
    have drop : woC (litC i (if b = true then 1 else 0) c) i = c := by
      have e1 : (woC (litC i (if b = true then 1 else 0) c) i).m = c.m := Nat.eq_of_testBit_eq fun q => by
        rw [wo_bit hi8, litC_m]
        by_cases e : q = i
        · subst e; simp [hm]
        · simp [e]
      have e2 : (woC (litC i (if b = true then 1 else 0) c) i).v = c.v := Nat.eq_of_testBit_eq fun q => by
        show ((litC i (if b = true then 1 else 0) c).v &&& woM (litC i (if b = true then 1 else 0) c).m (i : Int)).testBit q = _
        have hb := bit_of_right hc.v q
        rw [Nat.testBit_and, woM_testBit hi8, litC_m]
        by_cases e : q = i
        · subst e; rw [hv]; simp
        · cases b with
          | false => rw [if_neg (by decide), litC_v0]; simp only [decide_false, Bool.or_false, ne_eq, e, not_false_eq_true, decide_true, Bool.and_true]; exact hb.symm
          | true => rw [if_pos rfl, litC_v1]; simp only [decide_false, Bool.or_false, ne_eq, e, not_false_eq_true, decide_true, Bool.and_true]; exact hb.symm
      cases k : woC (litC i (if b = true then 1 else 0) c) i
      rw [k] at e1 e2
      cases c
      simp only [Cb.mk.injEq]
      exact ⟨e1, e2⟩
    rw [prime_iff h8, prime_iff h8]
    constructor
    · rintro ⟨_, h2, h3⟩
      have g2 := (wIn_lit h8 hi hc hm b).2 h2
      refine ⟨⟨hc, g2, fun j hj hb hq => ?_⟩, fun hp => ?_⟩
      · have hji : ¬ j = i := fun e => by rw [e, hm] at hb; cases hb
        refine h3 j hj (by rw [litC_m, hb, Bool.true_or]) ?_
        rw [wo_litC hi8 (by omega) hji (one b) hv]
        exact (wIn_lit h8 hi (wo_rt (by omega) hc) (by rw [wo_bit (by omega), hm, Bool.false_and]) b).1 hq
      · refine h3 i hi (by rw [litC_m, decide_eq_true rfl, Bool.or_true]) ?_
        rw [drop]
        exact (wIn_com h8 hi hm).1 ((prime_iff h8).1 hp).2.1
    · rintro ⟨⟨_, h2, h3⟩, hn⟩
      refine ⟨hrt, (wIn_lit h8 hi hc hm b).1 h2, fun j hj hb hq => ?_⟩
      by_cases hji : j = i
      · subst hji
        rw [drop] at hq
        have g := (wIn_com h8 hi hm).2 hq
        exact hn ((prime_iff h8).2 ⟨hc, g, fun q hq2 hb2 hw => h3 q hq2 hb2 (wsub b _ hw)⟩)
      · rw [litC_m, decide_eq_false hji, Bool.or_false] at hb
        rw [wo_litC hi8 (by omega) hji (one b) hv] at hq
        exact h3 j hj hb ((wIn_lit h8 hi (wo_rt (by omega) hc) (by rw [wo_bit (by omega), hm, Bool.false_and]) b).2 hq)
  have inj : ∀ c d : Cb, Rt n c → Rt n d → memC c = memC d → c = d := fun c d hc hd e => memC_inj (by have := hc.m; omega) (by have := hd.m; omega) hc.v hd.v e
  have nz : ∀ (b : Bool) (c : Cb), primeB c.m c.v (sideS s i b) (n : Int) = true → Rt n c ∧ c.m.testBit i = false := fun b c hc => ⟨((prime_iff h8).1 hc).1, prime_free h8 (hS b) hc (Nat.lt_succ_self i)⟩
  have mem : ∀ (b : Bool) (c : Cb), Rt n c → c.m.testBit i = false → memC (litC i (if b = true then 1 else 0) c) = memC c + 2 ^ (2 * i + (if b = true then 1 else 0)) := fun b c hc hm => by
    have hv : c.v.testBit i = false := by rw [bit_of_right hc.v, hm, Bool.and_false]
    have := memT_litC (one b) hm hv 8
    rw [if_pos hi8] at this
    exact this
  constructor
  · rintro ⟨c, hc, rfl⟩
    have hrt := ((prime_iff h8).1 hc).1
    cases hm : c.m.testBit i with
    | false => exact .inl ⟨c, (A c hm).1 hc, rfl⟩
    | true =>
      have e := lit_back hi h8 hrt hm
      have hd : (woC c i).m.testBit i = false := by rw [wo_bit hi8]; simp
      have hdr := wo_rt hi8 hrt
      rw [e] at hc
      obtain ⟨g1, g2⟩ := (B _ _ hdr hd).1 hc
      have em : memC c = memC (woC c i) + 2 ^ (2 * i + (if c.v.testBit i = true then 1 else 0)) := by
        conv => lhs; rw [e]
        exact mem _ _ hdr hd
      have hno : ¬ PrS n (sideS s i false &&& sideS s i true) (memC (woC c i)) := fun ⟨d, h1, h2⟩ => by
        have := inj _ _ hdr ((prime_iff h8).1 h1).1 h2
        rw [this] at g2
        exact g2 h1
      cases hv : c.v.testBit i with
      | false =>
        rw [hv] at g1 em
        exact .inr (.inl ⟨_, ⟨⟨_, g1, rfl⟩, hno⟩, em⟩)
      | true =>
        rw [hv] at g1 em
        exact .inr (.inr ⟨_, ⟨⟨_, g1, rfl⟩, hno⟩, em⟩)
  · have back : ∀ (b : Bool) (y : Nat), PrS n (sideS s i b) y → ¬ PrS n (sideS s i false &&& sideS s i true) y → PrS n s (y + 2 ^ (2 * i + (if b = true then 1 else 0))) := fun b y ⟨c, hc, e⟩ hn => by
      obtain ⟨h1, h2⟩ := nz b c hc
      exact ⟨_, (B b c h1 h2).2 ⟨hc, fun k => hn ⟨c, k, e⟩⟩, by rw [mem b c h1 h2, e]⟩
    rintro (⟨c, hc, rfl⟩ | ⟨y, ⟨h1, h2⟩, rfl⟩ | ⟨y, ⟨h1, h2⟩, rfl⟩)
    · exact ⟨c, (A c (prime_free h8 hC hc (Nat.lt_succ_self i))).2 hc, rfl⟩
    · exact back false y h1 h2
    · exact back true y h1 h2
end

end Go.Proofs.Ytpamgfbecgjjeaa
