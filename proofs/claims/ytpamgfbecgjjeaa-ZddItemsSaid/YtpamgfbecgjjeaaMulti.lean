/-
  Plain words for specs of several outputs and rows: what is within, what holds what, primes, growing, all primes in order. No program in it.
-/
import Derived.Test.YtpamgfbecgjjeaaRef12
namespace Go.Proofs.Ytpamgfbecgjjeaa
set_option linter.unusedVariables false
set_option linter.unusedSimpArgs false
open Go Go.RowKit

/-! ### Specs -/
structure Sp where
  n : Int
  on : List Nat
  may : List Nat
def onP (S : Sp) (k : Nat) : Nat := S.on.getD k 0
def mayP (S : Sp) (k : Nat) : Nat := S.may.getD k 0
def rightS (S : Sp) : Bool :=
  decide (0 ≤ S.n) && (decide (S.n ≤ 8) && (decide (1 ≤ S.on.length) && (decide (S.on.length ≤ 4) && (decide (S.on.length = S.may.length) &&
    (List.range S.on.length).all fun k => withinB (onP S k) (mayP S k) && withinB (mayP S k) (allS S.n.toNat)))))
theorem rightS_iff {S : Sp} : rightS S = true ↔ 0 ≤ S.n ∧ S.n ≤ 8 ∧ 1 ≤ S.on.length ∧ S.on.length ≤ 4 ∧ S.on.length = S.may.length ∧ ∀ k, k < S.on.length → withinB (onP S k) (mayP S k) = true ∧ withinB (mayP S k) (allS S.n.toNat) = true := by
  unfold rightS
  simp only [Bool.and_eq_true, decide_eq_true_eq, List.all_eq_true, List.mem_range]
theorem right_f {S : Sp} (h : ¬ (0 ≤ S.n ∧ S.n ≤ 8 ∧ 1 ≤ S.on.length ∧ S.on.length ≤ 4 ∧ S.on.length = S.may.length)) : Value.bool false = .bool (rightS S) :=
  congrArg Value.bool (Bool.eq_false_iff.2 fun hr => h (by
    obtain ⟨h1, h2, h3, h4, h5, _⟩ := rightS_iff.1 hr
    exact ⟨h1, h2, h3, h4, h5⟩)).symm
theorem right_k {S : Sp} {k : Nat} (hk : k < S.on.length) (h : ¬ (withinB (onP S k) (mayP S k) = true ∧ withinB (mayP S k) (allS S.n.toNat) = true)) : Value.bool false = .bool (rightS S) :=
  congrArg Value.bool (Bool.eq_false_iff.2 fun hr => h ((rightS_iff.1 hr).2.2.2.2.2 k hk)).symm
theorem right_t {S : Sp} (h : 0 ≤ S.n ∧ S.n ≤ 8 ∧ 1 ≤ S.on.length ∧ S.on.length ≤ 4 ∧ S.on.length = S.may.length) (hk : ∀ k, k < S.on.length → withinB (onP S k) (mayP S k) = true ∧ withinB (mayP S k) (allS S.n.toNat) = true) : Value.bool true = .bool (rightS S) :=
  congrArg Value.bool (rightS_iff.2 ⟨h.1, h.2.1, h.2.2.1, h.2.2.2.1, h.2.2.2.2, hk⟩).symm

/-- The outputs, of the first k, for which a cube is within. -/
def outsTo (S : Sp) (c : Cb) : Nat → Nat
  | 0 => 0
  | k + 1 => if wiB c.m c.v (mayP S k) S.n = true then outsTo S c k ||| 1 * 2 ^ k else outsTo S c k
abbrev outsS (S : Sp) (c : Cb) : Nat := outsTo S c S.may.length
theorem outs_t {S : Sp} {c : Cb} {k : Nat} (h : wiB c.m c.v (mayP S k) S.n = true) : outsTo S c k ||| 1 * 2 ^ k = outsTo S c (k + 1) := (if_pos h).symm
theorem outs_f {S : Sp} {c : Cb} {k : Nat} (h : wiB c.m c.v (mayP S k) S.n = false) : outsTo S c k = outsTo S c (k + 1) := (if_neg (by rw [h]; decide)).symm
theorem outsTo_testBit {S : Sp} {c : Cb} {j : Nat} : ∀ k, (outsTo S c k).testBit j = true ↔ j < k ∧ wiB c.m c.v (mayP S j) S.n = true
  | 0 => by simp [outsTo]
  | k + 1 => by
    rw [outsTo]
    split
    · rename_i h
      rw [Nat.one_mul, Nat.testBit_or, Nat.testBit_two_pow, Bool.or_eq_true, outsTo_testBit k, decide_eq_true_eq]
      constructor
      · rintro (⟨h1, h2⟩ | rfl)
        · exact ⟨by omega, h2⟩
        · exact ⟨by omega, h⟩
      · rintro ⟨h1, h2⟩
        rcases Nat.lt_succ_iff_lt_or_eq.1 h1 with h1 | h1
        · exact .inl ⟨h1, h2⟩
        · exact .inr h1.symm
    · rename_i h
      rw [outsTo_testBit k]
      constructor
      · rintro ⟨h1, h2⟩; exact ⟨by omega, h2⟩
      · rintro ⟨h1, h2⟩
        rcases Nat.lt_succ_iff_lt_or_eq.1 h1 with h1 | rfl
        · exact ⟨h1, h2⟩
        · exact absurd h2 h
theorem outsTo_lt (S : Sp) (c : Cb) (k : Nat) : outsTo S c k < 2 ^ k := lt_two.2 fun j hj => Bool.eq_false_iff.2 fun h => by
  have := ((outsTo_testBit k).1 h).1
  omega
theorem pow4 {k : Nat} (h : k ≤ 4) : 2 ^ k ≤ 16 := by
  have h2 : 2 ^ k ≤ 2 ^ 4 := Nat.pow_le_pow_right (by decide) h
  simpa using h2

/-- Is a row within? -/
def inR (S : Sp) (x : Rw) : Bool := rightS S && (decide (0 < x.o) && decide (andNot x.o (outsS S x.c) = 0))
theorem andNot_iff {a b : Nat} : andNot a b = 0 ↔ ∀ j, a.testBit j = true → b.testBit j = true := by
  constructor
  · intro h j hj
    have h2 := congrArg (fun x => x.testBit j) h
    simp only [andNot_testBit, Nat.zero_testBit, hj, Bool.true_and] at h2
    simpa using h2
  · intro h
    refine Nat.eq_of_testBit_eq fun j => ?_
    rw [andNot_testBit, Nat.zero_testBit]
    cases ha : a.testBit j with
    | false => rfl
    | true => rw [h j ha]; rfl
theorem inR_iff {S : Sp} {x : Rw} : inR S x = true ↔ rightS S = true ∧ 0 < x.o ∧ ∀ j, x.o.testBit j = true → j < S.may.length ∧ wiB x.c.m x.c.v (mayP S j) S.n = true := by
  unfold inR
  rw [Bool.and_eq_true, Bool.and_eq_true, decide_eq_true_eq, decide_eq_true_eq, andNot_iff]
  simp only [outsTo_testBit]
theorem inR_lt {S : Sp} {x : Rw} (h : inR S x = true) : x.o < 2 ^ S.may.length ∧ x.o < 16 := by
  obtain ⟨h1, _, h3⟩ := inR_iff.1 h
  obtain ⟨_, _, _, h4, h5, _⟩ := rightS_iff.1 h1
  have : x.o < 2 ^ S.may.length := lt_two.2 fun j hj => Bool.eq_false_iff.2 fun hb => by have := (h3 j hb).1; omega
  have := pow4 (k := S.may.length) (by omega)
  omega
theorem exists_bit {a : Nat} (h : 0 < a) : ∃ j, a.testBit j = true := Classical.byContradiction fun hn => by
  have : a = 0 := Nat.eq_of_testBit_eq fun j => by rw [Nat.zero_testBit]; exact Bool.eq_false_iff.2 fun hb => hn ⟨j, hb⟩
  omega
theorem pos_bit {a j : Nat} (h : a.testBit j = true) : 0 < a := Nat.pos_of_ne_zero fun e => by
  rw [e, Nat.zero_testBit] at h; cases h
theorem inR_right {S : Sp} {x : Rw} (h : inR S x = true) : rightB x.c.m x.c.v S.n = true := by
  obtain ⟨_, h2, h3⟩ := inR_iff.1 h
  obtain ⟨j, hj⟩ := exists_bit h2
  exact wiB_right (h3 j hj).2

def holdsR (a b : Rw) : Bool := holdsB a.c b.c && decide (andNot b.o a.o = 0)
theorem holdsR_iff {a b : Rw} : holdsR a b = true ↔ holdsB a.c b.c = true ∧ ∀ j, b.o.testBit j = true → a.o.testBit j = true := by
  unfold holdsR
  rw [Bool.and_eq_true, decide_eq_true_eq, andNot_iff]

/-! ### What some outputs have in common -/
def comTo (S : Sp) (o : Nat) : Nat → Nat
  | 0 => allS S.n.toNat
  | k + 1 => if o.testBit k = true then comTo S o k &&& mayP S k else comTo S o k
abbrev comS (S : Sp) (o : Nat) : Nat := comTo S o S.may.length
theorem com_t {S : Sp} {o k : Nat} (h : o.testBit k = true) : comTo S o k &&& mayP S k = comTo S o (k + 1) := (if_pos h).symm
theorem com_f {S : Sp} {o k : Nat} (h : ¬ o.testBit k = true) : comTo S o k = comTo S o (k + 1) := (if_neg h).symm
theorem comTo_testBit {S : Sp} {o p : Nat} : ∀ k, (comTo S o k).testBit p = true ↔ p < 2 ^ S.n.toNat ∧ ∀ j, j < k → o.testBit j = true → (mayP S j).testBit p = true
  | 0 => by simp [comTo, allS_testBit]
  | k + 1 => by
    rw [comTo]
    split
    · rename_i h
      rw [Nat.testBit_and, Bool.and_eq_true, comTo_testBit k]
      constructor
      · rintro ⟨⟨h1, h2⟩, h3⟩
        refine ⟨h1, fun j hj ho => ?_⟩
        rcases Nat.lt_succ_iff_lt_or_eq.1 hj with hj | rfl
        · exact h2 j hj ho
        · exact h3
      · rintro ⟨h1, h2⟩
        exact ⟨⟨h1, fun j hj ho => h2 j (by omega) ho⟩, h2 k (by omega) h⟩
    · rename_i h
      rw [comTo_testBit k]
      constructor
      · rintro ⟨h1, h2⟩
        refine ⟨h1, fun j hj ho => ?_⟩
        rcases Nat.lt_succ_iff_lt_or_eq.1 hj with hj | rfl
        · exact h2 j hj ho
        · exact absurd ho h
      · rintro ⟨h1, h2⟩
        exact ⟨h1, fun j hj ho => h2 j (by omega) ho⟩
theorem com_of {S : Sp} (hr : rightS S = true) (o : Nat) : ofB (comS S o) S.n = true := by
  obtain ⟨h0, h8, _⟩ := rightS_iff.1 hr
  unfold ofB
  rw [decide_eq_true h0, decide_eq_true h8, Bool.true_and, Bool.true_and, withinB_iff]
  intro p _ h
  rw [allS_testBit]
  simpa using ((comTo_testBit _).1 h).1
theorem com_wi {S : Sp} {c : Cb} {o : Nat} : wiB c.m c.v (comS S o) S.n = true ↔ rightB c.m c.v S.n = true ∧ ∀ j, j < S.may.length → o.testBit j = true → wiB c.m c.v (mayP S j) S.n = true := by
  have e1 := imp_iff (s := comS S o) (n := S.n) (c := c)
  have e2 := fun j => imp_iff (s := mayP S j) (n := S.n) (c := c)
  unfold imp at e1 e2
  rw [e1]
  constructor
  · rintro ⟨h1, h2⟩
    exact ⟨h1, fun j hj ho => (e2 j).2 ⟨h1, fun p hp hc => ((comTo_testBit _).1 (h2 p hp hc)).2 j hj ho⟩⟩
  · rintro ⟨h1, h2⟩
    exact ⟨h1, fun p hp hc => (comTo_testBit _).2 ⟨hp, fun j hj ho => ((e2 j).1 (h2 j hj ho)).2 p hp hc⟩⟩
/-- A row is within, just if its cube is within what its outputs have in common. -/
theorem inR_com {S : Sp} {x : Rw} : inR S x = true ↔ rightS S = true ∧ 0 < x.o ∧ x.o < 2 ^ S.may.length ∧ wiB x.c.m x.c.v (comS S x.o) S.n = true := by
  constructor
  · intro h
    obtain ⟨h1, h2, h3⟩ := inR_iff.1 h
    exact ⟨h1, h2, (inR_lt h).1, com_wi.2 ⟨inR_right h, fun j _ hj => (h3 j hj).2⟩⟩
  · rintro ⟨h1, h2, h3, h4⟩
    refine inR_iff.2 ⟨h1, h2, fun j hj => ?_⟩
    have hlt : j < S.may.length := Classical.byContradiction fun hn => by
      rw [lt_two.1 h3 j (by omega)] at hj; cases hj
    exact ⟨hlt, (com_wi.1 h4).2 j hlt hj⟩

/-! ### Primes -/
/-- The cubes without a literal, of the first k, that are still within. -/
def wideTo (S : Sp) (x : Rw) : Nat → List Cb
  | 0 => []
  | k + 1 => if ¬ woC x.c k = x.c ∧ inR S ⟨woC x.c k, x.o⟩ = true then wideTo S x k ++ [woC x.c k] else wideTo S x k
theorem wide_t {S : Sp} {x : Rw} {k : Nat} (h1 : ¬ woC x.c k = x.c) (h2 : inR S ⟨woC x.c k, x.o⟩ = true) : wideTo S x k ++ [woC x.c k] = wideTo S x (k + 1) := (if_pos ⟨h1, h2⟩).symm
theorem wide_f {S : Sp} {x : Rw} {k : Nat} (h : woC x.c k = x.c ∨ inR S ⟨woC x.c k, x.o⟩ = false) : wideTo S x k = wideTo S x (k + 1) := (if_neg fun ⟨h1, h2⟩ => h.elim h1 (fun h => by rw [h] at h2; cases h2)).symm
theorem wide_len (S : Sp) (x : Rw) : ∀ k, (wideTo S x k).length ≤ k
  | 0 => by simp [wideTo]
  | k + 1 => by
    have := wide_len S x k
    rw [wideTo]
    split <;> simp <;> omega
theorem wide_none {S : Sp} {x : Rw} : ∀ k, (wideTo S x k).length = 0 ↔ ∀ i, i < k → ¬ (¬ woC x.c i = x.c ∧ inR S ⟨woC x.c i, x.o⟩ = true)
  | 0 => by simp [wideTo]
  | k + 1 => by
    have ih := wide_none (S := S) (x := x) k
    rw [wideTo]
    split
    · rename_i h
      simp only [List.length_append, List.length_cons, List.length_nil]
      constructor
      · intro h2; omega
      · intro h2; exact absurd h (h2 k (by omega))
    · rename_i h
      rw [ih]
      constructor
      · intro h2 i hi
        rcases Nat.lt_succ_iff_lt_or_eq.1 hi with hi | rfl
        · exact h2 i hi
        · exact h
      · intro h2 i hi; exact h2 i (by omega)
def primeR (S : Sp) (x : Rw) : Bool := inR S x && (decide (outsS S x.c = x.o) && decide ((wideTo S x S.n.toNat).length = 0))
theorem wo_same {c : Cb} {i : Nat} (hi : i < 8) (hv : c.v &&& c.m = c.v) : woC c i = c ↔ c.m.testBit i = false := by
  have hw := fun j => woM_testBit (m := c.m) hi j
  constructor
  · intro h
    have h1 : woM c.m (i : Int) = c.m := congrArg Cb.m h
    have := hw i
    rw [h1] at this
    cases hb : c.m.testBit i with
    | false => rfl
    | true => rw [hb] at this; simp at this
  · intro h
    have h1 : woM c.m (i : Int) = c.m := Nat.eq_of_testBit_eq fun j => by
      rw [hw]
      by_cases e : j = i
      · subst e; rw [h]; rfl
      · simp [e]
    unfold woC
    rw [h1, hv]
theorem primeR_iff {S : Sp} {x : Rw} : primeR S x = true ↔ inR S x = true ∧ outsS S x.c = x.o ∧ primeB x.c.m x.c.v (comS S x.o) S.n = true := by
  unfold primeR
  rw [Bool.and_eq_true, Bool.and_eq_true, decide_eq_true_eq, decide_eq_true_eq, wide_none]
  constructor
  · rintro ⟨h1, h2, h3⟩
    refine ⟨h1, h2, primeB_iff.2 ⟨(inR_com.1 h1).2.2.2, fun i hi => Bool.eq_false_iff.2 fun hs => ?_⟩⟩
    obtain ⟨h0, h8, hm, hv⟩ := rightB_iff.1 (inR_right h1)
    unfold shrinks at hs
    rw [Bool.and_eq_true] at hs
    refine h3 i hi ⟨fun he => ?_, inR_com.2 ⟨(inR_com.1 h1).1, (inR_com.1 h1).2.1, (inR_com.1 h1).2.2.1, hs.2⟩⟩
    rw [(wo_same (by omega) hv).1 he] at hs
    cases hs.1
  · rintro ⟨h1, h2, h3⟩
    refine ⟨h1, h2, fun i hi ⟨g1, g2⟩ => ?_⟩
    obtain ⟨h0, h8, hm, hv⟩ := rightB_iff.1 (inR_right h1)
    have hs := (primeB_iff.1 h3).2 i hi
    unfold shrinks at hs
    have hb : x.c.m.testBit i = true := Classical.byContradiction fun hn => g1 ((wo_same (by omega) hv).2 (Bool.eq_false_iff.2 hn))
    have hw : wiB (woM x.c.m (i : Int)) (x.c.v &&& woM x.c.m (i : Int)) (comS S x.o) S.n = true := (inR_com.1 g2).2.2.2
    rw [hb, hw] at hs
    cases hs

/-- A cube that holds another one, and is not it, holds it without some literal. -/
theorem holds_less {n : Int} {c d : Cb} (hc : rightB c.m c.v n = true) (hd : rightB d.m d.v n = true) (h : holdsB d c = true) (hne : d ≠ c) : ∃ i, i < n.toNat ∧ c.m.testBit i = true ∧ holdsB d (woC c i) = true := by
  obtain ⟨_, h8, hm, hv⟩ := rightB_iff.1 hc
  obtain ⟨_, _, hdm, hdv⟩ := rightB_iff.1 hd
  rw [holdsB_iff] at h
  have : ∃ i, c.m.testBit i = true ∧ d.m.testBit i = false := Classical.byContradiction fun hn => by
    have hmm : d.m = c.m := Nat.eq_of_testBit_eq fun j => by
      cases hj : d.m.testBit j with
      | true => rw [(h j hj).1]
      | false => cases hk : c.m.testBit j with
        | false => rfl
        | true => exact absurd ⟨j, hk, hj⟩ hn
    have hvv : d.v = c.v := Nat.eq_of_testBit_eq fun j => by
      cases hj : d.m.testBit j with
      | true => exact (h j hj).2
      | false =>
        rw [bit_of_right hdv j, bit_of_right hv j, ← hmm, hj, Bool.and_false, Bool.and_false]
    exact hne (by
      obtain ⟨dm, dv⟩ := d
      obtain ⟨cm, cv⟩ := c
      simp only [Cb.mk.injEq]
      exact ⟨hmm, hvv⟩)
  obtain ⟨i, h1, h2⟩ := this
  have hi : i < n.toNat := Classical.byContradiction fun hn => by
    rw [lt_two.1 hm i (by omega)] at h1; cases h1
  refine ⟨i, hi, h1, holdsB_iff.2 fun j hj => ?_⟩
  have hji : j ≠ i := fun e => by subst e; rw [h2] at hj; cases hj
  obtain ⟨g1, g2⟩ := h j hj
  have hm' : (woC c i).m.testBit j = true := by
    show (woM c.m (i : Int)).testBit j = true
    rw [woM_testBit (by omega), g1]; simp [hji]
  refine ⟨hm', ?_⟩
  show d.v.testBit j = (c.v &&& woM c.m (i : Int)).testBit j
  have hm2 : (woM c.m (i : Int)).testBit j = true := hm'
  rw [Nat.testBit_and, hm2, Bool.and_true, g2]
/-- A prime is held by no other row that is within. -/
theorem prime_max {S : Sp} {x y : Rw} (hx : primeR S x = true) (hy : inR S y = true) (h : holdsR y x = true) : y = x := by
  obtain ⟨h1, h2, h3⟩ := primeR_iff.1 hx
  obtain ⟨g1, g2⟩ := holdsR_iff.1 h
  obtain ⟨k1, k2, k3⟩ := inR_iff.1 hy
  have hrx := inR_right h1
  have ho : y.o = x.o := Nat.eq_of_testBit_eq fun j => by
    rw [Bool.eq_iff_iff]
    refine ⟨fun hj => ?_, g2 j⟩
    rw [← h2, outsTo_testBit]
    exact ⟨(k3 j hj).1, imp_under (k3 j hj).2 hrx g1⟩
  have hc : y.c = x.c := Classical.byContradiction fun hne => by
    obtain ⟨i, hi, hb, hh⟩ := holds_less hrx (inR_right hy) g1 hne
    have hs := (primeB_iff.1 h3).2 i hi
    unfold shrinks at hs
    have hw : imp (comS S x.o) S.n (woC x.c i) := imp_under (ho ▸ (inR_com.1 hy).2.2.2) (right_wo hrx) hh
    have hw' : wiB (woM x.c.m (i : Int)) (x.c.v &&& woM x.c.m (i : Int)) (comS S x.o) S.n = true := hw
    rw [hb, hw'] at hs
    cases hs
  obtain ⟨xc, xo⟩ := x
  obtain ⟨yc, yo⟩ := y
  simp only [Rw.mk.injEq]
  exact ⟨hc, ho⟩
theorem holdsR_refl (x : Rw) : holdsR x x = true := holdsR_iff.2 ⟨holds_refl _, fun _ h => h⟩
/-- .. and what no other row that is within holds is prime. -/
theorem max_prime {S : Sp} {x : Rw} (hx : inR S x = true) (h : ∀ y, inR S y = true → holdsR y x = true → y = x) : primeR S x = true := by
  obtain ⟨k1, k2, k3⟩ := inR_iff.1 hx
  have hr := inR_right hx
  obtain ⟨h0, h8, hm, hv⟩ := rightB_iff.1 hr
  have ho : outsS S x.c = x.o := by
    have hy : inR S ⟨x.c, outsS S x.c⟩ = true := inR_iff.2 ⟨k1, (exists_bit k2).elim fun j hj => pos_bit ((outsTo_testBit (S := S) (c := x.c) (j := j) S.may.length).2 (k3 j hj)), fun j hj => (outsTo_testBit _).1 hj⟩
    exact congrArg Rw.o (h _ hy (holdsR_iff.2 ⟨holds_refl _, fun j hj => (outsTo_testBit _).2 (k3 j hj)⟩))
  refine primeR_iff.2 ⟨hx, ho, primeB_iff.2 ⟨(inR_com.1 hx).2.2.2, fun i hi => Bool.eq_false_iff.2 fun hs => ?_⟩⟩
  unfold shrinks at hs
  rw [Bool.and_eq_true] at hs
  have hy : inR S ⟨woC x.c i, x.o⟩ = true := inR_com.2 ⟨k1, k2, (inR_com.1 hx).2.2.1, hs.2⟩
  have e := congrArg Rw.c (h _ hy (holdsR_iff.2 ⟨holds_wo (by omega), fun _ h => h⟩))
  have e' : woC x.c i = x.c := e
  rw [(wo_same (by omega) hv).1 e'] at hs
  cases hs.1

/-! ### Growing -/
def growRTo (S : Sp) (x : Rw) : Nat → Cb
  | 0 => x.c
  | i + 1 => if inR S ⟨woC (growRTo S x i) i, x.o⟩ = true then woC (growRTo S x i) i else growRTo S x i
def growR (S : Sp) (x : Rw) : Rw := ⟨growRTo S x S.n.toNat, outsS S (growRTo S x S.n.toNat)⟩
theorem growR_t {S : Sp} {x : Rw} {i : Nat} (h : inR S ⟨woC (growRTo S x i) i, x.o⟩ = true) : woC (growRTo S x i) i = growRTo S x (i + 1) := (if_pos h).symm
theorem growR_f {S : Sp} {x : Rw} {i : Nat} (h : inR S ⟨woC (growRTo S x i) i, x.o⟩ = false) : growRTo S x i = growRTo S x (i + 1) := (if_neg (by rw [h]; decide)).symm
theorem growR_com {S : Sp} {x : Rw} (h : inR S x = true) : ∀ i, growRTo S x i = growTo (comS S x.o) S.n x.c i
  | 0 => rfl
  | i + 1 => by
    have ih := growR_com h i
    obtain ⟨h1, h2, h3, _⟩ := inR_com.1 h
    have e : inR S ⟨woC (growTo (comS S x.o) S.n x.c i) i, x.o⟩ = wiB (woC (growTo (comS S x.o) S.n x.c i) i).m (woC (growTo (comS S x.o) S.n x.c i) i).v (comS S x.o) S.n := by
      rw [Bool.eq_iff_iff]
      exact ⟨fun k => (inR_com.1 k).2.2.2, fun k => inR_com.2 ⟨h1, h2, h3, k⟩⟩
    rw [growRTo, ih, e]
    rfl
theorem growR_lt {S : Sp} {x : Rw} (h : x.c.m < 256 ∧ x.c.v < 256) : ∀ i, (growRTo S x i).m < 256 ∧ (growRTo S x i).v < 256
  | 0 => h
  | i + 1 => by
    have ih := growR_lt (S := S) h i
    rw [growRTo]
    split
    · exact ⟨Nat.lt_of_le_of_lt (woM_le _ _) ih.1, Nat.lt_of_le_of_lt Nat.and_le_left ih.2⟩
    · exact ih
theorem growR_prime {S : Sp} {x : Rw} (h : inR S x = true) : primeR S (growR S x) = true ∧ holdsR (growR S x) x = true := by
  obtain ⟨h1, h2, h3, h4⟩ := inR_com.1 h
  have hg := grow_prime (s := comS S x.o) (n := S.n) (c := x.c) h4
  have e : growRTo S x S.n.toNat = growS (comS S x.o) S.n x.c := growR_com h S.n.toNat
  have hsub : ∀ j, x.o.testBit j = true → (outsS S (growRTo S x S.n.toNat)).testBit j = true := fun j hj => by
    have hlt : j < S.may.length := Classical.byContradiction fun hn => by
      rw [lt_two.1 h3 j (by omega)] at hj; cases hj
    rw [outsTo_testBit, e]
    exact ⟨hlt, (com_wi.1 (primeB_iff.1 hg.1).1).2 j hlt hj⟩
  have hin : inR S (growR S x) = true := inR_iff.2 ⟨h1, (exists_bit h2).elim fun j hj => pos_bit (hsub j hj), fun j hj => (outsTo_testBit _).1 hj⟩
  refine ⟨primeR_iff.2 ⟨hin, rfl, primeB_iff.2 ⟨(inR_com.1 hin).2.2.2, fun i hi => Bool.eq_false_iff.2 fun hs => ?_⟩⟩, holdsR_iff.2 ⟨by show holdsB (growRTo S x S.n.toNat) x.c = true; rw [e]; exact hg.2, hsub⟩⟩
  unfold shrinks at hs
  rw [Bool.and_eq_true] at hs
  have hk := (primeB_iff.1 hg.1).2 i hi
  unfold shrinks at hk
  rw [← e] at hk
  have hw : wiB (woM (growRTo S x S.n.toNat).m (i : Int)) ((growRTo S x S.n.toNat).v &&& woM (growRTo S x S.n.toNat).m (i : Int)) (comS S x.o) S.n = true := by
    have := (com_wi (S := S) (c := woC (growRTo S x S.n.toNat) i) (o := outsS S (growRTo S x S.n.toNat))).1 hs.2
    exact (com_wi (S := S) (c := woC (growRTo S x S.n.toNat) i) (o := x.o)).2 ⟨this.1, fun j hj ho => this.2 j hj (hsub j ho)⟩
  have hb : (growRTo S x S.n.toNat).m.testBit i = true := hs.1
  rw [hb, hw] at hk
  cases hk
theorem growR_same {S : Sp} {x : Rw} (h : inR S x = true) : growR S x = x ↔ primeR S x = true := by
  obtain ⟨h1, h2⟩ := growR_prime h
  constructor
  · intro e; rw [← e]; exact h1
  · intro hp; exact prime_max hp (primeR_iff.1 h1).1 h2

/-! ### All primes, in order -/
def ltR (a b : Rw) : Bool := decide (a.o < b.o) || (decide (a.o = b.o) && ltC a.c b.c)
theorem ltR_iff {a b : Rw} : ltR a b = true ↔ a.o < b.o ∨ a.o = b.o ∧ (a.c.m < b.c.m ∨ a.c.m = b.c.m ∧ a.c.v < b.c.v) := by
  unfold ltR
  rw [Bool.or_eq_true, Bool.and_eq_true, decide_eq_true_eq, decide_eq_true_eq, ltC_iff]
def RisingR (l : List Rw) : Prop := l.Pairwise fun a b => ltR a b = true
theorem ltR_irrefl (a : Rw) : ltR a a = false := Bool.eq_false_iff.2 fun h => by rw [ltR_iff] at h; omega
theorem ltR_trans {a b c : Rw} (h : ltR a b = true) (k : ltR b c = true) : ltR a c = true := by
  rw [ltR_iff] at *; omega
theorem risingR_ext : ∀ {l l' : List Rw}, RisingR l → RisingR l' → (∀ c, c ∈ l ↔ c ∈ l') → l = l'
  | [], [], _, _, _ => rfl
  | [], b :: r, _, _, h => by have := (h b).2 (by simp); simp at this
  | a :: l, [], _, _, h => by have := (h a).1 (by simp); simp at this
  | a :: l, b :: r, h1, h2, h => by
    obtain ⟨p1, q1⟩ := List.pairwise_cons.1 h1
    obtain ⟨p2, q2⟩ := List.pairwise_cons.1 h2
    have hab : a = b := by
      refine Decidable.byContradiction fun hne => ?_
      have ha : a ∈ r := ((List.mem_cons.1 ((h a).1 (by simp))).resolve_left hne)
      have hb : b ∈ l := ((List.mem_cons.1 ((h b).2 (by simp))).resolve_left (fun e => hne e.symm))
      have := ltR_trans (p1 b hb) (p2 a ha)
      rw [ltR_irrefl] at this
      cases this
    subst hab
    congr 1
    refine risingR_ext q1 q2 fun c => ?_
    constructor
    · intro hc
      rcases List.mem_cons.1 ((h c).1 (by simp [hc])) with e | hc'
      · subst e; have := p1 c hc; rw [ltR_irrefl] at this; cases this
      · exact hc'
    · intro hc
      rcases List.mem_cons.1 ((h c).2 (by simp [hc])) with e | hc'
      · subst e; have := p2 c hc; rw [ltR_irrefl] at this; cases this
      · exact hc'

/-- The rows of some outputs, of the first k primes of what they have in common. -/
def rowsTo (S : Sp) (o : Nat) : Nat → List Rw
  | 0 => []
  | k + 1 => if outsS S ((primesL (comS S o) S.n).getD k ⟨0, 0⟩) = o then rowsTo S o k ++ [⟨(primesL (comS S o) S.n).getD k ⟨0, 0⟩, o⟩] else rowsTo S o k
abbrev rowsO (S : Sp) (o : Nat) : List Rw := rowsTo S o (primesL (comS S o) S.n).length
/-- The rows of the outputs 1 .. o - 1. -/
def allTo (S : Sp) : Nat → List Rw
  | 0 => []
  | o + 1 => if o = 0 then [] else allTo S o ++ rowsO S o
abbrev allR (S : Sp) : List Rw := allTo S (2 ^ S.may.length)
theorem rowsTo_t {S : Sp} {o k : Nat} (h : outsS S ((primesL (comS S o) S.n).getD k ⟨0, 0⟩) = o) : rowsTo S o k ++ [⟨(primesL (comS S o) S.n).getD k ⟨0, 0⟩, o⟩] = rowsTo S o (k + 1) := (if_pos h).symm
theorem rowsTo_f {S : Sp} {o k : Nat} (h : ¬ outsS S ((primesL (comS S o) S.n).getD k ⟨0, 0⟩) = o) : rowsTo S o k = rowsTo S o (k + 1) := (if_neg h).symm
theorem allTo_succ {S : Sp} {o : Nat} (h : 0 < o) : allTo S o ++ rowsO S o = allTo S (o + 1) := (if_neg (by omega)).symm
theorem rowsTo_len (S : Sp) (o : Nat) : ∀ k, (rowsTo S o k).length ≤ k
  | 0 => by simp [rowsTo]
  | k + 1 => by
    have := rowsTo_len S o k
    rw [rowsTo]
    split <;> simp <;> omega
theorem allTo_len {S : Sp} (h8 : S.n ≤ 8) : ∀ o, (allTo S o).length ≤ o * 65536
  | 0 => by simp [allTo]
  | o + 1 => by
    have ih := allTo_len h8 o
    have h1 := rowsTo_len S o (primesL (comS S o) S.n).length
    have h2 := primesL_len (s := comS S o) h8
    rw [allTo]
    split
    · simp
    · simp only [List.length_append]; show (allTo S o).length + (rowsTo S o (primesL (comS S o) S.n).length).length ≤ _; omega
theorem mem_rowsTo {S : Sp} {o : Nat} {x : Rw} : ∀ k, x ∈ rowsTo S o k ↔ ∃ j, j < k ∧ x = ⟨(primesL (comS S o) S.n).getD j ⟨0, 0⟩, o⟩ ∧ outsS S x.c = o
  | 0 => by simp [rowsTo]
  | k + 1 => by
    rw [rowsTo]
    split
    · rename_i h
      rw [List.mem_append, List.mem_singleton, mem_rowsTo k]
      constructor
      · rintro (⟨j, hj, r⟩ | rfl)
        · exact ⟨j, by omega, r⟩
        · exact ⟨k, by omega, rfl, h⟩
      · rintro ⟨j, hj, r, r2⟩
        rcases Nat.lt_succ_iff_lt_or_eq.1 hj with hj | rfl
        · exact .inl ⟨j, hj, r, r2⟩
        · exact .inr r
    · rename_i h
      rw [mem_rowsTo k]
      constructor
      · rintro ⟨j, hj, r⟩; exact ⟨j, by omega, r⟩
      · rintro ⟨j, hj, r, r2⟩
        rcases Nat.lt_succ_iff_lt_or_eq.1 hj with hj | rfl
        · exact ⟨j, hj, r, r2⟩
        · subst r; exact absurd r2 h
theorem mem_rowsO {S : Sp} {o : Nat} {x : Rw} (hr : rightS S = true) (h0 : 0 < o) (ho : o < 2 ^ S.may.length) : x ∈ rowsO S o ↔ primeR S x = true ∧ x.o = o := by
  unfold rowsO
  rw [mem_rowsTo]
  constructor
  · rintro ⟨j, hj, rfl, h2⟩
    have hp := mem_primesL.1 (getD_mem (d := ⟨0, 0⟩) hj)
    have hin : inR S ⟨(primesL (comS S o) S.n).getD j ⟨0, 0⟩, o⟩ = true := inR_com.2 ⟨hr, h0, ho, (primeB_iff.1 hp).1⟩
    exact ⟨primeR_iff.2 ⟨hin, h2, hp⟩, rfl⟩
  · rintro ⟨h1, rfl⟩
    obtain ⟨g1, g2, g3⟩ := primeR_iff.1 h1
    obtain ⟨j, hj, he⟩ := mem_getD (d := ⟨0, 0⟩) (mem_primesL.2 g3)
    have he' : (primesL (comS S x.o) S.n).getD j ⟨0, 0⟩ = x.c := he
    exact ⟨j, hj, by rw [he'], g2⟩
theorem mem_allTo {S : Sp} {x : Rw} (hr : rightS S = true) : ∀ o, o ≤ 2 ^ S.may.length → (x ∈ allTo S o ↔ primeR S x = true ∧ x.o < o)
  | 0, _ => by simp [allTo]
  | o + 1, ho => by
    rw [allTo]
    split
    · rename_i h
      subst h
      constructor
      · intro h; cases h
      · rintro ⟨h1, h2⟩
        have := (inR_iff.1 (primeR_iff.1 h1).1).2.1
        omega
    · rename_i h
      rw [List.mem_append, mem_allTo hr o (by omega), mem_rowsO hr (by omega) (by omega)]
      constructor
      · rintro (⟨h1, h2⟩ | ⟨h1, h2⟩)
        · exact ⟨h1, by omega⟩
        · exact ⟨h1, by omega⟩
      · rintro ⟨h1, h2⟩
        rcases Nat.lt_succ_iff_lt_or_eq.1 h2 with h2 | h2
        · exact .inl ⟨h1, h2⟩
        · exact .inr ⟨h1, h2⟩
theorem mem_allR {S : Sp} {x : Rw} (hr : rightS S = true) : x ∈ allR S ↔ primeR S x = true := by
  rw [mem_allTo hr _ (Nat.le_refl _)]
  exact ⟨fun h => h.1, fun h => ⟨h, (inR_lt (primeR_iff.1 h).1).1⟩⟩
theorem rising_get {l : List Cb} (h : Rising l) {i j : Nat} (hij : i < j) (hj : j < l.length) : ltC (l.getD i ⟨0, 0⟩) (l.getD j ⟨0, 0⟩) = true := by
  have := List.pairwise_iff_getElem.1 h i j (by omega) hj hij
  simpa [List.getD_eq_getElem?_getD, List.getElem?_eq_getElem hj, List.getElem?_eq_getElem (show i < l.length by omega)] using this
theorem rising_rowsTo (S : Sp) (o : Nat) : ∀ k, k ≤ (primesL (comS S o) S.n).length → RisingR (rowsTo S o k)
  | 0, _ => by simp [rowsTo, RisingR]
  | k + 1, hk => by
    have ih := rising_rowsTo S o k (by omega)
    rw [rowsTo]
    split
    · refine List.pairwise_append.2 ⟨ih, by simp, fun a ha b hb => ?_⟩
      rw [List.mem_singleton] at hb
      subst hb
      obtain ⟨j, hj, rfl, _⟩ := (mem_rowsTo k).1 ha
      have := rising_get (rising_primesL (comS S o) S.n) hj (by omega)
      unfold ltR
      rw [this]
      simp
    · exact ih
theorem rowsO_o {S : Sp} {o : Nat} {x : Rw} (h : x ∈ rowsO S o) : x.o = o := by
  obtain ⟨_, _, rfl, _⟩ := (mem_rowsTo _).1 h
  rfl
theorem allTo_o {S : Sp} {x : Rw} : ∀ o, x ∈ allTo S o → x.o < o
  | 0, h => by simp [allTo] at h
  | o + 1, h => by
    rw [allTo] at h
    split at h
    · cases h
    · rcases List.mem_append.1 h with h | h
      · have := allTo_o o h; omega
      · have := rowsO_o h; omega
theorem rising_allTo (S : Sp) : ∀ o, RisingR (allTo S o)
  | 0 => by simp [allTo, RisingR]
  | o + 1 => by
    have ih := rising_allTo S o
    rw [allTo]
    split
    · simp [RisingR]
    · refine List.pairwise_append.2 ⟨ih, rising_rowsTo S o _ (Nat.le_refl _), fun a ha b hb => ?_⟩
      have h1 := allTo_o o ha
      have h2 := rowsO_o hb
      rw [ltR_iff]
      omega

/-! ### Sorting -/
/-- Where a row goes, among the first k. -/
def posR (l : List Rw) (x : Rw) : Nat → Nat
  | 0 => 0
  | i + 1 => if ltR x (l.getD i ⟨⟨0, 0⟩, 0⟩) = true then posR l x i else i + 1
def insR (l : List Rw) (x : Rw) : List Rw := l.take (posR l x l.length) ++ x :: l.drop (posR l x l.length)
def sortTo (l : List Rw) : Nat → List Rw
  | 0 => []
  | k + 1 => insR (sortTo l k) (l.getD k ⟨⟨0, 0⟩, 0⟩)
theorem posR_le (l : List Rw) (x : Rw) : ∀ k, posR l x k ≤ k
  | 0 => by simp [posR]
  | k + 1 => by
    have := posR_le l x k
    rw [posR]
    split <;> omega
theorem posR_step {l : List Rw} {x : Rw} {i : Nat} (h0 : 0 < i) (h : ltR x (l.getD (i - 1) ⟨⟨0, 0⟩, 0⟩) = true) : posR l x i = posR l x (i - 1) := by
  obtain ⟨j, rfl⟩ : ∃ j, i = j + 1 := ⟨i - 1, by omega⟩
  rw [posR, if_pos (by simpa using h)]; rfl
theorem posR_end {l : List Rw} {x : Rw} {i : Nat} (h : i = 0 ∨ ltR x (l.getD (i - 1) ⟨⟨0, 0⟩, 0⟩) = false) : posR l x i = i := by
  rcases h with rfl | h
  · rfl
  · cases i with
    | zero => rfl
    | succ j => rw [posR, if_neg (by simp at h; simp [h])]
theorem insR_len (l : List Rw) (x : Rw) : (insR l x).length = l.length + 1 := by
  have := posR_le l x l.length
  simp [insR]; omega
theorem sortTo_len (l : List Rw) : ∀ k, (sortTo l k).length = k
  | 0 => rfl
  | k + 1 => by rw [sortTo, insR_len, sortTo_len l k]
theorem sort_rising {l : List Rw} (h : RisingR l) : ∀ k, k ≤ l.length → sortTo l k = l.take k
  | 0, _ => rfl
  | k + 1, hk => by
    have ih := sort_rising h k (by omega)
    have e : l.getD k ⟨⟨0, 0⟩, 0⟩ = l[k] := by simp [show k < l.length by omega]
    have hp : posR (l.take k) l[k] (l.take k).length = (l.take k).length := posR_end (by
      by_cases h0 : (l.take k).length = 0
      · exact .inl h0
      · right
        have hl : (l.take k).length = k := by simp; omega
        rw [hl] at h0 ⊢
        have hlt := List.pairwise_iff_getElem.1 h (k - 1) k (by omega) (by omega) (by omega)
        have e2 : (l.take k).getD (k - 1) ⟨⟨0, 0⟩, 0⟩ = l[k - 1] := by
          simp [List.getD_eq_getElem?_getD, List.getElem?_take, show k - 1 < k by omega, List.getElem?_eq_getElem (show k - 1 < l.length by omega)]
        rw [e2]
        refine Bool.eq_false_iff.2 fun hb => ?_
        have := ltR_trans hlt hb
        rw [ltR_irrefl] at this
        cases this)
    rw [sortTo, ih, e, insR, hp, List.take_length, List.drop_length, List.take_succ_eq_append_getElem (by omega)]
theorem sort_allR (S : Sp) : sortTo (allR S) (allR S).length = allR S := by
  rw [sort_rising (rising_allTo S _) _ (Nat.le_refl _), List.take_length]

/-! ### What rows cover -/
/-- The points that the first k rows have for an output. -/
def ptsR (l : List Rw) (n o : Nat) : Nat → Nat
  | 0 => 0
  | k + 1 => if (l.getD k ⟨⟨0, 0⟩, 0⟩).o.testBit o = true then ptsR l n o k ||| ptsS (l.getD k ⟨⟨0, 0⟩, 0⟩).c.m (l.getD k ⟨⟨0, 0⟩, 0⟩).c.v n else ptsR l n o k
theorem ptsR_t {l : List Rw} {n o k : Nat} (h : (l.getD k ⟨⟨0, 0⟩, 0⟩).o.testBit o = true) : ptsR l n o k ||| ptsS (l.getD k ⟨⟨0, 0⟩, 0⟩).c.m (l.getD k ⟨⟨0, 0⟩, 0⟩).c.v n = ptsR l n o (k + 1) := (if_pos h).symm
theorem ptsR_f {l : List Rw} {n o k : Nat} (h : ¬ (l.getD k ⟨⟨0, 0⟩, 0⟩).o.testBit o = true) : ptsR l n o k = ptsR l n o (k + 1) := (if_neg h).symm
/-- Has one of the first k rows a point for an output? -/
def hasR (x : Rw) (o p : Nat) : Prop := x.o.testBit o = true ∧ hold x.c p
theorem ptsR_testBit {l : List Rw} {n o : Nat} (hn : n ≤ 8) (p : Nat) : ∀ k, k ≤ l.length → ((ptsR l n o k).testBit p = true ↔ p < 2 ^ n ∧ ∃ j, j < k ∧ hasR (l.getD j ⟨⟨0, 0⟩, 0⟩) o p)
  | 0, _ => by simp [ptsR]
  | k + 1, hk => by
    have ih := ptsR_testBit (l := l) (o := o) hn p k (by omega)
    rw [ptsR]
    split
    · rename_i h
      rw [Nat.testBit_or, Bool.or_eq_true, ih, ptsS_testBit hn, Bool.and_eq_true, decide_eq_true_eq, decide_eq_true_eq]
      constructor
      · rintro (⟨h1, j, hj, r⟩ | ⟨h1, h2⟩)
        · exact ⟨h1, j, by omega, r⟩
        · exact ⟨h1, k, by omega, h, h2⟩
      · rintro ⟨h1, j, hj, r⟩
        rcases Nat.lt_succ_iff_lt_or_eq.1 hj with hj | rfl
        · exact .inl ⟨h1, j, hj, r⟩
        · exact .inr ⟨h1, r.2⟩
    · rename_i h
      rw [ih]
      constructor
      · rintro ⟨h1, j, hj, r⟩; exact ⟨h1, j, by omega, r⟩
      · rintro ⟨h1, j, hj, r⟩
        rcases Nat.lt_succ_iff_lt_or_eq.1 hj with hj | rfl
        · exact ⟨h1, j, hj, r⟩
        · exact absurd r.1 h
/-- May a row be? -/
def okR (S : Sp) (x : Rw) : Bool := rightB x.c.m x.c.v S.n && (decide (0 < x.o) && decide (x.o < 2 ^ S.on.length))
def mayL (S : Sp) (l : List Rw) : Bool := l.all (okR S)
def covO (S : Sp) (l : List Rw) (o : Nat) : Bool := withinB (onP S o) (ptsR l S.n.toNat o l.length) && withinB (ptsR l S.n.toNat o l.length) (mayP S o)
/-- Do rows cover a spec? -/
def covB (S : Sp) (l : List Rw) : Bool := rightS S && (mayL S l && (List.range S.on.length).all (covO S l))
theorem covB_iff {S : Sp} {l : List Rw} : covB S l = true ↔ rightS S = true ∧ mayL S l = true ∧ ∀ o, o < S.on.length → covO S l o = true := by
  unfold covB
  rw [Bool.and_eq_true, Bool.and_eq_true, List.all_eq_true]
  simp only [List.mem_range]
theorem mayL_iff {S : Sp} {l : List Rw} : mayL S l = true ↔ ∀ k, k < l.length → okR S (l.getD k ⟨⟨0, 0⟩, 0⟩) = true := by
  unfold mayL
  rw [List.all_eq_true]
  constructor
  · intro h k hk; exact h _ (getD_mem hk)
  · intro h x hx
    obtain ⟨k, hk, rfl⟩ := mem_getD (d := ⟨⟨0, 0⟩, 0⟩) hx
    exact h k hk
theorem okR_iff {S : Sp} {x : Rw} : okR S x = true ↔ rightB x.c.m x.c.v S.n = true ∧ 0 < x.o ∧ x.o < 2 ^ S.on.length := by
  unfold okR
  rw [Bool.and_eq_true, Bool.and_eq_true, decide_eq_true_eq, decide_eq_true_eq]

end Go.Proofs.Ytpamgfbecgjjeaa
