/-
  Plain words for specs of several outputs and rows: what is within, what holds what, primes, growing, all primes in order. No program in it.
-/
import Derived.Test.YtpamgfbecgjjeaaRef12
namespace Go.Proofs.Ytpamgfbecgjjeaa
set_option linter.unusedVariables false
set_option linter.unusedSimpArgs false
open Go Go.RowKit

/-! ### Specs -/
structure Sp where
  n : Int
  on : List Nat
  may : List Nat
def onP (S : Sp) (k : Nat) : Nat := S.on.getD k 0
def mayP (S : Sp) (k : Nat) : Nat := S.may.getD k 0
def rightS (S : Sp) : Bool :=
  decide (0 ≤ S.n) && (decide (S.n ≤ 8) && (decide (1 ≤ S.on.length) && (decide (S.on.length ≤ 4) && (decide (S.on.length = S.may.length) &&
    (List.range S.on.length).all fun k => withinB (onP S k) (mayP S k) && withinB (mayP S k) (allS S.n.toNat)))))
theorem rightS_iff {S : Sp} : rightS S = true ↔ 0 ≤ S.n ∧ S.n ≤ 8 ∧ 1 ≤ S.on.length ∧ S.on.length ≤ 4 ∧ S.on.length = S.may.length ∧ ∀ k, k < S.on.length → withinB (onP S k) (mayP S k) = true ∧ withinB (mayP S k) (allS S.n.toNat) = true := by
  unfold rightS
  simp only [Bool.and_eq_true, decide_eq_true_eq, List.all_eq_true, List.mem_range]
theorem right_f {S : Sp} (h : ¬ (0 ≤ S.n ∧ S.n ≤ 8 ∧ 1 ≤ S.on.length ∧ S.on.length ≤ 4 ∧ S.on.length = S.may.length)) : Value.bool false = .bool (rightS S) :=
  congrArg Value.bool (Bool.eq_false_iff.2 fun hr => h (by
    obtain ⟨h1, h2, h3, h4, h5, _⟩ := rightS_iff.1 hr
    exact ⟨h1, h2, h3, h4, h5⟩)).symm
theorem right_k {S : Sp} {k : Nat} (hk : k < S.on.length) (h : ¬ (withinB (onP S k) (mayP S k) = true ∧ withinB (mayP S k) (allS S.n.toNat) = true)) : Value.bool false = .bool (rightS S) :=
  congrArg Value.bool (Bool.eq_false_iff.2 fun hr => h ((rightS_iff.1 hr).2.2.2.2.2 k hk)).symm
theorem right_t {S : Sp} (h : 0 ≤ S.n ∧ S.n ≤ 8 ∧ 1 ≤ S.on.length ∧ S.on.length ≤ 4 ∧ S.on.length = S.may.length) (hk : ∀ k, k < S.on.length → withinB (onP S k) (mayP S k) = true ∧ withinB (mayP S k) (allS S.n.toNat) = true) : Value.bool true = .bool (rightS S) :=
  congrArg Value.bool (rightS_iff.2 ⟨h.1, h.2.1, h.2.2.1, h.2.2.2.1, h.2.2.2.2, hk⟩).symm

/-- The outputs, of the first k, for which a cube is within. -/
def outsTo (S : Sp) (c : Cb) : Nat → Nat
  | 0 => 0
  | k + 1 => if wiB c.m c.v (mayP S k) S.n = true then outsTo S c k ||| 1 * 2 ^ k else outsTo S c k
abbrev outsS (S : Sp) (c : Cb) : Nat := outsTo S c S.may.length
theorem outs_t {S : Sp} {c : Cb} {k : Nat} (h : wiB c.m c.v (mayP S k) S.n = true) : outsTo S c k ||| 1 * 2 ^ k = outsTo S c (k + 1) := (if_pos h).symm
theorem outs_f {S : Sp} {c : Cb} {k : Nat} (h : wiB c.m c.v (mayP S k) S.n = false) : outsTo S c k = outsTo S c (k + 1) := (if_neg (by rw [h]; decide)).symm
theorem outsTo_testBit {S : Sp} {c : Cb} {j : Nat} : ∀ k, (outsTo S c k).testBit j = true ↔ j < k ∧ wiB c.m c.v (mayP S j) S.n = true
  | 0 => by simp [outsTo]
  | k + 1 => by
    rw [outsTo]
    split
    · rename_i h
      rw [Nat.one_mul, Nat.testBit_or, Nat.testBit_two_pow, Bool.or_eq_true, outsTo_testBit k, decide_eq_true_eq]
      constructor
      · rintro (⟨h1, h2⟩ | rfl)
        · exact ⟨by omega, h2⟩
        · exact ⟨by omega, h⟩
      · rintro ⟨h1, h2⟩
        rcases Nat.lt_succ_iff_lt_or_eq.1 h1 with h1 | h1
        · exact .inl ⟨h1, h2⟩
        · exact .inr h1.symm
    · rename_i h
      rw [outsTo_testBit k]
      constructor
      · rintro ⟨h1, h2⟩; exact ⟨by omega, h2⟩
      · rintro ⟨h1, h2⟩
        rcases Nat.lt_succ_iff_lt_or_eq.1 h1 with h1 | rfl
        · exact ⟨h1, h2⟩
        · exact absurd h2 h
theorem outsTo_lt (S : Sp) (c : Cb) (k : Nat) : outsTo S c k < 2 ^ k := lt_two.2 fun j hj => Bool.eq_false_iff.2 fun h => by
  have := ((outsTo_testBit k).1 h).1
  omega
theorem pow4 {k : Nat} (h : k ≤ 4) : 2 ^ k ≤ 16 := by
  have h2 : 2 ^ k ≤ 2 ^ 4 := Nat.pow_le_pow_right (by decide) h
  simpa using h2

/-- Is a row within? -/
def inR (S : Sp) (x : Rw) : Bool := rightS S && (decide (0 < x.o) && decide (andNot x.o (outsS S x.c) = 0))
theorem andNot_iff {a b : Nat} : andNot a b = 0 ↔ ∀ j, a.testBit j = true → b.testBit j = true := by
  constructor
  · intro h j hj
    have h2 := congrArg (fun x => x.testBit j) h
    simp only [andNot_testBit, Nat.zero_testBit, hj, Bool.true_and] at h2
    simpa using h2
  · intro h
    refine Nat.eq_of_testBit_eq fun j => ?_
    rw [andNot_testBit, Nat.zero_testBit]
    cases ha : a.testBit j with
    | false => rfl
    | true => rw [h j ha]; rfl
theorem inR_iff {S : Sp} {x : Rw} : inR S x = true ↔ rightS S = true ∧ 0 < x.o ∧ ∀ j, x.o.testBit j = true → j < S.may.length ∧ wiB x.c.m x.c.v (mayP S j) S.n = true := by
  unfold inR
  rw [Bool.and_eq_true, Bool.and_eq_true, decide_eq_true_eq, decide_eq_true_eq, andNot_iff]
  simp only [outsTo_testBit]
theorem inR_lt {S : Sp} {x : Rw} (h : inR S x = true) : x.o < 2 ^ S.may.length ∧ x.o < 16 := by
  obtain ⟨h1, _, h3⟩ := inR_iff.1 h
  obtain ⟨_, _, _, h4, h5, _⟩ := rightS_iff.1 h1
  have : x.o < 2 ^ S.may.length := lt_two.2 fun j hj => Bool.eq_false_iff.2 fun hb => by have := (h3 j hb).1; omega
  have := pow4 (k := S.may.length) (by omega)
  omega
theorem exists_bit {a : Nat} (h : 0 < a) : ∃ j, a.testBit j = true := Classical.byContradiction fun hn => by
  have : a = 0 := Nat.eq_of_testBit_eq fun j => by rw [Nat.zero_testBit]; exact Bool.eq_false_iff.2 fun hb => hn ⟨j, hb⟩
  omega
theorem inR_right {S : Sp} {x : Rw} (h : inR S x = true) : rightB x.c.m x.c.v S.n = true := by
  obtain ⟨_, h2, h3⟩ := inR_iff.1 h
  obtain ⟨j, hj⟩ := exists_bit h2
  exact wiB_right (h3 j hj).2

/-! ### What some outputs have in common -/
def comTo (S : Sp) (o : Nat) : Nat → Nat
  | 0 => allS S.n.toNat
  | k + 1 => if o.testBit k = true then comTo S o k &&& mayP S k else comTo S o k
abbrev comS (S : Sp) (o : Nat) : Nat := comTo S o S.may.length
theorem com_t {S : Sp} {o k : Nat} (h : o.testBit k = true) : comTo S o k &&& mayP S k = comTo S o (k + 1) := (if_pos h).symm
theorem com_f {S : Sp} {o k : Nat} (h : ¬ o.testBit k = true) : comTo S o k = comTo S o (k + 1) := (if_neg h).symm
theorem comTo_testBit {S : Sp} {o p : Nat} : ∀ k, (comTo S o k).testBit p = true ↔ p < 2 ^ S.n.toNat ∧ ∀ j, j < k → o.testBit j = true → (mayP S j).testBit p = true
  | 0 => by simp [comTo, allS_testBit]
  | k + 1 => by
    rw [comTo]
    split
    · rename_i h
      rw [Nat.testBit_and, Bool.and_eq_true, comTo_testBit k]
      constructor
      · rintro ⟨⟨h1, h2⟩, h3⟩
        refine ⟨h1, fun j hj ho => ?_⟩
        rcases Nat.lt_succ_iff_lt_or_eq.1 hj with hj | rfl
        · exact h2 j hj ho
        · exact h3
      · rintro ⟨h1, h2⟩
        exact ⟨⟨h1, fun j hj ho => h2 j (by omega) ho⟩, h2 k (by omega) h⟩
    · rename_i h
      rw [comTo_testBit k]
      constructor
      · rintro ⟨h1, h2⟩
        refine ⟨h1, fun j hj ho => ?_⟩
        rcases Nat.lt_succ_iff_lt_or_eq.1 hj with hj | rfl
        · exact h2 j hj ho
        · exact absurd ho h
      · rintro ⟨h1, h2⟩
        exact ⟨h1, fun j hj ho => h2 j (by omega) ho⟩
theorem com_of {S : Sp} (hr : rightS S = true) (o : Nat) : ofB (comS S o) S.n = true := by
  obtain ⟨h0, h8, _⟩ := rightS_iff.1 hr
  unfold ofB
  rw [decide_eq_true h0, decide_eq_true h8, Bool.true_and, Bool.true_and, withinB_iff]
  intro p _ h
  rw [allS_testBit]
  simpa using ((comTo_testBit _).1 h).1
theorem com_wi {S : Sp} {c : Cb} {o : Nat} : wiB c.m c.v (comS S o) S.n = true ↔ rightB c.m c.v S.n = true ∧ ∀ j, j < S.may.length → o.testBit j = true → wiB c.m c.v (mayP S j) S.n = true := by
  have e1 := imp_iff (s := comS S o) (n := S.n) (c := c)
  have e2 := fun j => imp_iff (s := mayP S j) (n := S.n) (c := c)
  unfold imp at e1 e2
  rw [e1]
  constructor
  · rintro ⟨h1, h2⟩
    exact ⟨h1, fun j hj ho => (e2 j).2 ⟨h1, fun p hp hc => ((comTo_testBit _).1 (h2 p hp hc)).2 j hj ho⟩⟩
  · rintro ⟨h1, h2⟩
    exact ⟨h1, fun p hp hc => (comTo_testBit _).2 ⟨hp, fun j hj ho => ((e2 j).1 (h2 j hj ho)).2 p hp hc⟩⟩
/-- A row is within, just if its cube is within what its outputs have in common. -/
theorem inR_com {S : Sp} {x : Rw} : inR S x = true ↔ rightS S = true ∧ 0 < x.o ∧ x.o < 2 ^ S.may.length ∧ wiB x.c.m x.c.v (comS S x.o) S.n = true := by
  constructor
  · intro h
    obtain ⟨h1, h2, h3⟩ := inR_iff.1 h
    exact ⟨h1, h2, (inR_lt h).1, com_wi.2 ⟨inR_right h, fun j _ hj => (h3 j hj).2⟩⟩
  · rintro ⟨h1, h2, h3, h4⟩
    refine inR_iff.2 ⟨h1, h2, fun j hj => ?_⟩
    have hlt : j < S.may.length := Classical.byContradiction fun hn => by
      rw [lt_two.1 h3 j (by omega)] at hj; cases hj
    exact ⟨hlt, (com_wi.1 h4).2 j hlt hj⟩

/-! ### Primes -/
/-- The cubes without a literal, of the first k, that are still within. -/
def wideTo (S : Sp) (x : Rw) : Nat → List Cb
  | 0 => []
  | k + 1 => if ¬ woC x.c k = x.c ∧ inR S ⟨woC x.c k, x.o⟩ = true then wideTo S x k ++ [woC x.c k] else wideTo S x k
theorem wide_none {S : Sp} {x : Rw} : ∀ k, (wideTo S x k).length = 0 ↔ ∀ i, i < k → ¬ (¬ woC x.c i = x.c ∧ inR S ⟨woC x.c i, x.o⟩ = true)
  | 0 => by simp [wideTo]
  | k + 1 => by
    have ih := wide_none (S := S) (x := x) k
    rw [wideTo]
    split
    · rename_i h
      simp only [List.length_append, List.length_cons, List.length_nil]
      constructor
      · intro h2; omega
      · intro h2; exact absurd h (h2 k (by omega))
    · rename_i h
      rw [ih]
      constructor
      · intro h2 i hi
        rcases Nat.lt_succ_iff_lt_or_eq.1 hi with hi | rfl
        · exact h2 i hi
        · exact h
      · intro h2 i hi; exact h2 i (by omega)
def primeR (S : Sp) (x : Rw) : Bool := inR S x && (decide (outsS S x.c = x.o) && decide ((wideTo S x S.n.toNat).length = 0))
theorem wo_same {c : Cb} {i : Nat} (hi : i < 8) (hv : c.v &&& c.m = c.v) : woC c i = c ↔ c.m.testBit i = false := by
  have hw := fun j => woM_testBit (m := c.m) hi j
  constructor
  · intro h
    have h1 : woM c.m (i : Int) = c.m := congrArg Cb.m h
    have := hw i
    rw [h1] at this
    cases hb : c.m.testBit i with
    | false => rfl
    | true => rw [hb] at this; simp at this
  · intro h
    have h1 : woM c.m (i : Int) = c.m := Nat.eq_of_testBit_eq fun j => by
      rw [hw]
      by_cases e : j = i
      · subst e; rw [h]; rfl
      · simp [e]
    unfold woC
    rw [h1, hv]
theorem primeR_iff {S : Sp} {x : Rw} : primeR S x = true ↔ inR S x = true ∧ outsS S x.c = x.o ∧ primeB x.c.m x.c.v (comS S x.o) S.n = true := by
  unfold primeR
  rw [Bool.and_eq_true, Bool.and_eq_true, decide_eq_true_eq, decide_eq_true_eq, wide_none]
  constructor
  · rintro ⟨h1, h2, h3⟩
    refine ⟨h1, h2, primeB_iff.2 ⟨(inR_com.1 h1).2.2.2, fun i hi => Bool.eq_false_iff.2 fun hs => ?_⟩⟩
    obtain ⟨h0, h8, hm, hv⟩ := rightB_iff.1 (inR_right h1)
    unfold shrinks at hs
    rw [Bool.and_eq_true] at hs
    refine h3 i hi ⟨fun he => ?_, inR_com.2 ⟨(inR_com.1 h1).1, (inR_com.1 h1).2.1, (inR_com.1 h1).2.2.1, hs.2⟩⟩
    rw [(wo_same (by omega) hv).1 he] at hs
    cases hs.1
  · rintro ⟨h1, h2, h3⟩
    refine ⟨h1, h2, fun i hi ⟨g1, g2⟩ => ?_⟩
    obtain ⟨h0, h8, hm, hv⟩ := rightB_iff.1 (inR_right h1)
    have hs := (primeB_iff.1 h3).2 i hi
    unfold shrinks at hs
    have hb : x.c.m.testBit i = true := Classical.byContradiction fun hn => g1 ((wo_same (by omega) hv).2 (Bool.eq_false_iff.2 hn))
    have hw : wiB (woM x.c.m (i : Int)) (x.c.v &&& woM x.c.m (i : Int)) (comS S x.o) S.n = true := (inR_com.1 g2).2.2.2
    rw [hb, hw] at hs
    cases hs

/-! ### Growing -/
/-! ### All primes, in order -/
def ltR (a b : Rw) : Bool := decide (a.o < b.o) || (decide (a.o = b.o) && ltC a.c b.c)
theorem ltR_iff {a b : Rw} : ltR a b = true ↔ a.o < b.o ∨ a.o = b.o ∧ (a.c.m < b.c.m ∨ a.c.m = b.c.m ∧ a.c.v < b.c.v) := by
  unfold ltR
  rw [Bool.or_eq_true, Bool.and_eq_true, decide_eq_true_eq, decide_eq_true_eq, ltC_iff]
def RisingR (l : List Rw) : Prop := l.Pairwise fun a b => ltR a b = true
theorem ltR_irrefl (a : Rw) : ltR a a = false := Bool.eq_false_iff.2 fun h => by rw [ltR_iff] at h; omega
theorem ltR_trans {a b c : Rw} (h : ltR a b = true) (k : ltR b c = true) : ltR a c = true := by
  rw [ltR_iff] at *; omega
/-- The rows of some outputs, of the first k primes of what they have in common. -/
def rowsTo (S : Sp) (o : Nat) : Nat → List Rw
  | 0 => []
  | k + 1 => if outsS S ((primesL (comS S o) S.n).getD k ⟨0, 0⟩) = o then rowsTo S o k ++ [⟨(primesL (comS S o) S.n).getD k ⟨0, 0⟩, o⟩] else rowsTo S o k
abbrev rowsO (S : Sp) (o : Nat) : List Rw := rowsTo S o (primesL (comS S o) S.n).length
/-- The rows of the outputs 1 .. o - 1. -/
def allTo (S : Sp) : Nat → List Rw
  | 0 => []
  | o + 1 => if o = 0 then [] else allTo S o ++ rowsO S o
abbrev allR (S : Sp) : List Rw := allTo S (2 ^ S.may.length)
theorem rowsTo_t {S : Sp} {o k : Nat} (h : outsS S ((primesL (comS S o) S.n).getD k ⟨0, 0⟩) = o) : rowsTo S o k ++ [⟨(primesL (comS S o) S.n).getD k ⟨0, 0⟩, o⟩] = rowsTo S o (k + 1) := (if_pos h).symm
theorem rowsTo_f {S : Sp} {o k : Nat} (h : ¬ outsS S ((primesL (comS S o) S.n).getD k ⟨0, 0⟩) = o) : rowsTo S o k = rowsTo S o (k + 1) := (if_neg h).symm
theorem allTo_succ {S : Sp} {o : Nat} (h : 0 < o) : allTo S o ++ rowsO S o = allTo S (o + 1) := (if_neg (by omega)).symm
theorem rowsTo_len (S : Sp) (o : Nat) : ∀ k, (rowsTo S o k).length ≤ k
  | 0 => by simp [rowsTo]
  | k + 1 => by
    have := rowsTo_len S o k
    rw [rowsTo]
    split <;> simp <;> omega
theorem allTo_len {S : Sp} (h8 : S.n ≤ 8) : ∀ o, (allTo S o).length ≤ o * 65536
  | 0 => by simp [allTo]
  | o + 1 => by
    have ih := allTo_len h8 o
    have h1 := rowsTo_len S o (primesL (comS S o) S.n).length
    have h2 := primesL_len (s := comS S o) h8
    rw [allTo]
    split
    · simp
    · simp only [List.length_append]; show (allTo S o).length + (rowsTo S o (primesL (comS S o) S.n).length).length ≤ _; omega
theorem mem_rowsTo {S : Sp} {o : Nat} {x : Rw} : ∀ k, x ∈ rowsTo S o k ↔ ∃ j, j < k ∧ x = ⟨(primesL (comS S o) S.n).getD j ⟨0, 0⟩, o⟩ ∧ outsS S x.c = o
  | 0 => by simp [rowsTo]
  | k + 1 => by
    rw [rowsTo]
    split
    · rename_i h
      rw [List.mem_append, List.mem_singleton, mem_rowsTo k]
      constructor
      · rintro (⟨j, hj, r⟩ | rfl)
        · exact ⟨j, by omega, r⟩
        · exact ⟨k, by omega, rfl, h⟩
      · rintro ⟨j, hj, r, r2⟩
        rcases Nat.lt_succ_iff_lt_or_eq.1 hj with hj | rfl
        · exact .inl ⟨j, hj, r, r2⟩
        · exact .inr r
    · rename_i h
      rw [mem_rowsTo k]
      constructor
      · rintro ⟨j, hj, r⟩; exact ⟨j, by omega, r⟩
      · rintro ⟨j, hj, r, r2⟩
        rcases Nat.lt_succ_iff_lt_or_eq.1 hj with hj | rfl
        · exact ⟨j, hj, r, r2⟩
        · subst r; exact absurd r2 h
theorem mem_rowsO {S : Sp} {o : Nat} {x : Rw} (hr : rightS S = true) (h0 : 0 < o) (ho : o < 2 ^ S.may.length) : x ∈ rowsO S o ↔ primeR S x = true ∧ x.o = o := by
  unfold rowsO
  rw [mem_rowsTo]
  constructor
  · rintro ⟨j, hj, rfl, h2⟩
    have hp := mem_primesL.1 (getD_mem (d := ⟨0, 0⟩) hj)
    have hin : inR S ⟨(primesL (comS S o) S.n).getD j ⟨0, 0⟩, o⟩ = true := inR_com.2 ⟨hr, h0, ho, (primeB_iff.1 hp).1⟩
    exact ⟨primeR_iff.2 ⟨hin, h2, hp⟩, rfl⟩
  · rintro ⟨h1, rfl⟩
    obtain ⟨g1, g2, g3⟩ := primeR_iff.1 h1
    obtain ⟨j, hj, he⟩ := mem_getD (d := ⟨0, 0⟩) (mem_primesL.2 g3)
    have he' : (primesL (comS S x.o) S.n).getD j ⟨0, 0⟩ = x.c := he
    exact ⟨j, hj, by rw [he'], g2⟩
theorem mem_allTo {S : Sp} {x : Rw} (hr : rightS S = true) : ∀ o, o ≤ 2 ^ S.may.length → (x ∈ allTo S o ↔ primeR S x = true ∧ x.o < o)
  | 0, _ => by simp [allTo]
  | o + 1, ho => by
    rw [allTo]
    split
    · rename_i h
      subst h
      constructor
      · intro h; cases h
      · rintro ⟨h1, h2⟩
        have := (inR_iff.1 (primeR_iff.1 h1).1).2.1
        omega
    · rename_i h
      rw [List.mem_append, mem_allTo hr o (by omega), mem_rowsO hr (by omega) (by omega)]
      constructor
      · rintro (⟨h1, h2⟩ | ⟨h1, h2⟩)
        · exact ⟨h1, by omega⟩
        · exact ⟨h1, by omega⟩
      · rintro ⟨h1, h2⟩
        rcases Nat.lt_succ_iff_lt_or_eq.1 h2 with h2 | h2
        · exact .inl ⟨h1, h2⟩
        · exact .inr ⟨h1, h2⟩
theorem mem_allR {S : Sp} {x : Rw} (hr : rightS S = true) : x ∈ allR S ↔ primeR S x = true := by
  rw [mem_allTo hr _ (Nat.le_refl _)]
  exact ⟨fun h => h.1, fun h => ⟨h, (inR_lt (primeR_iff.1 h).1).1⟩⟩
theorem rising_get {l : List Cb} (h : Rising l) {i j : Nat} (hij : i < j) (hj : j < l.length) : ltC (l.getD i ⟨0, 0⟩) (l.getD j ⟨0, 0⟩) = true := by
  have := List.pairwise_iff_getElem.1 h i j (by omega) hj hij
  simpa [List.getD_eq_getElem?_getD, List.getElem?_eq_getElem hj, List.getElem?_eq_getElem (show i < l.length by omega)] using this
theorem rising_rowsTo (S : Sp) (o : Nat) : ∀ k, k ≤ (primesL (comS S o) S.n).length → RisingR (rowsTo S o k)
  | 0, _ => by simp [rowsTo, RisingR]
  | k + 1, hk => by
    have ih := rising_rowsTo S o k (by omega)
    rw [rowsTo]
    split
    · refine List.pairwise_append.2 ⟨ih, by simp, fun a ha b hb => ?_⟩
      rw [List.mem_singleton] at hb
      subst hb
      obtain ⟨j, hj, rfl, _⟩ := (mem_rowsTo k).1 ha
      have := rising_get (rising_primesL (comS S o) S.n) hj (by omega)
      unfold ltR
      rw [this]
      simp
    · exact ih
theorem rowsO_o {S : Sp} {o : Nat} {x : Rw} (h : x ∈ rowsO S o) : x.o = o := by
  obtain ⟨_, _, rfl, _⟩ := (mem_rowsTo _).1 h
  rfl
theorem allTo_o {S : Sp} {x : Rw} : ∀ o, x ∈ allTo S o → x.o < o
  | 0, h => by simp [allTo] at h
  | o + 1, h => by
    rw [allTo] at h
    split at h
    · cases h
    · rcases List.mem_append.1 h with h | h
      · have := allTo_o o h; omega
      · have := rowsO_o h; omega
theorem rising_allTo (S : Sp) : ∀ o, RisingR (allTo S o)
  | 0 => by simp [allTo, RisingR]
  | o + 1 => by
    have ih := rising_allTo S o
    rw [allTo]
    split
    · simp [RisingR]
    · refine List.pairwise_append.2 ⟨ih, rising_rowsTo S o _ (Nat.le_refl _), fun a ha b hb => ?_⟩
      have h1 := allTo_o o ha
      have h2 := rowsO_o hb
      rw [ltR_iff]
      omega

/-! ### Sorting -/
/-- Where a row goes, among the first k. -/
def posR (l : List Rw) (x : Rw) : Nat → Nat
  | 0 => 0
  | i + 1 => if ltR x (l.getD i ⟨⟨0, 0⟩, 0⟩) = true then posR l x i else i + 1
def insR (l : List Rw) (x : Rw) : List Rw := l.take (posR l x l.length) ++ x :: l.drop (posR l x l.length)
def sortTo (l : List Rw) : Nat → List Rw
  | 0 => []
  | k + 1 => insR (sortTo l k) (l.getD k ⟨⟨0, 0⟩, 0⟩)
theorem posR_le (l : List Rw) (x : Rw) : ∀ k, posR l x k ≤ k
  | 0 => by simp [posR]
  | k + 1 => by
    have := posR_le l x k
    rw [posR]
    split <;> omega
theorem posR_step {l : List Rw} {x : Rw} {i : Nat} (h0 : 0 < i) (h : ltR x (l.getD (i - 1) ⟨⟨0, 0⟩, 0⟩) = true) : posR l x i = posR l x (i - 1) := by
  obtain ⟨j, rfl⟩ : ∃ j, i = j + 1 := ⟨i - 1, by omega⟩
  rw [posR, if_pos (by simpa using h)]; rfl
theorem posR_end {l : List Rw} {x : Rw} {i : Nat} (h : i = 0 ∨ ltR x (l.getD (i - 1) ⟨⟨0, 0⟩, 0⟩) = false) : posR l x i = i := by
  rcases h with rfl | h
  · rfl
  · cases i with
    | zero => rfl
    | succ j => rw [posR, if_neg (by simp at h; simp [h])]
theorem insR_len (l : List Rw) (x : Rw) : (insR l x).length = l.length + 1 := by
  have := posR_le l x l.length
  simp [insR]; omega
theorem sortTo_len (l : List Rw) : ∀ k, (sortTo l k).length = k
  | 0 => rfl
  | k + 1 => by rw [sortTo, insR_len, sortTo_len l k]
theorem sort_rising {l : List Rw} (h : RisingR l) : ∀ k, k ≤ l.length → sortTo l k = l.take k
  | 0, _ => rfl
  | k + 1, hk => by
    have ih := sort_rising h k (by omega)
    have e : l.getD k ⟨⟨0, 0⟩, 0⟩ = l[k] := by simp [show k < l.length by omega]
    have hp : posR (l.take k) l[k] (l.take k).length = (l.take k).length := posR_end (by
      by_cases h0 : (l.take k).length = 0
      · exact .inl h0
      · right
        have hl : (l.take k).length = k := by simp; omega
        rw [hl] at h0 ⊢
        have hlt := List.pairwise_iff_getElem.1 h (k - 1) k (by omega) (by omega) (by omega)
        have e2 : (l.take k).getD (k - 1) ⟨⟨0, 0⟩, 0⟩ = l[k - 1] := by
          simp [List.getD_eq_getElem?_getD, List.getElem?_take, show k - 1 < k by omega, List.getElem?_eq_getElem (show k - 1 < l.length by omega)]
        rw [e2]
        refine Bool.eq_false_iff.2 fun hb => ?_
        have := ltR_trans hlt hb
        rw [ltR_irrefl] at this
        cases this)
    rw [sortTo, ih, e, insR, hp, List.take_length, List.drop_length, List.take_succ_eq_append_getElem (by omega)]
theorem sort_allR (S : Sp) : sortTo (allR S) (allR S).length = allR S := by
  rw [sort_rising (rising_allTo S _) _ (Nat.le_refl _), List.take_length]

/-! ### What rows cover -/
end Go.Proofs.Ytpamgfbecgjjeaa
