/-
  Plain words for cubes within a set, and for primes. No program in it.
-/
import Derived.Test.YtnkaebjaeaecmaaDoorRef
import Derived.Test.YtnkaebjaeaecmaaDoorFrame
namespace Go.Proofs.YtnkaebjaeaecmaaDoor
set_option linter.unusedVariables false
set_option linter.unusedSimpArgs false
open Go Go.RowKit

/-! ### Sets of so many inputs -/
def ofB (s : Nat) (n : Int) : Bool := decide (0 ≤ n) && (decide (n ≤ 8) && withinB s (allS n.toNat))
theorem withinB_congr {s s' t t' : Nat} (h : ∀ p, p < 256 → s.testBit p = s'.testBit p) (h2 : ∀ p, p < 256 → t.testBit p = t'.testBit p) : withinB s t = withinB s' t' := by
  rw [Bool.eq_iff_iff, withinB_iff, withinB_iff]
  constructor
  · intro k p hp hs; rw [← h2 p hp]; exact k p hp (by rw [h p hp]; exact hs)
  · intro k p hp hs; rw [h2 p hp]; exact k p hp (by rw [← h p hp]; exact hs)
theorem within_bits {s : Nat} {n : Int} (h : n ≤ 8) : withinB s (bitsS (firstF (2 ^ n.toNat))) = withinB s (allS n.toNat) :=
  withinB_congr (fun _ _ => rfl) (bits_firstF (two_pow_le h))
theorem ofB_t {s : Nat} {n : Int} (h0 : 0 ≤ n) (h1 : n ≤ 8) : withinB s (bitsS (firstF (2 ^ n.toNat))) = ofB s n := by
  rw [within_bits h1, ofB, decide_eq_true h0, decide_eq_true h1]; rfl
theorem ofB_f {s : Nat} {n : Int} (h : ¬ 0 ≤ n ∨ ¬ n ≤ 8) : false = ofB s n := by
  unfold ofB
  rcases h with h | h
  · rw [decide_eq_false h]; rfl
  · rw [decide_eq_false h]; simp

/-! ### Cubes within a set -/
def wiB (m v s : Nat) (n : Int) : Bool := rightB m v n && withinB (ptsS m v n.toNat) s
theorem rightB_iff {m v : Nat} {n : Int} : rightB m v n = true ↔ 0 ≤ n ∧ n ≤ 8 ∧ m < 2 ^ n.toNat ∧ v &&& m = v := by
  unfold rightB
  simp only [Bool.and_eq_true, decide_eq_true_eq, andNot_zero]
theorem wiB_right {m v s : Nat} {n : Int} (h : wiB m v s n = true) : rightB m v n = true := (Bool.and_eq_true _ _ ▸ h : _ ∧ _).1
theorem wiB_t {m v s : Nat} {n : Int} (h : rightB m v n = true) : withinB (ptsS m (v &&& m) n.toNat) s = wiB m v s n := by
  rw [wiB, h, (rightB_iff.1 h).2.2.2]; rfl
theorem wiB_t' {m v s : Nat} {n : Int} (h : rightB m v n = true) : withinB (ptsS m v n.toNat) s = wiB m v s n := by
  rw [wiB, h]; rfl
theorem wiB_f {m v s : Nat} {n : Int} (h : rightB m v n = false) : false = wiB m v s n := by
  rw [wiB, h]; rfl

theorem woM_testBit {m i : Nat} (hi : i < 8) (j : Nat) : (woM m (i : Int)).testBit j = (m.testBit j && decide (j ≠ i)) := by
  unfold woM
  rw [if_pos (by omega), andNot_testBit, Int.toNat_natCast, Nat.testBit_two_pow]
  congr 1
  by_cases e : i = j
  · subst e; simp
  · have : ¬ j = i := fun h => e h.symm
    simp [e, this]
theorem woM_le (m : Nat) (i : Int) : woM m i ≤ m := by
  unfold woM
  split
  · exact andNot_le _ _
  · exact Nat.le_refl _
theorem lits_without {m v i : Nat} (hi : i < 8) : (litsS m v).set (i : Int).toNat 2 = litsS (woM m (i : Int)) v := by
  rw [Int.toNat_natCast]
  refine range_map_set _ _ (fun q hq hne => ?_) _ ?_
  · unfold lit
    have h := woM_testBit (m := m) hi q
    rw [bit_dec, bit_dec, decide_eq_true (show q ≠ i from hne), Bool.and_true] at h
    have h1 : woM m (i : Int) / 2 ^ q % 2 < 2 := Nat.mod_lt _ (by decide)
    have h2 : m / 2 ^ q % 2 < 2 := Nat.mod_lt _ (by decide)
    have h3 : woM m (i : Int) / 2 ^ q % 2 = m / 2 ^ q % 2 := by
      rw [Bool.eq_iff_iff] at h
      simp only [decide_eq_true_eq] at h
      omega
    rw [h3]
  · unfold lit
    have h := woM_testBit (m := m) hi i
    rw [bit_dec, decide_eq_false (show ¬ i ≠ i by simp), Bool.and_false, decide_eq_false_iff_not] at h
    have h1 : woM m (i : Int) / 2 ^ i % 2 < 2 := Nat.mod_lt _ (by decide)
    rw [if_pos (by omega)]
theorem cube_lits {m v : Nat} (hm : m < 256) (hv : v < 256) : maskTo (litsS m v) (litsS m v).length = m ∧ valTo (litsS m v) (litsS m v).length = v &&& m := by
  have h2 : v &&& m ≤ v := Nat.and_le_left
  rw [litsTo_len, mask_lits m v 8 (Nat.le_refl _), val_lits m v 8 (Nat.le_refl _)]
  exact ⟨Nat.mod_eq_of_lt (by simpa using hm), Nat.mod_eq_of_lt (by simp; omega)⟩

/-- The cube without a literal, as a value. -/
abbrev woV (m v : Nat) (i : Int) : Value := .agg #[.int .u8 ((woM m i : Nat) : Int), .int .u8 ((v &&& woM m i : Nat) : Int)]

def shrinks (m v s : Nat) (n : Int) (i : Nat) : Bool := m.testBit i && wiB (woM m (i : Int)) (v &&& woM m (i : Int)) s n
def primeB (m v s : Nat) (n : Int) : Bool := wiB m v s n && (List.range n.toNat).all fun i => !shrinks m v s n i
theorem primeB_iff {m v s : Nat} {n : Int} : primeB m v s n = true ↔ wiB m v s n = true ∧ ∀ i, i < n.toNat → shrinks m v s n i = false := by
  unfold primeB
  rw [Bool.and_eq_true, List.all_eq_true]
  simp only [List.mem_range, Bool.not_eq_true']
theorem primeB_f {m v s : Nat} {n : Int} (h : wiB m v s n = false) : false = primeB m v s n := by rw [primeB, h]; rfl
theorem primeB_n {m v s i : Nat} {n : Int} (hi : i < n.toNat) (h : shrinks m v s n i = true) : false = primeB m v s n := by
  symm
  refine Bool.eq_false_iff.2 fun hp => ?_
  have := (primeB_iff.1 hp).2 i hi
  rw [h] at this
  cases this
theorem primeB_t {m v s : Nat} {n : Int} (hw : wiB m v s n = true) (h : ∀ i, i < n.toNat → shrinks m v s n i = false) : true = primeB m v s n := (primeB_iff.2 ⟨hw, h⟩).symm
theorem lit_two {m v i : Nat} : lit m v i = 2 ↔ m.testBit i = false := by
  unfold lit
  rw [bit_dec, decide_eq_false_iff_not]
  have h1 : m / 2 ^ i % 2 < 2 := Nat.mod_lt _ (by decide)
  have h2 : v / 2 ^ i % 2 < 2 := Nat.mod_lt _ (by decide)
  split
  · simp; omega
  · omega
theorem shrinks_lit {m v s i : Nat} {n : Int} (hi : i < 8) (h : ¬ (litsS m v).getD (i : Int).toNat 0 = 2) (hw : wiB (woM m (i : Int)) (v &&& woM m (i : Int)) s n = true) : shrinks m v s n i = true := by
  rw [Int.toNat_natCast, litsTo_get hi, lit_two, Bool.not_eq_false] at h
  rw [shrinks, h, hw]; rfl
theorem shrinks_not {m v s i : Nat} {n : Int} (hi : i < 8) (h : ¬ ¬ (litsS m v).getD (i : Int).toNat 0 = 2 ∨ wiB (woM m (i : Int)) (v &&& woM m (i : Int)) s n = false) : shrinks m v s n i = false := by
  rw [Int.toNat_natCast, litsTo_get hi, lit_two, Bool.not_eq_false] at h
  unfold shrinks
  rcases h with h | h
  · rw [Bool.eq_false_iff.2 h]; rfl
  · rw [h, Bool.and_false]
theorem shr_bit {m i : Nat} : (((m / 2 ^ i &&& 1 : Nat) : Int) = 1) ↔ m.testBit i = true := by
  rw [and_one, bit_dec, decide_eq_true_eq]
  omega

/-! ### Growing -/
def growTo (s : Nat) (n : Int) (c : Cb) : Nat → Cb
  | 0 => c
  | i + 1 =>
    let d := growTo s n c i
    if wiB (woM d.m (i : Int)) (d.v &&& woM d.m (i : Int)) s n = true then ⟨woM d.m (i : Int), d.v &&& woM d.m (i : Int)⟩ else d
theorem growTo_t {s i : Nat} {n : Int} {c : Cb} (h : wiB (woM (growTo s n c i).m (i : Int)) ((growTo s n c i).v &&& woM (growTo s n c i).m (i : Int)) s n = true) :
    growTo s n c (i + 1) = ⟨woM (growTo s n c i).m (i : Int), (growTo s n c i).v &&& woM (growTo s n c i).m (i : Int)⟩ := by
  simp only [growTo]; rw [if_pos h]
theorem growTo_f {s i : Nat} {n : Int} {c : Cb} (h : wiB (woM (growTo s n c i).m (i : Int)) ((growTo s n c i).v &&& woM (growTo s n c i).m (i : Int)) s n = false) : growTo s n c (i + 1) = growTo s n c i := by
  simp only [growTo]; rw [if_neg (by rw [h]; decide)]
theorem growTo_lt {s : Nat} {n : Int} {c : Cb} (h : c.m < 256 ∧ c.v < 256) : ∀ i, (growTo s n c i).m < 256 ∧ (growTo s n c i).v < 256
  | 0 => h
  | i + 1 => by
    have ih := growTo_lt (s := s) (n := n) h i
    simp only [growTo]
    split
    · exact ⟨Nat.lt_of_le_of_lt (woM_le _ _) ih.1, Nat.lt_of_le_of_lt Nat.and_le_left ih.2⟩
    · exact ih
def growS (s : Nat) (n : Int) (c : Cb) : Cb := growTo s n c n.toNat

/-! ### The order, and all primes in it -/
def ltC (a b : Cb) : Bool := decide (a.m < b.m) || decide (a.m = b.m) && decide (a.v < b.v)
def codeC (c : Cb) : Nat := c.m * 256 + c.v
/-- A row's primes from value 0 up to (and without) value k, of mask m. -/
def primesV (s : Nat) (n : Int) (m : Nat) : Nat → List Cb
  | 0 => []
  | k + 1 => if primeB m k s n = true then primesV s n m k ++ [⟨m, k⟩] else primesV s n m k
def primesM (s : Nat) (n : Int) : Nat → List Cb
  | 0 => []
  | k + 1 => primesM s n k ++ primesV s n k (2 ^ n.toNat)
def primesL (s : Nat) (n : Int) : List Cb := primesM s n (2 ^ n.toNat)
theorem primesV_len (s : Nat) (n : Int) (m : Nat) : ∀ k, (primesV s n m k).length ≤ k
  | 0 => by simp [primesV]
  | k + 1 => by
    have := primesV_len s n m k
    simp only [primesV]
    split <;> simp <;> omega
theorem primesM_len (s : Nat) (n : Int) : ∀ k, (primesM s n k).length ≤ k * 2 ^ n.toNat
  | 0 => by simp [primesM]
  | k + 1 => by
    have := primesM_len s n k
    have h2 := primesV_len s n k (2 ^ n.toNat)
    simp only [primesM, List.length_append, Nat.add_mul, Nat.one_mul]
    omega
theorem mem_primesV {s m : Nat} {n : Int} {c : Cb} : ∀ k, c ∈ primesV s n m k ↔ c.m = m ∧ c.v < k ∧ primeB c.m c.v s n = true
  | 0 => by simp [primesV]
  | k + 1 => by
    have ih := mem_primesV (s := s) (m := m) (n := n) (c := c) k
    obtain ⟨cm, cv⟩ := c
    simp only [primesV]
    split
    · rename_i h
      simp only [List.mem_append, List.mem_singleton, ih, Cb.mk.injEq]
      constructor
      · rintro (⟨h1, h2, h3⟩ | ⟨rfl, rfl⟩)
        · exact ⟨h1, Nat.lt_succ_of_lt h2, h3⟩
        · exact ⟨rfl, Nat.lt_succ_self _, h⟩
      · rintro ⟨h1, h2, h3⟩
        rcases Nat.lt_succ_iff_lt_or_eq.1 h2 with h2 | h2
        · exact .inl ⟨h1, h2, h3⟩
        · exact .inr ⟨h1, h2⟩
    · rename_i h
      rw [ih]
      constructor
      · rintro ⟨h1, h2, h3⟩; exact ⟨h1, Nat.lt_succ_of_lt h2, h3⟩
      · rintro ⟨h1, h2, h3⟩
        refine ⟨h1, ?_, h3⟩
        rcases Nat.lt_succ_iff_lt_or_eq.1 h2 with h2 | h2
        · exact h2
        · subst h1; subst h2; exact absurd h3 h
theorem mem_primesM {s : Nat} {n : Int} {c : Cb} : ∀ k, c ∈ primesM s n k ↔ c.m < k ∧ c.v < 2 ^ n.toNat ∧ primeB c.m c.v s n = true
  | 0 => by simp [primesM]
  | k + 1 => by
    simp only [primesM, List.mem_append, mem_primesM k, mem_primesV]
    constructor
    · rintro (⟨h1, h2, h3⟩ | ⟨h1, h2, h3⟩)
      · exact ⟨by omega, h2, h3⟩
      · exact ⟨by omega, h2, h3⟩
    · rintro ⟨h1, h2, h3⟩
      rcases Nat.lt_succ_iff_lt_or_eq.1 h1 with h1 | h1
      · exact .inl ⟨h1, h2, h3⟩
      · exact .inr ⟨h1, h2, h3⟩
theorem right_lt {m v : Nat} {n : Int} (h : rightB m v n = true) : m < 2 ^ n.toNat ∧ v < 2 ^ n.toNat := by
  have h1 := rightB_iff.1 h
  have h2 : v &&& m ≤ m := Nat.and_le_right
  rw [h1.2.2.2] at h2
  exact ⟨h1.2.2.1, by omega⟩
theorem prime_right {m v s : Nat} {n : Int} (h : primeB m v s n = true) : rightB m v n = true := wiB_right (primeB_iff.1 h).1
theorem mem_primesL {s : Nat} {n : Int} {c : Cb} : c ∈ primesL s n ↔ primeB c.m c.v s n = true := by
  unfold primesL
  rw [mem_primesM]
  exact ⟨fun h => h.2.2, fun h => ⟨(right_lt (prime_right h)).1, (right_lt (prime_right h)).2, h⟩⟩

def Rising (l : List Cb) : Prop := l.Pairwise fun a b => ltC a b = true
theorem ltC_iff {a b : Cb} : ltC a b = true ↔ a.m < b.m ∨ a.m = b.m ∧ a.v < b.v := by
  simp [ltC]
theorem ltC_trans {a b c : Cb} (h : ltC a b = true) (k : ltC b c = true) : ltC a c = true := by
  rw [ltC_iff] at *
  omega
theorem ltC_irrefl (a : Cb) : ltC a a = false := by
  refine Bool.eq_false_iff.2 fun h => ?_
  rw [ltC_iff] at h
  omega
theorem ltC_total {a b : Cb} (h : ltC a b = false) (hne : a ≠ b) : ltC b a = true := by
  rw [ltC_iff]
  have h1 : ¬ (a.m < b.m ∨ a.m = b.m ∧ a.v < b.v) := fun k => by rw [ltC_iff.2 k] at h; cases h
  have h2 : ¬ (a.m = b.m ∧ a.v = b.v) := fun ⟨k, k2⟩ => hne (by cases a; cases b; simp_all)
  omega
theorem rising_primesV (s : Nat) (n : Int) (m : Nat) : ∀ k, Rising (primesV s n m k)
  | 0 => by simp [primesV, Rising]
  | k + 1 => by
    have ih := rising_primesV s n m k
    simp only [primesV]
    split
    · refine List.pairwise_append.2 ⟨ih, by simp, fun a ha b hb => ?_⟩
      simp at hb
      subst hb
      have := (mem_primesV k).1 ha
      rw [ltC_iff]
      exact .inr ⟨this.1, this.2.1⟩
    · exact ih
theorem rising_primesM (s : Nat) (n : Int) : ∀ k, Rising (primesM s n k)
  | 0 => by simp [primesM, Rising]
  | k + 1 => by
    refine List.pairwise_append.2 ⟨rising_primesM s n k, rising_primesV s n k _, fun a ha b hb => ?_⟩
    have h1 := (mem_primesM k).1 ha
    have h2 := (mem_primesV _).1 hb
    rw [ltC_iff]
    exact .inl (by omega)
theorem rising_primesL (s : Nat) (n : Int) : Rising (primesL s n) := rising_primesM s n _

/-- Rows that rise are the same, if they have the same cubes. -/
theorem rising_ext : ∀ {l l' : List Cb}, Rising l → Rising l' → (∀ c, c ∈ l ↔ c ∈ l') → l = l'
  | [], [], _, _, _ => rfl
  | [], b :: r, _, _, h => by have := (h b).2 (by simp); simp at this
  | a :: l, [], _, _, h => by have := (h a).1 (by simp); simp at this
  | a :: l, b :: r, h1, h2, h => by
    obtain ⟨p1, q1⟩ := List.pairwise_cons.1 h1
    obtain ⟨p2, q2⟩ := List.pairwise_cons.1 h2
    have hab : a = b := by
      refine Decidable.byContradiction fun hne => ?_
      have ha : a ∈ r := ((List.mem_cons.1 ((h a).1 (by simp))).resolve_left hne)
      have hb : b ∈ l := ((List.mem_cons.1 ((h b).2 (by simp))).resolve_left (fun e => hne e.symm))
      have := ltC_trans (p1 b hb) (p2 a ha)
      rw [ltC_irrefl] at this
      cases this
    subst hab
    congr 1
    refine rising_ext q1 q2 fun c => ?_
    constructor
    · intro hc
      rcases List.mem_cons.1 ((h c).1 (by simp [hc])) with e | hc'
      · subst e; have := p1 c hc; rw [ltC_irrefl] at this; cases this
      · exact hc'
    · intro hc
      rcases List.mem_cons.1 ((h c).2 (by simp [hc])) with e | hc'
      · subst e; have := p2 c hc; rw [ltC_irrefl] at this; cases this
      · exact hc'

/-! ### Putting a cube among others -/
def posC (l : List Cb) (c : Cb) : Nat → Nat
  | 0 => 0
  | i + 1 => if ltC (l.getD i ⟨0, 0⟩) c = true then i + 1 else posC l c i
def insC (l : List Cb) (c : Cb) : List Cb := l.take (posC l c l.length) ++ c :: l.drop (posC l c l.length)
theorem posC_le (l : List Cb) (c : Cb) : ∀ k, posC l c k ≤ k
  | 0 => by simp [posC]
  | k + 1 => by
    have := posC_le l c k
    simp only [posC]
    split <;> omega
theorem insC_len (l : List Cb) (c : Cb) : (insC l c).length = l.length + 1 := by
  have := posC_le l c l.length
  simp [insC]
  omega
theorem mem_insC {l : List Cb} {c d : Cb} : d ∈ insC l c ↔ d = c ∨ d ∈ l := by
  unfold insC
  rw [List.mem_append, List.mem_cons]
  conv => rhs; rw [← List.take_append_drop (posC l c l.length) l, List.mem_append]
  constructor
  · rintro (h | h | h)
    · exact .inr (.inl h)
    · exact .inl h
    · exact .inr (.inr h)
  · rintro (h | h | h)
    · exact .inr (.inl h)
    · exact .inl h
    · exact .inr (.inr h)
theorem posC_spec (l : List Cb) (c : Cb) : ∀ k, (∀ j, posC l c k ≤ j → j < k → ltC (l.getD j ⟨0, 0⟩) c = false) ∧ (posC l c k = 0 ∨ ltC (l.getD (posC l c k - 1) ⟨0, 0⟩) c = true)
  | 0 => by simp [posC]
  | k + 1 => by
    have ih := posC_spec l c k
    simp only [posC]
    split
    · rename_i h
      exact ⟨fun j h1 h2 => by omega, .inr (by simpa using h)⟩
    · rename_i h
      refine ⟨fun j h1 h2 => ?_, ih.2⟩
      rcases Nat.lt_succ_iff_lt_or_eq.1 h2 with h2 | rfl
      · exact ih.1 j h1 h2
      · exact Bool.eq_false_iff.2 h
theorem rising_insC {l : List Cb} {c : Cb} (h : Rising l) (hc : c ∉ l) : Rising (insC l c) := by
  obtain ⟨h1, h2⟩ := posC_spec l c l.length
  have hp := posC_le l c l.length
  have hg := List.pairwise_iff_getElem.1 h
  unfold insC
  generalize posC l c l.length = k at *
  have hlow : ∀ a ∈ l.take k, ltC a c = true := fun a ha => by
    obtain ⟨i, hi, rfl⟩ := List.mem_iff_getElem.1 ha
    rw [List.length_take] at hi
    rw [List.getElem_take]
    rcases h2 with h2 | h2
    · omega
    · have hk : l.getD (k - 1) ⟨0, 0⟩ = l[k - 1]'(by omega) := by simp [show k - 1 < l.length by omega]
      rw [hk] at h2
      by_cases e : i = k - 1
      · subst e; exact h2
      · exact ltC_trans (hg i (k - 1) (by omega) (by omega) (by omega)) h2
  have hhigh : ∀ a ∈ l.drop k, ltC c a = true := fun a ha => by
    obtain ⟨i, hi, rfl⟩ := List.mem_iff_getElem.1 ha
    rw [List.length_drop] at hi
    rw [List.getElem_drop]
    have h3 := h1 (k + i) (by omega) (by omega)
    have hk : l.getD (k + i) ⟨0, 0⟩ = l[k + i]'(by omega) := by simp [show k + i < l.length by omega]
    rw [hk] at h3
    exact ltC_total h3 (fun e => hc (e ▸ List.getElem_mem _))
  have hs : Rising (l.take k ++ l.drop k) := by rw [List.take_append_drop]; exact h
  obtain ⟨s1, s2, s3⟩ := List.pairwise_append.1 hs
  refine List.pairwise_append.2 ⟨s1, List.pairwise_cons.2 ⟨hhigh, s2⟩, fun a ha b hb => ?_⟩
  rcases List.mem_cons.1 hb with rfl | hb
  · exact hlow a ha
  · exact s3 a ha b hb
theorem codeC_lt {a b : Cb} (ha : a.v < 256) (hb : b.v < 256) (h : ltC a b = true) : codeC a < codeC b := by
  rw [ltC_iff] at h
  unfold codeC
  omega
theorem rising_len : ∀ (l : List Cb) (B : Nat), Rising l → (∀ c ∈ l, c.v < 256) → (∀ c ∈ l, B ≤ codeC c ∧ codeC c < 65536) → l.length + B ≤ 65536 ∨ l = []
  | [], _, _, _, _ => .inr rfl
  | a :: l, B, h, hv, hb => by
    obtain ⟨p, q⟩ := List.pairwise_cons.1 h
    have h1 := hb a (by simp)
    rcases rising_len l (codeC a + 1) q (fun c hc => hv c (by simp [hc])) (fun c hc => ⟨codeC_lt (hv a (by simp)) (hv c (by simp [hc])) (p c hc), (hb c (by simp [hc])).2⟩) with h2 | rfl
    · left; simp; omega
    · left; simp; omega
theorem rising_small {l : List Cb} (h : Rising l) (hm : ∀ c ∈ l, c.m < 256 ∧ c.v < 256) : l.length ≤ 65536 := by
  rcases rising_len l 0 h (fun c hc => (hm c hc).2) (fun c hc => ⟨Nat.zero_le _, by have := hm c hc; unfold codeC; omega⟩) with h | rfl
  · omega
  · simp

/-! ### Cubes that hold others -/
def holdsB (a b : Cb) : Bool := decide (andNot a.m b.m = 0) && decide ((a.v ^^^ b.v) &&& a.m = 0)

theorem ptsTo_t {m u k : Nat} (h : ((k &&& m : Nat) : Int) = (u : Int)) : ptsTo m u (k + 1) = withS (ptsTo m u k) (k : Int) := if_pos (by omega)
theorem ptsTo_f {m u k : Nat} (h : ¬ ((k &&& m : Nat) : Int) = (u : Int)) : ptsTo m u (k + 1) = ptsTo m u k := if_neg (by omega)
theorem right_v1 {m u : Nat} {n : Int} (h0 : 0 ≤ n) (h8 : n ≤ 8) (h : (m : Int) < ((1 * 2 ^ n.toNat : Nat) : Int)) : decide (((andNot u m : Nat) : Int) = 0) = rightB m u n := by
  unfold rightB
  rw [decide_eq_true h0, decide_eq_true h8, decide_eq_true (show m < 2 ^ n.toNat by omega), Bool.eq_iff_iff]
  simp only [Bool.true_and, decide_eq_true_eq]
  omega
theorem right_v2 {m u : Nat} {n : Int} (h : ¬ (m : Int) < ((1 * 2 ^ n.toNat : Nat) : Int)) : false = rightB m u n := by
  unfold rightB
  rw [decide_eq_false (show ¬ m < 2 ^ n.toNat by omega)]
  simp
theorem holds_v1 {m u m2 u2 : Nat} (h : ((andNot m m2 : Nat) : Int) = 0) : decide ((((u ^^^ u2) &&& m : Nat) : Int) = 0) = holdsB ⟨m, u⟩ ⟨m2, u2⟩ := by
  unfold holdsB
  rw [decide_eq_true (show andNot m m2 = 0 by omega), Bool.eq_iff_iff]
  simp only [Bool.true_and, decide_eq_true_eq]
  omega
theorem holds_v2 {m u m2 u2 : Nat} (h : ¬ ((andNot m m2 : Nat) : Int) = 0) : false = holdsB ⟨m, u⟩ ⟨m2, u2⟩ := by
  unfold holdsB
  rw [decide_eq_false (show ¬ andNot m m2 = 0 by omega)]
  rfl
theorem xor_lt8 {a b : Nat} (ha : a < 2 ^ 8) (hb : b < 2 ^ 8) : a ^^^ b < topN .u8 := by
  have := Nat.xor_lt_two_pow ha hb
  simpa [topN] using this
theorem cb_eq {a b : Cb} (h : ¬ ¬ (((a.m : Nat) : Int) = (b.m : Int) ∧ ((a.v : Nat) : Int) = (b.v : Int))) : a = b := by
  obtain ⟨h1, h2⟩ := Decidable.not_not.1 h
  cases a
  cases b
  simp only [Cb.mk.injEq]
  simp only at h1 h2
  omega
theorem list_ext {l l2 : List Cb} (hn : l.length = l2.length) (h : ∀ q, q < l.length → l.getD q ⟨0, 0⟩ = l2.getD q ⟨0, 0⟩) : l = l2 := by
  refine List.ext_getElem hn fun i h1 h2 => ?_
  have := h i h1
  simpa [h1, h2] using this
theorem two_step (k : Nat) : ((2 ^ k : Nat) : Int) * 2 = ((2 ^ (k + 1) : Nat) : Int) := by
  rw [Nat.pow_succ]; push_cast; rfl

end Go.Proofs.YtnkaebjaeaecmaaDoor
