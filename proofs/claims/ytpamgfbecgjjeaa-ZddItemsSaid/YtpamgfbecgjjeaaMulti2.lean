/-
  Steps of the walks over specs and rows. No program in it.
-/
import Derived.Test.YtpamgfbecgjjeaaMulti
namespace Go.Proofs.Ytpamgfbecgjjeaa
set_option linter.unusedVariables false
set_option linter.unusedSimpArgs false
open Go Go.RowKit

theorem not_f {b : Bool} (h : (!b) = false) : b = true := by cases b <;> simp_all
theorem not_t {b : Bool} (h : (!b) = true) : b = false := by cases b <;> simp_all
theorem vb_t {b : Bool} (h : b = true) : Value.bool true = .bool b := by rw [h]
theorem vb_f {b : Bool} (h : ¬ b = true) : Value.bool false = .bool b := by rw [Bool.eq_false_iff.2 h]
theorem all_bounds {n er : Int} {sa : Nat} (h : (0 ≤ n ∧ n ≤ 8 ∧ sa = allS n.toNat ∧ er = 0) ∨ (¬ (0 ≤ n ∧ n ≤ 8) ∧ er = 1)) (h0 : ¬ ¬ er = 0) : 0 ≤ n ∧ n ≤ 8 ∧ sa = allS n.toNat := by
  rcases h with ⟨h1, h2, h3, _⟩ | ⟨_, h2⟩
  · exact ⟨h1, h2, h3⟩
  · omega
theorem all_no {n er : Int} {sa : Nat} (h : (0 ≤ n ∧ n ≤ 8 ∧ sa = allS n.toNat ∧ er = 0) ∨ (¬ (0 ≤ n ∧ n ≤ 8) ∧ er = 1)) (h0 : ¬ er = 0) : ¬ (0 ≤ n ∧ n ≤ 8) := by
  rcases h with ⟨_, _, _, h2⟩ | ⟨h1, _⟩
  · exact absurd h2 h0
  · exact h1
theorem bit_bool {o i : Nat} : decide (((o / 2 ^ i % 2 : Nat) : Int) = 1) = o.testBit i := by
  rw [bit_dec, dec_cast]
theorem shr_bool {m i : Nat} : decide (((m / 2 ^ i &&& 1 : Nat) : Int) = 1) = m.testBit i := by
  rw [Bool.eq_iff_iff, decide_eq_true_eq, shr_bit]

/-! ### Rows that may be -/
def someTo (o : Nat) : Nat → Bool
  | 0 => false
  | k + 1 => someTo o k || o.testBit k
theorem some_t {o k : Nat} (h : o.testBit k = true) : true = someTo o (k + 1) := by rw [someTo, h, Bool.or_true]
theorem some_f {o k : Nat} (h : o.testBit k = false) : someTo o k = someTo o (k + 1) := by rw [someTo, h, Bool.or_false]
theorem someTo_iff {o : Nat} : ∀ k, someTo o k = true ↔ ∃ j, j < k ∧ o.testBit j = true
  | 0 => by simp [someTo]
  | k + 1 => by
    rw [someTo, Bool.or_eq_true, someTo_iff k]
    constructor
    · rintro (⟨j, hj, h⟩ | h)
      · exact ⟨j, by omega, h⟩
      · exact ⟨k, by omega, h⟩
    · rintro ⟨j, hj, h⟩
      rcases Nat.lt_succ_iff_lt_or_eq.1 hj with hj | rfl
      · exact .inl ⟨j, hj, h⟩
      · exact .inr h
def okO (o outs : Nat) : Bool := decide (0 < o) && decide (o < 2 ^ outs)
theorem okO_iff {o outs : Nat} : okO o outs = true ↔ 0 < o ∧ o < 2 ^ outs := by unfold okO; rw [Bool.and_eq_true, decide_eq_true_eq, decide_eq_true_eq]
theorem okO_no {o outs k : Nat} (h : o.testBit k = true) (hk : outs ≤ k) : okO o outs = false := Bool.eq_false_iff.2 fun hh => by
  rw [lt_two.1 (okO_iff.1 hh).2 k hk] at h; cases h
theorem okO_all {o outs : Nat} (h8 : o < 256) (h : ∀ j, j < 8 → o.testBit j = true → j < outs) : okO o outs = someTo o 8 := by
  have hz : ∀ j, 8 ≤ j → o.testBit j = false := (lt_two (n := 8)).1 h8
  rw [Bool.eq_iff_iff, okO_iff, someTo_iff]
  constructor
  · rintro ⟨h1, _⟩
    obtain ⟨j, hj⟩ := exists_bit h1
    by_cases h8 : j < 8
    · exact ⟨j, h8, hj⟩
    · rw [hz j (by omega)] at hj; cases hj
  · rintro ⟨j, hj, hb⟩
    refine ⟨pos_bit hb, lt_two.2 fun i hi => Bool.eq_false_iff.2 fun hb2 => ?_⟩
    by_cases h8 : i < 8
    · have := h i h8 hb2; omega
    · rw [hz i (by omega)] at hb2; cases hb2

/-- Is a row within, the document's way? Of a spec that is right. -/
theorem refin_no {S : Sp} {m u o : Nat} (h : (okO o S.on.length && rightB m u S.n) = false) : Value.bool false = .bool (inR S ⟨⟨m, u⟩, o⟩) := vb_f fun hi => by
  have hr := (inR_iff.1 hi).1
  obtain ⟨_, _, _, _, h5, _⟩ := rightS_iff.1 hr
  rw [okO_iff.2 ⟨(inR_iff.1 hi).2.1, h5 ▸ (inR_lt hi).1⟩, inR_right hi] at h
  cases h
theorem refin_k {S : Sp} {m u o k : Nat} (hb : o.testBit k = true) (h : wiB m u (mayP S k) S.n = false) : Value.bool false = .bool (inR S ⟨⟨m, u⟩, o⟩) := vb_f fun hi => by
  have := ((inR_iff.1 hi).2.2 k hb).2
  rw [show wiB m u (mayP S k) S.n = true from this] at h
  cases h
theorem refin_t {S : Sp} {m u o : Nat} (hr : rightS S = true) (h : (okO o S.on.length && rightB m u S.n) = true) (hk : ∀ k, k < S.may.length → o.testBit k = true → wiB m u (mayP S k) S.n = true) : Value.bool true = .bool (inR S ⟨⟨m, u⟩, o⟩) := vb_t (by
  obtain ⟨_, _, _, _, h5, _⟩ := rightS_iff.1 hr
  rw [Bool.and_eq_true, okO_iff] at h
  refine inR_iff.2 ⟨hr, h.1.1, fun j hj => ?_⟩
  have hlt : j < S.may.length := Classical.byContradiction fun hn => by
    rw [lt_two.1 h.1.2 j (by omega)] at hj; cases hj
  exact ⟨hlt, hk j hlt hj⟩)
theorem in_v1 {S : Sp} {m u o : Nat} (h1 : rightS S = true) (h2 : (0 : Int) < (o : Int)) : decide (((andNot o (outsS S ⟨m, u⟩) : Nat) : Int) = 0) = inR S ⟨⟨m, u⟩, o⟩ := by
  unfold inR
  rw [h1, decide_eq_true (show 0 < o by omega), Bool.true_and, Bool.true_and, Bool.eq_iff_iff, decide_eq_true_eq, decide_eq_true_eq]
  exact Int.ofNat_inj
theorem in_v2 {S : Sp} {m u o : Nat} (h2 : ¬ (0 : Int) < (o : Int)) : ¬ inR S ⟨⟨m, u⟩, o⟩ = true := fun hi => by
  have h3 : 0 < o := (inR_iff.1 hi).2.1
  omega
theorem in_v3 {S : Sp} {x : Rw} (h2 : rightS S = false) : ¬ inR S x = true := fun hi => by
  have := (inR_iff.1 hi).1
  rw [h2] at this; cases this

/-! ### What holds what -/
theorem holdsR_v1 {m u o m2 u2 o2 : Nat} (h : holdsB ⟨m, u⟩ ⟨m2, u2⟩ = true) : decide (((andNot o2 o : Nat) : Int) = 0) = holdsR ⟨⟨m, u⟩, o⟩ ⟨⟨m2, u2⟩, o2⟩ := by
  unfold holdsR
  rw [h, Bool.true_and, Bool.eq_iff_iff, decide_eq_true_eq, decide_eq_true_eq]
  exact Int.ofNat_inj
theorem holdsR_v2 {m u o m2 u2 o2 : Nat} (h : holdsB ⟨m, u⟩ ⟨m2, u2⟩ = false) : false = holdsR ⟨⟨m, u⟩, o⟩ ⟨⟨m2, u2⟩, o2⟩ := by
  unfold holdsR; rw [h, Bool.false_and]
theorem holdsR_bit {x y : Rw} {k : Nat} (h1 : y.o.testBit k = true) (h2 : x.o.testBit k = false) : Value.bool false = .bool (holdsR x y) := vb_f fun h => by
  rw [(holdsR_iff.1 h).2 k h1] at h2; cases h2
theorem holdsR_all {x y : Rw} (h8 : y.o < 256) (h : ∀ j, j < 8 → y.o.testBit j = true → x.o.testBit j = true) : holdsB x.c y.c = holdsR x y := by
  have ha : andNot y.o x.o = 0 := andNot_iff.2 fun j hj => by
    by_cases hlt : j < 8
    · exact h j hlt hj
    · rw [(lt_two (n := 8)).1 h8 j (by omega)] at hj; cases hj
  unfold holdsR
  rw [ha, decide_eq_true rfl, Bool.and_true]
theorem lits_hold {a b : Cb} (ha : a.m < 256) : holdsB a b = true ↔ ∀ i, i < 8 → lit a.m a.v i = 2 ∨ lit a.m a.v i = lit b.m b.v i := by
  rw [holdsB_iff]
  have tb : ∀ x j : Nat, x.testBit j = decide (x / 2 ^ j % 2 = 1) := bit_dec
  constructor
  · intro h i hi
    unfold lit
    have h1 : a.m / 2 ^ i % 2 < 2 := Nat.mod_lt _ (by decide)
    by_cases e : a.m / 2 ^ i % 2 = 0
    · left; rw [if_pos e]
    · right
      have hb := h i (by rw [tb, decide_eq_true_eq]; omega)
      rw [tb, tb, tb, decide_eq_true_eq, Bool.eq_iff_iff, decide_eq_true_eq, decide_eq_true_eq] at hb
      have h2 : a.v / 2 ^ i % 2 < 2 := Nat.mod_lt _ (by decide)
      have h3 : b.v / 2 ^ i % 2 < 2 := Nat.mod_lt _ (by decide)
      rw [if_neg e, if_neg (by omega)]
      omega
  · intro h j hj
    have hj8 : j < 8 := Classical.byContradiction fun hn => by
      rw [(lt_two (n := 8)).1 ha j (by omega)] at hj; cases hj
    have hl := h j hj8
    rw [tb, decide_eq_true_eq] at hj
    have h2 : a.v / 2 ^ j % 2 < 2 := Nat.mod_lt _ (by decide)
    have h3 : b.v / 2 ^ j % 2 < 2 := Nat.mod_lt _ (by decide)
    have h4 : b.m / 2 ^ j % 2 < 2 := Nat.mod_lt _ (by decide)
    unfold lit at hl
    rw [if_neg (by omega)] at hl
    rw [tb, tb, tb, decide_eq_true_eq]
    by_cases e : b.m / 2 ^ j % 2 = 0
    · rw [if_pos e] at hl; omega
    · rw [if_neg e] at hl
      refine ⟨by omega, ?_⟩
      rw [Bool.eq_iff_iff, decide_eq_true_eq, decide_eq_true_eq]
      omega
theorem lh_step {m u m2 u2 k : Nat} (hk : k < 8) (h : ¬ ¬ (litsS m u).getD (k : Int).toNat 0 = 2 ∨ ¬ ¬ (litsS m u).getD (k : Int).toNat 0 = (litsS m2 u2).getD (k : Int).toNat 0) : lit m u k = 2 ∨ lit m u k = lit m2 u2 k := by
  rw [Int.toNat_natCast, litsTo_get hk, litsTo_get hk] at h
  rcases h with h | h
  · exact .inl (Decidable.not_not.1 h)
  · exact .inr (Decidable.not_not.1 h)
theorem lh_no {m u m2 u2 k : Nat} (hm : m < 256) (hk : k < 8) (h1 : ¬ (litsS m u).getD (k : Int).toNat 0 = 2) (h2 : ¬ (litsS m u).getD (k : Int).toNat 0 = (litsS m2 u2).getD (k : Int).toNat 0) : Value.bool false = .bool (holdsB ⟨m, u⟩ ⟨m2, u2⟩) := vb_f fun h => by
  rw [Int.toNat_natCast, litsTo_get hk] at h1 h2
  rw [litsTo_get hk] at h2
  rcases (lits_hold (a := ⟨m, u⟩) (b := ⟨m2, u2⟩) hm).1 h k hk with e | e
  · exact h1 e
  · exact h2 e

/-! ### Growing, the document's way -/
theorem add_bit {a b k : Nat} (ha : a < 2 ^ k) : a + 2 ^ k = a ||| 2 ^ k := by
  have h := Nat.two_pow_add_eq_or_of_lt ha 1
  rw [Nat.mul_one] at h
  rw [Nat.add_comm, h, Nat.or_comm]

/-- A row's outputs, those of the first k others added that may be. -/
def addTo (S : Sp) (c : Cb) (o : Nat) : Nat → Nat
  | 0 => o
  | k + 1 => if addTo S c o k |>.testBit k then addTo S c o k else if inR S ⟨c, addTo S c o k + 2 ^ k⟩ = true then addTo S c o k + 2 ^ k else addTo S c o k
theorem bit_add {a k : Nat} (h : a.testBit k = false) : a + 2 ^ k = a ||| 2 ^ k := by
  have e : a = 2 ^ (k + 1) * (a / 2 ^ (k + 1)) + a % 2 ^ (k + 1) := (Nat.div_add_mod a _).symm
  have hlow : a % 2 ^ (k + 1) < 2 ^ k := by
    refine lt_two.2 fun j hj => ?_
    rw [Nat.testBit_mod_two_pow]
    by_cases hjk : j = k
    · subst hjk; rw [h, Bool.and_false]
    · rw [decide_eq_false (by omega), Bool.false_and]
  have hlt : a % 2 ^ (k + 1) + 2 ^ k < 2 ^ (k + 1) := by have := Nat.pow_succ 2 k; omega
  have e2 : a + 2 ^ k = 2 ^ (k + 1) * (a / 2 ^ (k + 1)) + (a % 2 ^ (k + 1) + 2 ^ k) := by omega
  rw [e2, Nat.two_pow_add_eq_or_of_lt hlt, add_bit (b := 0) hlow, ← Nat.or_assoc, ← Nat.two_pow_add_eq_or_of_lt (Nat.mod_lt _ (Nat.two_pow_pos _)), ← e]
theorem addTo_testBit {S : Sp} {c : Cb} {o : Nat} (h : inR S ⟨c, o⟩ = true) : ∀ k, inR S ⟨c, addTo S c o k⟩ = true ∧ ∀ j, (addTo S c o k).testBit j = true ↔ o.testBit j = true ∨ (j < k ∧ j < S.may.length ∧ wiB c.m c.v (mayP S j) S.n = true)
  | 0 => ⟨h, fun j => by simp [addTo]⟩
  | k + 1 => by
    obtain ⟨h1, h2⟩ := addTo_testBit h k
    have hk : ∀ j, j < k + 1 ↔ j < k ∨ j = k := fun j => Nat.lt_succ_iff_lt_or_eq
    rw [addTo]
    split
    · rename_i hb
      refine ⟨h1, fun j => ?_⟩
      rw [h2, hk]
      constructor
      · rintro (g | ⟨g1, g2⟩)
        · exact .inl g
        · exact .inr ⟨.inl g1, g2⟩
      · rintro (g | ⟨g1 | rfl, g2⟩)
        · exact .inl g
        · exact .inr ⟨g1, g2⟩
        · exact (h2 j).1 hb
    · rename_i hb
      have hb' : (addTo S c o k).testBit k = false := by simpa using hb
      have hor := bit_add hb'
      have hbits : ∀ j, (addTo S c o k + 2 ^ k).testBit j = ((addTo S c o k).testBit j || decide (j = k)) := fun j => by
        rw [hor, Nat.testBit_or, Nat.testBit_two_pow]
        congr 1
        rw [Bool.eq_iff_iff, decide_eq_true_eq, decide_eq_true_eq]
        exact ⟨Eq.symm, Eq.symm⟩
      have hin : inR S ⟨c, addTo S c o k + 2 ^ k⟩ = true ↔ k < S.may.length ∧ wiB c.m c.v (mayP S k) S.n = true := by
        constructor
        · intro g
          have := (inR_iff.1 g).2.2 k (by show (addTo S c o k + 2 ^ k).testBit k = true; rw [hbits]; simp)
          exact this
        · rintro ⟨g1, g2⟩
          obtain ⟨q1, q2, q3⟩ := inR_iff.1 h1
          refine inR_iff.2 ⟨q1, by show 0 < addTo S c o k + 2 ^ k; have := Nat.two_pow_pos k; omega, fun j hj => ?_⟩
          have hj' : (addTo S c o k + 2 ^ k).testBit j = true := hj
          rw [hbits, Bool.or_eq_true, decide_eq_true_eq] at hj'
          rcases hj' with hj' | rfl
          · exact q3 j hj'
          · exact ⟨g1, g2⟩
      split
      · rename_i hi
        refine ⟨hi, fun j => ?_⟩
        rw [hbits, Bool.or_eq_true, h2, decide_eq_true_eq, hk]
        constructor
        · rintro ((g | ⟨g1, g2⟩) | rfl)
          · exact .inl g
          · exact .inr ⟨.inl g1, g2⟩
          · exact .inr ⟨.inr rfl, hin.1 hi⟩
        · rintro (g | ⟨g1 | rfl, g2⟩)
          · exact .inl (.inl g)
          · exact .inl (.inr ⟨g1, g2⟩)
          · exact .inr rfl
      · rename_i hi
        refine ⟨h1, fun j => ?_⟩
        rw [h2, hk]
        constructor
        · rintro (g | ⟨g1, g2⟩)
          · exact .inl g
          · exact .inr ⟨.inl g1, g2⟩
        · rintro (g | ⟨g1 | rfl, g2⟩)
          · exact .inl g
          · exact .inr ⟨g1, g2⟩
          · exact absurd (hin.2 g2) hi
theorem addTo_all {S : Sp} {c : Cb} {o : Nat} (h : inR S ⟨c, o⟩ = true) : addTo S c o S.may.length = outsS S c := Nat.eq_of_testBit_eq fun j => by
  rw [Bool.eq_iff_iff, (addTo_testBit h _).2 j, outsTo_testBit]
  constructor
  · rintro (g | ⟨_, g⟩)
    · exact (inR_iff.1 h).2.2 j g
    · exact g
  · intro g; exact .inr ⟨g.1, g⟩
theorem growRTo_in {S : Sp} {x : Rw} (h : inR S x = true) : ∀ i, inR S ⟨growRTo S x i, x.o⟩ = true
  | 0 => h
  | i + 1 => by
    rw [growRTo]
    split
    · assumption
    · exact growRTo_in h i

theorem wc_ne {c : Cb} {k : Nat} (h : ¬ (((woM c.m (k : Int) : Nat) : Int) = (c.m : Int) ∧ ((c.v &&& woM c.m (k : Int) : Nat) : Int) = (c.v : Int))) : ¬ woC c k = c := fun e => h (by
  have h1 : woM c.m (k : Int) = c.m := congrArg Cb.m e
  have h2 : c.v &&& woM c.m (k : Int) = c.v := congrArg Cb.v e
  exact ⟨by rw [h1], by rw [h2]⟩)
theorem wc_eq {c : Cb} {k : Nat} (h : ¬ ¬ (((woM c.m (k : Int) : Nat) : Int) = (c.m : Int) ∧ ((c.v &&& woM c.m (k : Int) : Nat) : Int) = (c.v : Int))) : woC c k = c := by
  obtain ⟨h1, h2⟩ := Decidable.not_not.1 h
  have g1 := Int.ofNat_inj.1 h1
  have g2 := Int.ofNat_inj.1 h2
  unfold woC
  rw [g1] at g2 ⊢
  rw [g2]
theorem pr_v1 {S : Sp} {x : Rw} (h1 : inR S x = true) (h2 : ((outsS S x.c : Nat) : Int) = (x.o : Int)) : decide (((wideTo S x S.n.toNat).length : Int) = 0) = primeR S x := by
  have h3 := Int.ofNat_inj.1 h2
  unfold primeR
  rw [h1, decide_eq_true h3, Bool.true_and, Bool.true_and, Bool.eq_iff_iff, decide_eq_true_eq, decide_eq_true_eq]
  exact Int.ofNat_inj
theorem pr_v2 {S : Sp} {x : Rw} (h2 : ¬ ((outsS S x.c : Nat) : Int) = (x.o : Int)) : ¬ primeR S x = true := fun h => h2 (by rw [(primeR_iff.1 h).2.1])
theorem pr_v3 {S : Sp} {x : Rw} (h2 : inR S x = false) : ¬ primeR S x = true := fun h => by
  have := (primeR_iff.1 h).1
  rw [h2] at this; cases this
theorem lt_r1 {m u o m2 u2 o2 : Nat} (h : ¬ (o : Int) = (o2 : Int)) : decide ((o : Int) < (o2 : Int)) = ltR ⟨⟨m, u⟩, o⟩ ⟨⟨m2, u2⟩, o2⟩ := by
  rw [Bool.eq_iff_iff, ltR_iff, decide_eq_true_eq]
  simp only
  omega
theorem lt_r2 {m u o m2 u2 o2 : Nat} (h : ¬ ¬ (o : Int) = (o2 : Int)) (h2 : ¬ (m : Int) = (m2 : Int)) : decide ((m : Int) < (m2 : Int)) = ltR ⟨⟨m, u⟩, o⟩ ⟨⟨m2, u2⟩, o2⟩ := by
  rw [Bool.eq_iff_iff, ltR_iff, decide_eq_true_eq]
  simp only
  omega
theorem lt_r3 {m u o m2 u2 o2 : Nat} (h : ¬ ¬ (o : Int) = (o2 : Int)) (h2 : ¬ ¬ (m : Int) = (m2 : Int)) : decide ((u : Int) < (u2 : Int)) = ltR ⟨⟨m, u⟩, o⟩ ⟨⟨m2, u2⟩, o2⟩ := by
  rw [Bool.eq_iff_iff, ltR_iff, decide_eq_true_eq]
  simp only
  omega
theorem posR_step2 {l : List Rw} {x : Rw} {i : Nat} (h0 : 0 < i) (h : ltR x (l.getD ((i : Int) - 1).toNat ⟨⟨0, 0⟩, 0⟩) = true) : posR l x i = posR l x (i - 1) :=
  posR_step h0 (by rwa [show ((i : Int) - 1).toNat = i - 1 by omega] at h)
theorem posR_end2 {l : List Rw} {x : Rw} {i : Nat} (h : i = 0 ∨ ltR x (l.getD ((i : Int) - 1).toNat ⟨⟨0, 0⟩, 0⟩) = false) : posR l x i = i :=
  posR_end (by rwa [show ((i : Int) - 1).toNat = i - 1 by omega] at h)
theorem slOf_fullR {sz : Nat} {v : Value} {h : Nat} {α : Type} {l : List α} (e : ((l.drop 0).take (h - 0)).length = h - 0) : slC (slOf sz v 0 h h) = ((l.drop 0).take (h - 0)).length := e.symm
theorem primes_b {s : Nat} {n : Int} (h8 : n ≤ 8) {i : Nat} (hi : i < (primesL s n).length) : ((primesL s n).getD i ⟨0, 0⟩).m < 256 ∧ ((primesL s n).getD i ⟨0, 0⟩).v < 256 := by
  have := right_lt (prime_right (prime_at hi))
  have h2 := two_pow_le h8
  omega
theorem bit_yes {o i : Nat} (h : ((o / 2 ^ ((i : Nat) : Int).toNat &&& 1 : Nat) : Int) = 1) : o.testBit i = true := shr_bit.1 h
theorem bit_not {o i : Nat} (h : ¬ ((o / 2 ^ ((i : Nat) : Int).toNat &&& 1 : Nat) : Int) = 1) : ¬ o.testBit i = true := fun k => h (shr_bit.2 k)
theorem int_eq {a b : Nat} (h : (a : Int) = (b : Int)) : a = b := Int.ofNat_inj.1 h

end Go.Proofs.Ytpamgfbecgjjeaa
