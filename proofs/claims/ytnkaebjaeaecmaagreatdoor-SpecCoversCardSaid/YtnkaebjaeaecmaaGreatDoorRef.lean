/-
  Plain words for the document's own answers: flags of points, literals of cubes. No program in it.
-/
import Derived.Test.YtnkaebjaeaecmaaGreatDoorSlice
namespace Go.Proofs.YtnkaebjaeaecmaaGreatDoor
set_option linter.unusedVariables false
set_option linter.unusedSimpArgs false
open Go Go.RowKit

section
variable {P : Program} {f : Nat → Value} {w : World} {d : Option Nat} {ty t t2 : TypeId} {ps : String} {af : Array Edge} {g : Option (Nat × Bool)} {x y : Operand} {m n : Nat} {b : Int}
theorem wrap8 (m : Nat) : IntKind.u8.wrap (m : Int) = ((m % 256 : Nat) : Int) := by simp [IntKind.wrap, IntKind.signed, IntKind.bits]
theorem r_mulW8 (hx : evF f x = .int .u8 (m : Int)) (hy : evF f y = .int .u8 b) (hb : b = (n : Int)) :
    (execOp (evF f) ⟨d, .binOp .mul t x y t2, ty, ps, af, g⟩).run P w = .ok (.value (.int .u8 ((m * n % 256 : Nat) : Int))) w := by
  subst hb
  rw [r_mul hx hy, ← Int.natCast_mul, wrap8]
end

theorem div_pow (m k : Nat) : m / 2 ^ k / 2 = m / 2 ^ (k + 1) := by rw [Nat.div_div_eq_div_mul, Nat.pow_succ]
theorem pow63 {k : Nat} (h : k ≤ 62) : 2 ^ k * 2 < topN .u64 := by
  have h2 : 2 ^ (k + 1) ≤ 2 ^ 63 := Nat.pow_le_pow_right (by decide) (by omega)
  rw [Nat.pow_succ] at h2
  simp only [topN]
  omega
theorem pow8 {k : Nat} (h : k ≤ 8) : 2 ^ k ≤ 256 := by
  have h2 : 2 ^ k ≤ 2 ^ 8 := Nat.pow_le_pow_right (by decide) h
  simpa using h2
theorem pow7 {k : Nat} (h : k < 8) : 2 ^ k ≤ 128 := by
  have h2 : 2 ^ k ≤ 2 ^ 7 := Nat.pow_le_pow_right (by decide) (by omega)
  simpa using h2
theorem bit_dec (x k : Nat) : x.testBit k = decide (x / 2 ^ k % 2 = 1) := Nat.testBit_eq_decide_div_mod_eq

theorem range_map_get {α : Type} (f : Nat → α) (d : α) {k p : Nat} (h : p < k) : ((List.range k).map f).getD p d = f p := by
  simp [List.getD_eq_getElem?_getD, h]
theorem range_map_set {α : Type} (f g : Nat → α) {k p : Nat} (h : ∀ q, q < k → q ≠ p → f q = g q) (a : α) (ha : a = g p) : ((List.range k).map f).set p a = (List.range k).map g := by
  refine List.ext_getElem? fun q => ?_
  rw [List.getElem?_set]
  split
  · subst_vars
    split
    · rename_i hl
      simp at hl
      simp [hl]
    · rename_i hl
      simp at hl
      simp [hl]
  · rename_i hq
    by_cases hk : q < k
    · simp [hk, h q hk (fun e => hq e.symm)]
    · simp [hk]

/-! ### Flags -/
def flagsTo (s k : Nat) : List Bool := (List.range k).map fun p => s.testBit p
abbrev flagsS (s : Nat) : List Bool := flagsTo s 256
theorem flagsTo_succ (s k : Nat) : flagsTo s (k + 1) = flagsTo s k ++ [s.testBit k] := by simp [flagsTo, List.range_succ]
theorem flagsTo_len (s k : Nat) : (flagsTo s k).length = k := by simp [flagsTo]
theorem flagsTo_get {s k p : Nat} (h : p < k) : (flagsTo s k).getD p false = s.testBit p := range_map_get _ _ h

theorem flag_word {s i k : Nat} (h : k < 64) : decide (((wd s i / 2 ^ k % 2 : Nat) : Int) = 1) = s.testBit (64 * i + k) := by
  have h1 := wd_testBit s i k
  rw [bit_dec] at h1
  rw [decide_eq_true h, Bool.true_and] at h1
  rw [← h1, Bool.eq_iff_iff]
  simp only [decide_eq_true_eq]
  omega

theorem within_step {a b k : Nat} (hk : k < 256) (h : (flagsS a).getD (k : Int).toNat false = false ∨ (!(flagsS b).getD (k : Int).toNat false) = false) : a.testBit k = true → b.testBit k = true := by
  rw [Int.toNat_natCast, flagsTo_get hk, flagsTo_get hk] at h
  rcases h with h | h
  · intro e; rw [e] at h; cases h
  · intro _; simpa using h
theorem within_false {a b k : Nat} (hk : k < 256) (h1 : (flagsS a).getD (k : Int).toNat false = true) (h2 : (!(flagsS b).getD (k : Int).toNat false) = true) : withinB a b = false := by
  rw [Int.toNat_natCast, flagsTo_get hk] at h1 h2
  refine Bool.eq_false_iff.2 fun h => ?_
  have := withinB_iff.1 h k hk h1
  rw [this] at h2
  cases h2
theorem within_true {a b k : Nat} (h : k = 256) (hw : ∀ p, p < k → a.testBit p = true → b.testBit p = true) : withinB a b = true := by
  subst h
  exact withinB_iff.2 hw

/-- The set of the first k flags. -/
def bitsTo (l : List Bool) : Nat → Nat
  | 0 => 0
  | k + 1 => if l.getD k false = true then withS (bitsTo l k) (k : Int) else bitsTo l k
abbrev bitsS (l : List Bool) : Nat := bitsTo l 256
theorem bitsTo_testBit (l : List Bool) : ∀ (k : Nat), k ≤ 256 → ∀ p, (bitsTo l k).testBit p = (decide (p < k) && l.getD p false) := by
  intro k
  induction k with
  | zero => intro _ p; simp [bitsTo]
  | succ k ih =>
    intro hk p
    have ih' := ih (by omega) p
    simp only [bitsTo]
    split
    · rename_i h
      rw [withS_testBit (by omega), ih']
      by_cases e : p = k
      · subst e; rw [h]; simp
      · simp only [e, decide_false, Bool.false_or]
        congr 1
        rw [Bool.eq_iff_iff]; simp; omega
    · rename_i h
      rw [ih']
      by_cases e : p = k
      · subst e
        rw [Bool.eq_false_iff.2 h]; simp
      · congr 1
        rw [Bool.eq_iff_iff]; simp; omega
theorem bitsTo_skip {l : List Bool} {k : Nat} (h : l.getD k false = false) : bitsTo l (k + 1) = bitsTo l k := by
  rw [bitsTo, if_neg (by rw [h]; decide)]
theorem bitsTo_word_lt (l : List Bool) {i k : Nat} (hi : i < 4) (hk : k < 64) : wd (bitsTo l (64 * i + k)) i < 2 ^ k := by
  refine Nat.lt_pow_two_of_testBit _ fun j hj => ?_
  rw [wd_testBit, bitsTo_testBit l _ (by omega)]
  by_cases h : j < 64
  · have : ¬ (64 * i + j < 64 * i + k) := by omega
    simp [this]
  · simp [h]
theorem bitsTo_add (l : List Bool) {i k : Nat} (hi : i < 4) (hk : k < 64) : wd (bitsTo l (64 * i + k)) i + 2 ^ k = wd (bitsTo l (64 * i + k)) i ||| 2 ^ k := by
  have h := Nat.two_pow_add_eq_or_of_lt (bitsTo_word_lt l hi hk) 1
  rw [Nat.mul_one] at h
  rw [Nat.add_comm, h, Nat.or_comm]
theorem bitsTo_wd (l : List Bool) {i k : Nat} (hi : i < 4) (hk : k < 64) (h : l.getD (64 * i + k) false = true) :
    ∀ j, j < 4 → wd (bitsTo l (64 * i + k + 1)) j = if j = i then wd (bitsTo l (64 * i + k)) i + 2 ^ k else wd (bitsTo l (64 * i + k)) j := by
  intro j hj
  rw [bitsTo_add l hi hk]
  have e := withS_wd (s := bitsTo l (64 * i + k)) (q := 64 * i + k) (by omega) j hj
  have e1 : (64 * i + k) / 64 = i := by omega
  have e2 : (64 * i + k) % 64 = k := by omega
  rw [e1, e2] at e
  rw [← e]
  simp only [bitsTo, h, if_true]
theorem bits_sum_top (l : List Bool) {i k : Nat} (hi : i < 4) (hk : k < 64) : wd (bitsTo l (64 * i + k)) i + 2 ^ k < topN .u64 := by
  have h1 := bitsTo_word_lt l hi hk
  have h2 : 2 ^ (k + 1) ≤ 2 ^ 64 := Nat.pow_le_pow_right (by decide) (by omega)
  rw [Nat.pow_succ] at h2
  simp only [topN]
  omega

theorem wd_congr {s t i : Nat} (hi : i < 4) (h : ∀ p, p < 256 → s.testBit p = t.testBit p) : wd s i = wd t i := by
  refine wd_of_bits (wd_lt t i) fun j hj => ?_
  rw [wd_testBit, h (64 * i + j) (by omega)]
  simp [hj]
/-- The flags of the first k points. -/
def firstF (k : Nat) : List Bool := (List.range 256).map fun p => decide (p < k)
theorem firstF_len (k : Nat) : (firstF k).length = 256 := by simp [firstF]
theorem firstF_zero : List.replicate 256 false = firstF 0 := by
  unfold firstF
  rw [show (fun p : Nat => decide (p < 0)) = fun _ => false from funext fun p => by simp]
  rw [List.map_const', List.length_range]
theorem firstF_set (k : Nat) : (firstF k).set (k : Int).toNat true = firstF (k + 1) := by
  rw [Int.toNat_natCast]
  exact range_map_set _ _ (fun q _ h => by rw [Bool.eq_iff_iff]; simp; omega) _ (by simp)
theorem bits_firstF {k : Nat} (_h : k ≤ 256) : ∀ p, p < 256 → (bitsTo (firstF k) 256).testBit p = (firstS k).testBit p := by
  intro p hp
  rw [bitsTo_testBit _ _ (Nat.le_refl _), firstS_testBit, firstF, range_map_get _ _ hp]
  simp [hp]

/-! ### Literals -/
def lit (m v i : Nat) : Int := if m / 2 ^ i % 2 = 0 then 2 else ((v / 2 ^ i % 2 : Nat) : Int)
def litsTo (m v k : Nat) : List Int := (List.range k).map (lit m v)
abbrev litsS (m v : Nat) : List Int := litsTo m v 8
theorem litsTo_succ (m v k : Nat) : litsTo m v (k + 1) = litsTo m v k ++ [lit m v k] := by simp [litsTo, List.range_succ]
theorem litsTo_len (m v k : Nat) : (litsTo m v k).length = k := by simp [litsTo]
theorem litsTo_get {m v k p : Nat} (h : p < k) : (litsTo m v k).getD p 0 = lit m v p := range_map_get _ _ h
theorem lit_cases (m v i : Nat) : lit m v i = 0 ∨ lit m v i = 1 ∨ lit m v i = 2 := by
  unfold lit
  split
  · exact .inr (.inr rfl)
  · have : v / 2 ^ i % 2 < 2 := Nat.mod_lt _ (by decide)
    omega
/-- Are these literals? -/
def Lits (l : List Int) : Prop := l.length ≤ 8 ∧ ∀ i, i < l.length → l.getD i 0 = 0 ∨ l.getD i 0 = 1 ∨ l.getD i 0 = 2
theorem lits_litsS (m v : Nat) : Lits (litsS m v) := ⟨by rw [litsTo_len]; exact Nat.le_refl _, fun i hi => by rw [litsTo_get (by rwa [litsTo_len] at hi)]; exact lit_cases m v i⟩

def maskTo (l : List Int) : Nat → Nat
  | 0 => 0
  | k + 1 => if l.getD k 0 < 2 then maskTo l k + 2 ^ k else maskTo l k
def valTo (l : List Int) : Nat → Nat
  | 0 => 0
  | k + 1 => if l.getD k 0 < 2 then valTo l k + 2 ^ k * (l.getD k 0).toNat else valTo l k
theorem maskTo_lt (l : List Int) : ∀ k, maskTo l k < 2 ^ k
  | 0 => by simp [maskTo]
  | k + 1 => by
    have ih := maskTo_lt l k
    simp only [maskTo, Nat.pow_succ]
    split <;> omega
theorem valTo_lt (l : List Int) : ∀ k, valTo l k < 2 ^ k
  | 0 => by simp [valTo]
  | k + 1 => by
    have ih := valTo_lt l k
    have hp : 0 < 2 ^ k := Nat.two_pow_pos k
    simp only [valTo, Nat.pow_succ]
    split
    · rename_i h
      have : (l.getD k 0).toNat ≤ 1 := by omega
      have h2 : 2 ^ k * (l.getD k 0).toNat ≤ 2 ^ k * 1 := Nat.mul_le_mul_left _ this
      omega
    · omega

theorem mask_lits (m v : Nat) : ∀ k, k ≤ 8 → maskTo (litsS m v) k = m % 2 ^ k
  | 0, _ => by simp [maskTo, Nat.mod_one]
  | k + 1, h => by
    have ih := mask_lits m v k (by omega)
    have hb : m / 2 ^ k % 2 < 2 := Nat.mod_lt _ (by decide)
    simp only [maskTo, litsTo_get (show k < 8 by omega), ih, Nat.mod_pow_succ]
    unfold lit
    by_cases e : m / 2 ^ k % 2 = 0
    · simp [e]
    · have e1 : m / 2 ^ k % 2 = 1 := by omega
      have hv : v / 2 ^ k % 2 < 2 := Nat.mod_lt _ (by decide)
      rw [if_neg e, if_pos (by omega), e1, Nat.mul_one]
theorem and_div (v m k : Nat) : (v &&& m) / 2 ^ k % 2 = if m / 2 ^ k % 2 = 0 then 0 else v / 2 ^ k % 2 := by
  have h := Nat.testBit_and v m k
  rw [bit_dec, bit_dec, bit_dec] at h
  have h1 : (v &&& m) / 2 ^ k % 2 < 2 := Nat.mod_lt _ (by decide)
  have h2 : v / 2 ^ k % 2 < 2 := Nat.mod_lt _ (by decide)
  have h3 : m / 2 ^ k % 2 < 2 := Nat.mod_lt _ (by decide)
  rw [Bool.eq_iff_iff] at h
  simp at h
  split <;> omega
theorem val_lits (m v : Nat) : ∀ k, k ≤ 8 → valTo (litsS m v) k = (v &&& m) % 2 ^ k
  | 0, _ => by simp [valTo, Nat.mod_one]
  | k + 1, h => by
    have ih := val_lits m v k (by omega)
    have hb : m / 2 ^ k % 2 < 2 := Nat.mod_lt _ (by decide)
    simp only [valTo, litsTo_get (show k < 8 by omega), ih, Nat.mod_pow_succ, and_div]
    unfold lit
    by_cases e : m / 2 ^ k % 2 = 0
    · simp [e]
    · have hv : v / 2 ^ k % 2 < 2 := Nat.mod_lt _ (by decide)
      rw [if_neg e, if_neg e, if_pos (by omega), Int.toNat_natCast]

theorem right_high {m v : Nat} (hm : m < 256) {n : Nat} : (∀ i, n ≤ i → i < 8 → lit m v i = 2) ↔ m < 2 ^ n := by
  constructor
  · intro h
    refine Nat.lt_pow_two_of_testBit _ fun j hj => ?_
    rw [bit_dec]
    by_cases h8 : j < 8
    · have := h j hj h8
      unfold lit at this
      split at this
      · rename_i e; simp [e]
      · have : v / 2 ^ j % 2 < 2 := Nat.mod_lt _ (by decide)
        omega
    · have h2 : 2 ^ 8 ≤ 2 ^ j := Nat.pow_le_pow_right (by decide) (by omega)
      rw [Nat.div_eq_of_lt (by omega)]
      simp
  · intro h i hi _
    have h2 : 2 ^ n ≤ 2 ^ i := Nat.pow_le_pow_right (by decide) hi
    simp [lit, Nat.div_eq_of_lt (Nat.lt_of_lt_of_le h h2)]

theorem andNot_zero {v m : Nat} : andNot v m = 0 ↔ v &&& m = v := by
  constructor
  · intro h
    refine Nat.eq_of_testBit_eq fun i => ?_
    have h2 := congrArg (fun x => x.testBit i) h
    simp only [andNot_testBit, Nat.zero_testBit] at h2
    rw [Nat.testBit_and]
    cases hv : v.testBit i <;> simp_all
  · intro h
    refine Nat.eq_of_testBit_eq fun i => ?_
    have h2 := congrArg (fun x => x.testBit i) h
    simp only [Nat.testBit_and] at h2
    rw [andNot_testBit, Nat.zero_testBit]
    cases hv : v.testBit i <;> simp_all

/-- Has a cube (of any bits) a point? -/
def hasC (m v p : Nat) : Bool := decide (p &&& m = v &&& m)
theorem hasC_lits {m v p : Nat} (hm : m < 256) : (∀ i, i < 8 → lit m v i = 2 ∨ lit m v i = ((p / 2 ^ i % 2 : Nat) : Int)) ↔ p &&& m = v &&& m := by
  constructor
  · intro h
    refine Nat.eq_of_testBit_eq fun i => ?_
    rw [Nat.testBit_and, Nat.testBit_and, bit_dec p, bit_dec v, bit_dec m]
    by_cases h8 : i < 8
    · have h2 : v / 2 ^ i % 2 < 2 := Nat.mod_lt _ (by decide)
      have h1 := h i h8
      unfold lit at h1
      split at h1
      · rename_i e; simp [e]
      · have : p / 2 ^ i % 2 = v / 2 ^ i % 2 := by omega
        rw [this]
    · have h2 : 2 ^ 8 ≤ 2 ^ i := Nat.pow_le_pow_right (by decide) (by omega)
      rw [show m / 2 ^ i = 0 from Nat.div_eq_of_lt (by omega)]
      simp
  · intro h i _
    unfold lit
    have h2 := congrArg (fun x => x.testBit i) h
    simp only [Nat.testBit_and] at h2
    rw [bit_dec p, bit_dec v, bit_dec m] at h2
    have h3 : v / 2 ^ i % 2 < 2 := Nat.mod_lt _ (by decide)
    have h4 : p / 2 ^ i % 2 < 2 := Nat.mod_lt _ (by decide)
    split
    · exact .inl rfl
    · rename_i e
      have : m / 2 ^ i % 2 = 1 := by have := Nat.mod_lt (m / 2 ^ i) (show 0 < 2 by decide); omega
      right
      rw [Bool.eq_iff_iff] at h2
      simp [this] at h2
      omega

/-- The flags of a cube's points, the first k points looked at. -/
def ptF (m v n k : Nat) : List Bool := (List.range 256).map fun p => decide (p < 2 ^ n) && (decide (¬ p < k) || hasC m v p)
theorem ptF_len (m v n k : Nat) : (ptF m v n k).length = 256 := by simp [ptF]
/-! ### Steps of the walks -/
theorem Lits.get {l : List Int} (h : Lits l) {k : Nat} (hk : k < l.length) (h2 : l.getD k 0 < 2) : ∃ q : Nat, q ≤ 1 ∧ l.getD k 0 = (q : Int) := by
  rcases h.2 k hk with e | e | e
  · exact ⟨0, by decide, e⟩
  · exact ⟨1, by decide, e⟩
  · omega
theorem masks_step {l : List Int} {k q : Nat} (hq : l.getD k 0 = (q : Int)) (h1 : q ≤ 1) : maskTo l (k + 1) = maskTo l k + 2 ^ k ∧ valTo l (k + 1) = valTo l k + 2 ^ k * q := by
  simp only [maskTo, valTo, hq, Int.toNat_natCast]
  rw [if_pos (by omega), if_pos (by omega)]
  exact ⟨rfl, rfl⟩
theorem masks_skip {l : List Int} {k : Nat} (h : ¬ l.getD k 0 < 2) : maskTo l (k + 1) = maskTo l k ∧ valTo l (k + 1) = valTo l k := by
  simp only [maskTo, valTo, if_neg h, and_self]

theorem right_step {m v n i : Nat} (hw : ∀ q, n ≤ q → q < i → lit m v q = 2) (hi : i < 8) (h : (litsS m v).getD (i : Int).toNat 0 = 2) : ∀ q, n ≤ q → q < i + 1 → lit m v q = 2 := fun q h1 h2 => by
  rcases Nat.lt_succ_iff_lt_or_eq.1 h2 with h2 | rfl
  · exact hw q h1 h2
  · rwa [Int.toNat_natCast, litsTo_get hi] at h
theorem right_neg {m v : Nat} {n : Int} (h : n < 0 ∨ 8 < n) : rightB m v n = false := by
  unfold rightB
  rcases h with h | h
  · rw [decide_eq_false (show ¬ 0 ≤ n by omega)]; rfl
  · rw [decide_eq_false (show ¬ n ≤ 8 by omega)]; simp
theorem right_not {m v i : Nat} {n : Int} (hm : m < 256) (hi : n.toNat ≤ i ∧ i < 8) (h : ¬ (litsS m v).getD (i : Int).toNat 0 = 2) : rightB m v n = false := by
  rw [Int.toNat_natCast, litsTo_get hi.2] at h
  have : ¬ m < 2 ^ n.toNat := fun hlt => h ((right_high hm).2 hlt i hi.1 hi.2)
  unfold rightB
  rw [decide_eq_false this]; simp
theorem right_fin {m v : Nat} {n : Int} (hm : m < 256) (hv : v < 256) (hn : 0 ≤ n ∧ n ≤ 8) (hw : ∀ q, n.toNat ≤ q → q < 8 → lit m v q = 2) :
    decide (((maskTo (litsS m v) (litsS m v).length : Nat) : Int) = (m : Int) ∧ ((valTo (litsS m v) (litsS m v).length : Nat) : Int) = (v : Int)) = rightB m v n := by
  have h1 := (right_high hm).1 hw
  have h2 : v &&& m ≤ v := Nat.and_le_left
  rw [litsTo_len, mask_lits m v 8 (Nat.le_refl _), val_lits m v 8 (Nat.le_refl _), Nat.mod_eq_of_lt (by simpa using hm), Nat.mod_eq_of_lt (by simp; omega)]
  unfold rightB
  rw [decide_eq_true hn.1, decide_eq_true hn.2, decide_eq_true h1, Bool.true_and, Bool.true_and, Bool.true_and, Bool.eq_iff_iff]
  simp only [decide_eq_true_eq]
  exact ⟨fun h => andNot_zero.2 (by exact_mod_cast h.2), fun h => ⟨trivial, by rw [andNot_zero.1 h]⟩⟩

theorem has_step {m v k p : Nat} (hk : k < 8) (h : ¬ (¬ (litsS m v).getD (k : Int).toNat 0 = 2) ∨ ¬ (¬ (litsS m v).getD (k : Int).toNat 0 = ((p / 2 ^ k % 2 : Nat) : Int))) : lit m v k = 2 ∨ lit m v k = ((p / 2 ^ k % 2 : Nat) : Int) := by
  rw [Int.toNat_natCast, litsTo_get hk] at h
  rcases h with h | h
  · exact .inl (Decidable.not_not.1 h)
  · exact .inr (Decidable.not_not.1 h)
theorem has_not {m v k p : Nat} (hm : m < 256) (hk : k < 8) (h1 : ¬ (litsS m v).getD (k : Int).toNat 0 = 2) (h2 : ¬ (litsS m v).getD (k : Int).toNat 0 = ((p / 2 ^ k % 2 : Nat) : Int)) : hasC m v p = false := by
  rw [Int.toNat_natCast, litsTo_get hk] at h1 h2
  refine decide_eq_false fun h => ?_
  rcases (hasC_lits hm).2 h k hk with e | e
  · exact h1 e
  · exact h2 e
theorem has_fin {m v p : Nat} (hm : m < 256) (hw : ∀ q, q < 8 → lit m v q = 2 ∨ lit m v q = ((p / 2 ^ q % 2 : Nat) : Int)) : true = hasC m v p :=
  (decide_eq_true ((hasC_lits hm).1 hw)).symm
end Go.Proofs.YtnkaebjaeaecmaaGreatDoor
