/-
  Plain words for the document's own answers: flags of points, literals of cubes. No program in it.
-/
import Derived.Test.YtpamgfbecgjjeaaMore
namespace Go.Proofs.Ytpamgfbecgjjeaa
set_option linter.unusedVariables false
set_option linter.unusedSimpArgs false
open Go Go.RowKit

section
variable {P : Program} {f : Nat → Value} {w : World} {d : Option Nat} {ty t t2 : TypeId} {ps : String} {af : Array Edge} {g : Option (Nat × Bool)} {x y : Operand} {m n : Nat} {b : Int}
end

theorem div_pow (m k : Nat) : m / 2 ^ k / 2 = m / 2 ^ (k + 1) := by rw [Nat.div_div_eq_div_mul, Nat.pow_succ]
theorem pow63 {k : Nat} (h : k ≤ 62) : 2 ^ k * 2 < topN .u64 := by
  have h2 : 2 ^ (k + 1) ≤ 2 ^ 63 := Nat.pow_le_pow_right (by decide) (by omega)
  rw [Nat.pow_succ] at h2
  simp only [topN]
  omega
theorem pow8 {k : Nat} (h : k ≤ 8) : 2 ^ k ≤ 256 := by
  have h2 : 2 ^ k ≤ 2 ^ 8 := Nat.pow_le_pow_right (by decide) h
  simpa using h2
theorem pow7 {k : Nat} (h : k < 8) : 2 ^ k ≤ 128 := by
  have h2 : 2 ^ k ≤ 2 ^ 7 := Nat.pow_le_pow_right (by decide) (by omega)
  simpa using h2
theorem bit_dec (x k : Nat) : x.testBit k = decide (x / 2 ^ k % 2 = 1) := Nat.testBit_eq_decide_div_mod_eq

theorem range_map_get {α : Type} (f : Nat → α) (d : α) {k p : Nat} (h : p < k) : ((List.range k).map f).getD p d = f p := by
  simp [List.getD_eq_getElem?_getD, h]
theorem range_map_set {α : Type} (f g : Nat → α) {k p : Nat} (h : ∀ q, q < k → q ≠ p → f q = g q) (a : α) (ha : a = g p) : ((List.range k).map f).set p a = (List.range k).map g := by
  refine List.ext_getElem? fun q => ?_
  rw [List.getElem?_set]
  split
  · subst_vars
    split
    · rename_i hl
      simp at hl
      simp [hl]
    · rename_i hl
      simp at hl
      simp [hl]
  · rename_i hq
    by_cases hk : q < k
    · simp [hk, h q hk (fun e => hq e.symm)]
    · simp [hk]

/-! ### Flags -/
def flagsTo (s k : Nat) : List Bool := (List.range k).map fun p => s.testBit p
abbrev flagsS (s : Nat) : List Bool := flagsTo s 256
theorem flagsTo_succ (s k : Nat) : flagsTo s (k + 1) = flagsTo s k ++ [s.testBit k] := by simp [flagsTo, List.range_succ]
theorem flagsTo_len (s k : Nat) : (flagsTo s k).length = k := by simp [flagsTo]
theorem flagsTo_get {s k p : Nat} (h : p < k) : (flagsTo s k).getD p false = s.testBit p := range_map_get _ _ h

theorem flag_word {s i k : Nat} (h : k < 64) : decide (((wd s i / 2 ^ k % 2 : Nat) : Int) = 1) = s.testBit (64 * i + k) := by
  have h1 := wd_testBit s i k
  rw [bit_dec] at h1
  rw [decide_eq_true h, Bool.true_and] at h1
  rw [← h1, Bool.eq_iff_iff]
  simp only [decide_eq_true_eq]
  omega

theorem within_step {a b k : Nat} (hk : k < 256) (h : (flagsS a).getD (k : Int).toNat false = false ∨ (!(flagsS b).getD (k : Int).toNat false) = false) : a.testBit k = true → b.testBit k = true := by
  rw [Int.toNat_natCast, flagsTo_get hk, flagsTo_get hk] at h
  rcases h with h | h
  · intro e; rw [e] at h; cases h
  · intro _; simpa using h
theorem within_false {a b k : Nat} (hk : k < 256) (h1 : (flagsS a).getD (k : Int).toNat false = true) (h2 : (!(flagsS b).getD (k : Int).toNat false) = true) : withinB a b = false := by
  rw [Int.toNat_natCast, flagsTo_get hk] at h1 h2
  refine Bool.eq_false_iff.2 fun h => ?_
  have := withinB_iff.1 h k hk h1
  rw [this] at h2
  cases h2
theorem within_true {a b k : Nat} (h : k = 256) (hw : ∀ p, p < k → a.testBit p = true → b.testBit p = true) : withinB a b = true := by
  subst h
  exact withinB_iff.2 hw

/-- The set of the first k flags. -/
def bitsTo (l : List Bool) : Nat → Nat
  | 0 => 0
  | k + 1 => if l.getD k false = true then withS (bitsTo l k) (k : Int) else bitsTo l k
abbrev bitsS (l : List Bool) : Nat := bitsTo l 256
theorem bitsTo_testBit (l : List Bool) : ∀ (k : Nat), k ≤ 256 → ∀ p, (bitsTo l k).testBit p = (decide (p < k) && l.getD p false) := by
  intro k
  induction k with
  | zero => intro _ p; simp [bitsTo]
  | succ k ih =>
    intro hk p
    have ih' := ih (by omega) p
    simp only [bitsTo]
    split
    · rename_i h
      rw [withS_testBit (by omega), ih']
      by_cases e : p = k
      · subst e; rw [h]; simp
      · simp only [e, decide_false, Bool.false_or]
        congr 1
        rw [Bool.eq_iff_iff]; simp; omega
    · rename_i h
      rw [ih']
      by_cases e : p = k
      · subst e
        rw [Bool.eq_false_iff.2 h]; simp
      · congr 1
        rw [Bool.eq_iff_iff]; simp; omega
theorem bitsTo_skip {l : List Bool} {k : Nat} (h : l.getD k false = false) : bitsTo l (k + 1) = bitsTo l k := by
  rw [bitsTo, if_neg (by rw [h]; decide)]
theorem bitsTo_word_lt (l : List Bool) {i k : Nat} (hi : i < 4) (hk : k < 64) : wd (bitsTo l (64 * i + k)) i < 2 ^ k := by
  refine Nat.lt_pow_two_of_testBit _ fun j hj => ?_
  rw [wd_testBit, bitsTo_testBit l _ (by omega)]
  by_cases h : j < 64
  · have : ¬ (64 * i + j < 64 * i + k) := by omega
    simp [this]
  · simp [h]
theorem bitsTo_add (l : List Bool) {i k : Nat} (hi : i < 4) (hk : k < 64) : wd (bitsTo l (64 * i + k)) i + 2 ^ k = wd (bitsTo l (64 * i + k)) i ||| 2 ^ k := by
  have h := Nat.two_pow_add_eq_or_of_lt (bitsTo_word_lt l hi hk) 1
  rw [Nat.mul_one] at h
  rw [Nat.add_comm, h, Nat.or_comm]
theorem bitsTo_wd (l : List Bool) {i k : Nat} (hi : i < 4) (hk : k < 64) (h : l.getD (64 * i + k) false = true) :
    ∀ j, j < 4 → wd (bitsTo l (64 * i + k + 1)) j = if j = i then wd (bitsTo l (64 * i + k)) i + 2 ^ k else wd (bitsTo l (64 * i + k)) j := by
  intro j hj
  rw [bitsTo_add l hi hk]
  have e := withS_wd (s := bitsTo l (64 * i + k)) (q := 64 * i + k) (by omega) j hj
  have e1 : (64 * i + k) / 64 = i := by omega
  have e2 : (64 * i + k) % 64 = k := by omega
  rw [e1, e2] at e
  rw [← e]
  simp only [bitsTo, h, if_true]
theorem bits_sum_top (l : List Bool) {i k : Nat} (hi : i < 4) (hk : k < 64) : wd (bitsTo l (64 * i + k)) i + 2 ^ k < topN .u64 := by
  have h1 := bitsTo_word_lt l hi hk
  have h2 : 2 ^ (k + 1) ≤ 2 ^ 64 := Nat.pow_le_pow_right (by decide) (by omega)
  rw [Nat.pow_succ] at h2
  simp only [topN]
  omega

theorem wd_congr {s t i : Nat} (hi : i < 4) (h : ∀ p, p < 256 → s.testBit p = t.testBit p) : wd s i = wd t i := by
  refine wd_of_bits (wd_lt t i) fun j hj => ?_
  rw [wd_testBit, h (64 * i + j) (by omega)]
  simp [hj]
/-- The flags of the first k points. -/
def firstF (k : Nat) : List Bool := (List.range 256).map fun p => decide (p < k)
theorem firstF_len (k : Nat) : (firstF k).length = 256 := by simp [firstF]
theorem firstF_zero : List.replicate 256 false = firstF 0 := by
  unfold firstF
  rw [show (fun p : Nat => decide (p < 0)) = fun _ => false from funext fun p => by simp]
  rw [List.map_const', List.length_range]
theorem firstF_set (k : Nat) : (firstF k).set (k : Int).toNat true = firstF (k + 1) := by
  rw [Int.toNat_natCast]
  exact range_map_set _ _ (fun q _ h => by rw [Bool.eq_iff_iff]; simp; omega) _ (by simp)
theorem bits_firstF {k : Nat} (_h : k ≤ 256) : ∀ p, p < 256 → (bitsTo (firstF k) 256).testBit p = (firstS k).testBit p := by
  intro p hp
  rw [bitsTo_testBit _ _ (Nat.le_refl _), firstS_testBit, firstF, range_map_get _ _ hp]
  simp [hp]

/-! ### Literals -/
def lit (m v i : Nat) : Int := if m / 2 ^ i % 2 = 0 then 2 else ((v / 2 ^ i % 2 : Nat) : Int)
def litsTo (m v k : Nat) : List Int := (List.range k).map (lit m v)
abbrev litsS (m v : Nat) : List Int := litsTo m v 8
theorem litsTo_succ (m v k : Nat) : litsTo m v (k + 1) = litsTo m v k ++ [lit m v k] := by simp [litsTo, List.range_succ]
theorem litsTo_len (m v k : Nat) : (litsTo m v k).length = k := by simp [litsTo]
theorem litsTo_get {m v k p : Nat} (h : p < k) : (litsTo m v k).getD p 0 = lit m v p := range_map_get _ _ h
/-- Are these literals? -/
def Lits (l : List Int) : Prop := l.length ≤ 8 ∧ ∀ i, i < l.length → l.getD i 0 = 0 ∨ l.getD i 0 = 1 ∨ l.getD i 0 = 2
theorem andNot_zero {v m : Nat} : andNot v m = 0 ↔ v &&& m = v := by
  constructor
  · intro h
    refine Nat.eq_of_testBit_eq fun i => ?_
    have h2 := congrArg (fun x => x.testBit i) h
    simp only [andNot_testBit, Nat.zero_testBit] at h2
    rw [Nat.testBit_and]
    cases hv : v.testBit i <;> simp_all
  · intro h
    refine Nat.eq_of_testBit_eq fun i => ?_
    have h2 := congrArg (fun x => x.testBit i) h
    simp only [Nat.testBit_and] at h2
    rw [andNot_testBit, Nat.zero_testBit]
    cases hv : v.testBit i <;> simp_all

/-- Has a cube (of any bits) a point? -/
def hasC (m v p : Nat) : Bool := decide (p &&& m = v &&& m)
/-- The flags of a cube's points, the first k points looked at. -/
def ptF (m v n k : Nat) : List Bool := (List.range 256).map fun p => decide (p < 2 ^ n) && (decide (¬ p < k) || hasC m v p)
theorem ptF_len (m v n k : Nat) : (ptF m v n k).length = 256 := by simp [ptF]
/-! ### Steps of the walks -/
theorem Lits.get {l : List Int} (h : Lits l) {k : Nat} (hk : k < l.length) (h2 : l.getD k 0 < 2) : ∃ q : Nat, q ≤ 1 ∧ l.getD k 0 = (q : Int) := by
  rcases h.2 k hk with e | e | e
  · exact ⟨0, by decide, e⟩
  · exact ⟨1, by decide, e⟩
  · omega
theorem right_neg {m v : Nat} {n : Int} (h : n < 0 ∨ 8 < n) : rightB m v n = false := by
  unfold rightB
  rcases h with h | h
  · rw [decide_eq_false (show ¬ 0 ≤ n by omega)]; rfl
  · rw [decide_eq_false (show ¬ n ≤ 8 by omega)]; simp
end Go.Proofs.Ytpamgfbecgjjeaa
