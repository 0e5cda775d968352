/-
  Plain words: sets of points as natural numbers, cubes, rows, and how the model's values hold them. No program in it.
-/
import Derived.Test.YtnkaebjaeaecmaaDoorMem
namespace Go.Proofs.YtnkaebjaeaecmaaDoor
set_option linter.unusedVariables false
set_option linter.unusedSimpArgs false
open Go Go.RowKit

/-- Word i of a set. -/
def wd (s i : Nat) : Nat := s / 2 ^ (64 * i) % 2 ^ 64
abbrev wv (s i : Nat) : Value := .int .u64 ((wd s i : Nat) : Int)
abbrev setV (s : Nat) : Value := .agg #[wv s 0, wv s 1, wv s 2, wv s 3]

structure Cb where
  m : Nat
  v : Nat
  deriving DecidableEq, Repr
structure Rw where
  c : Cb
  o : Nat
  deriving DecidableEq, Repr

def encB (b : Bool) : List Value := [.bool b]
def encI (z : Int) : List Value := [.int .i64 z]
def encC (c : Cb) : List Value := [.int .u8 (c.m : Int), .int .u8 (c.v : Int)]
def encR (r : Rw) : List Value := [.int .u8 (r.c.m : Int), .int .u8 (r.c.v : Int), .int .u8 (r.o : Int)]
def encS (s : Nat) : List Value := [wv s 0, wv s 1, wv s 2, wv s 3]

theorem wd_lt (s i : Nat) : wd s i < 18446744073709551616 := Nat.mod_lt _ (by decide)
theorem wd_top (s i : Nat) : wd s i < topN .u64 := wd_lt s i

theorem wd_testBit (s i j : Nat) : (wd s i).testBit j = (decide (j < 64) && s.testBit (64 * i + j)) := by
  unfold wd
  rw [Nat.testBit_mod_two_pow, Nat.testBit_div_two_pow, Nat.add_comm]

/-- Sets of 256 points are the same, if their words are. -/
theorem set_ext {s t : Nat} (hs : s < 2 ^ 256) (ht : t < 2 ^ 256) (h0 : wd s 0 = wd t 0) (h1 : wd s 1 = wd t 1) (h2 : wd s 2 = wd t 2) (h3 : wd s 3 = wd t 3) : s = t := by
  refine Nat.eq_of_testBit_eq fun p => ?_
  by_cases hp : p < 256
  · have key : ∀ i, wd s i = wd t i → p / 64 = i → s.testBit p = t.testBit p := fun i h e => by
      have h5 := congrArg (fun x => x.testBit (p % 64)) h
      simp only [wd_testBit] at h5
      have e2 : 64 * i + p % 64 = p := by omega
      rw [e2] at h5
      simpa [Nat.mod_lt] using h5
    have : p / 64 = 0 ∨ p / 64 = 1 ∨ p / 64 = 2 ∨ p / 64 = 3 := by omega
    rcases this with e | e | e | e
    · exact key 0 h0 e
    · exact key 1 h1 e
    · exact key 2 h2 e
    · exact key 3 h3 e
  · have hle : 2 ^ 256 ≤ 2 ^ p := Nat.pow_le_pow_right (by decide) (by omega)
    rw [Nat.testBit_lt_two_pow (Nat.lt_of_lt_of_le hs hle), Nat.testBit_lt_two_pow (Nat.lt_of_lt_of_le ht hle)]

/-- A word of a set, worked upon bit by bit. -/
theorem wd_of_bits {s i x : Nat} (hx : x < 2 ^ 64) (h : ∀ j, j < 64 → x.testBit j = s.testBit (64 * i + j)) : wd s i = x := by
  refine Nat.eq_of_testBit_eq fun j => ?_
  rw [wd_testBit]
  by_cases hj : j < 64
  · simp [hj, h j hj]
  · have hle : 2 ^ 64 ≤ 2 ^ j := Nat.pow_le_pow_right (by decide) (by omega)
    simp [hj, Nat.testBit_lt_two_pow (Nat.lt_of_lt_of_le hx hle)]

theorem wd_or (s t i : Nat) : wd (s ||| t) i = wd s i ||| wd t i :=
  wd_of_bits (Nat.or_lt_two_pow (wd_lt s i) (wd_lt t i)) fun j hj => by simp [Nat.testBit_or, wd_testBit, hj]
theorem wd_and (s t i : Nat) : wd (s &&& t) i = wd s i &&& wd t i :=
  wd_of_bits (Nat.and_lt_two_pow _ (wd_lt t i)) fun j hj => by simp [Nat.testBit_and, wd_testBit, hj]
theorem wd_andNot (s t i : Nat) : wd (andNot s t) i = andNot (wd s i) (wd t i) :=
  wd_of_bits (Nat.lt_of_le_of_lt (andNot_le _ _) (wd_lt s i)) fun j hj => by simp [andNot_testBit, wd_testBit, hj]

/-- May a point be? -/
def mayB (p : Int) : Bool := decide (0 ≤ p) && decide (p < 256)
/-- Is a point in a set? -/
def hasB (s : Nat) (p : Int) : Bool := mayB p && s.testBit p.toNat
/-- A set with a point more. -/
def withS (s : Nat) (p : Int) : Nat := if mayB p then s ||| 2 ^ p.toNat else s

theorem wd_bit (p i : Nat) : wd (2 ^ p) i = if p / 64 = i then 2 ^ (p % 64) else 0 := by
  split
  · rename_i e
    refine wd_of_bits (Nat.pow_lt_pow_right (by decide) (Nat.mod_lt _ (by decide))) fun j hj => ?_
    rw [Nat.testBit_two_pow, Nat.testBit_two_pow]
    congr 1
    refine propext ?_
    omega
  · rename_i e
    refine wd_of_bits (by decide) fun j hj => ?_
    rw [Nat.zero_testBit, Nat.testBit_two_pow]
    symm
    rw [decide_eq_false_iff_not]
    omega

theorem and_bit (x j : Nat) : x &&& 2 ^ j = if x.testBit j then 2 ^ j else 0 := by
  refine Nat.eq_of_testBit_eq fun i => ?_
  rw [Nat.testBit_and, Nat.testBit_two_pow]
  by_cases e : j = i
  · subst e
    cases h : x.testBit j <;> simp
  · cases h : x.testBit j <;> simp [e]

theorem encI_len (z : Int) : (encI z).length = 1 := rfl
theorem encR_len (r : Rw) : (encR r).length = 3 := rfl
theorem encS_len (s : Nat) : (encS s).length = 4 := rfl

theorem setA_get (s i : Nat) (h : i < 4) : (#[wv s 0, wv s 1, wv s 2, wv s 3] : Array Value)[0 + ((i : Nat) : Int).toNat * 1]? = some (wv s i) := by
  have : i = 0 ∨ i = 1 ∨ i = 2 ∨ i = 3 := by omega
  rcases this with rfl | rfl | rfl | rfl <;> rfl

theorem setA_set {s s' i x : Nat} (h : i < 4) (hs : ∀ j, j < 4 → wd s' j = if j = i then x else wd s j) :
    (#[wv s 0, wv s 1, wv s 2, wv s 3] : Array Value).setIfInBounds (0 + ((i : Nat) : Int).toNat * 1) (.int .u64 (x : Int)) = #[wv s' 0, wv s' 1, wv s' 2, wv s' 3] := by
  have h0 := hs 0 (by decide)
  have h1 := hs 1 (by decide)
  have h2 := hs 2 (by decide)
  have h3 := hs 3 (by decide)
  unfold wv
  rw [h0, h1, h2, h3]
  have : i = 0 ∨ i = 1 ∨ i = 2 ∨ i = 3 := by omega
  rcases this with rfl | rfl | rfl | rfl <;> rfl

theorem withS_wd {s q : Nat} (hq : q < 256) : ∀ j, j < 4 → wd (withS s q) j = if j = q / 64 then wd s (q / 64) ||| 2 ^ (q % 64) else wd s j := by
  intro j _
  have hm : mayB (q : Int) = true := by simp [mayB]; omega
  simp only [withS, hm, if_true, Int.toNat_natCast, wd_or, wd_bit]
  by_cases e : j = q / 64
  · subst e; simp
  · rw [if_neg (fun h => e h.symm), if_neg e]; simp

theorem hasB_word {s q : Nat} (hq : q < 256) : decide ((0 : Int) < ((wd s (q / 64) &&& 2 ^ (q % 64) : Nat) : Int)) = hasB s q := by
  have hm : mayB (q : Int) = true := by simp [mayB]; omega
  rw [and_bit, wd_testBit]
  have e : 64 * (q / 64) + q % 64 = q := by omega
  simp only [hasB, hm, Bool.true_and, Int.toNat_natCast, e, Nat.mod_lt q (show 64 > 0 by decide), decide_true]
  cases h : s.testBit q with
  | false => simp
  | true =>
    have := Nat.two_pow_pos (q % 64)
    simp
    exact_mod_cast this

/-- A set word by word, the first k words done. -/
def mixA (op : Nat → Nat → Nat) (s t k : Nat) : Array Value :=
  #[.int .u64 ((if 0 < k then op (wd s 0) (wd t 0) else 0 : Nat) : Int), .int .u64 ((if 1 < k then op (wd s 1) (wd t 1) else 0 : Nat) : Int),
    .int .u64 ((if 2 < k then op (wd s 2) (wd t 2) else 0 : Nat) : Int), .int .u64 ((if 3 < k then op (wd s 3) (wd t 3) else 0 : Nat) : Int)]

theorem mixA_size (op : Nat → Nat → Nat) (s t k : Nat) : (mixA op s t k).size = 4 := rfl
theorem mixA_set (op : Nat → Nat → Nat) (s t k : Nat) (h : k < 4) : (mixA op s t k).setIfInBounds (0 + ((k : Nat) : Int).toNat * 1) (.int .u64 ((op (wd s k) (wd t k) : Nat) : Int)) = mixA op s t (k + 1) := by
  have : k = 0 ∨ k = 1 ∨ k = 2 ∨ k = 3 := by omega
  rcases this with rfl | rfl | rfl | rfl <;> rfl
theorem mixA_all {op : Nat → Nat → Nat} {s t r : Nat} (h : ∀ j, wd r j = op (wd s j) (wd t j)) : Value.agg (mixA op s t 4) = setV r := by
  simp [mixA, h]

theorem hasB_nat {s k : Nat} (h : k < 256) : hasB s (k : Int) = s.testBit k := by
  have hm : mayB (k : Int) = true := by simp [mayB]; omega
  simp [hasB, hm]

/-- The points of a set, rising. -/
def listS (s : Nat) : List Int := ((List.range 256).filter fun p : Nat => s.testBit p).map fun p : Nat => (p : Int)
theorem mem_listS {s : Nat} {x : Int} : x ∈ listS s ↔ ∃ p : Nat, p < 256 ∧ s.testBit p = true ∧ x = p := by
  simp only [listS, List.mem_map, List.mem_filter, List.mem_range]
  constructor
  · rintro ⟨p, ⟨h1, h2⟩, rfl⟩; exact ⟨p, h1, h2, rfl⟩
  · rintro ⟨p, h1, h2, rfl⟩; exact ⟨p, ⟨h1, h2⟩, rfl⟩
theorem getD_mem {α : Type} {l : List α} {i : Nat} {d : α} (h : i < l.length) : l.getD i d ∈ l := by
  simp only [List.getD_eq_getElem?_getD, List.getElem?_eq_getElem h, Option.getD_some]
  exact List.getElem_mem h
/-- All points of n inputs. -/
def allS (n : Nat) : Nat := 2 ^ 2 ^ n - 1
/-- Those of the first k points. -/
def firstS (k : Nat) : Nat := 2 ^ k - 1
theorem firstS_testBit (k p : Nat) : (firstS k).testBit p = decide (p < k) := Nat.testBit_two_pow_sub_one k p
theorem allS_testBit (n p : Nat) : (allS n).testBit p = decide (p < 2 ^ n) := Nat.testBit_two_pow_sub_one _ p
theorem withS_firstS {k : Nat} (h : k < 256) : withS (firstS k) (k : Int) = firstS (k + 1) := by
  have hm : mayB (k : Int) = true := by simp [mayB]; omega
  refine Nat.eq_of_testBit_eq fun p => ?_
  simp only [withS, hm, if_true, Int.toNat_natCast, Nat.testBit_or, firstS_testBit, Nat.testBit_two_pow]
  rw [Bool.eq_iff_iff]
  simp
  omega

/-- The points whose bit i is so. -/
def halfS (s i : Nat) (one : Bool) : Nat := (listS s).foldl (fun o p => if decide (p.toNat / 2 ^ i % 2 = 1) == one then withS o p else o) 0

/-- Is each point of the first set in the second one? -/
def withinB (s t : Nat) : Bool := decide (wd (andNot s t) 0 = 0 ∧ wd (andNot s t) 1 = 0 ∧ wd (andNot s t) 2 = 0 ∧ wd (andNot s t) 3 = 0)

theorem wd_zero (i : Nat) : wd 0 i = 0 := by simp [wd]

theorem wd_eq_zero {s i : Nat} : wd s i = 0 ↔ ∀ j, j < 64 → s.testBit (64 * i + j) = false := by
  constructor
  · intro h j hj
    have h2 := wd_testBit s i j
    rw [h, Nat.zero_testBit] at h2
    simpa [hj] using h2.symm
  · intro h
    refine wd_of_bits (by decide) fun j hj => ?_
    rw [h j hj, Nat.zero_testBit]

theorem withinB_iff {s t : Nat} : withinB s t = true ↔ ∀ p, p < 256 → s.testBit p = true → t.testBit p = true := by
  simp only [withinB, decide_eq_true_eq, wd_eq_zero, andNot_testBit]
  constructor
  · rintro ⟨h0, h1, h2, h3⟩ p hp hs
    have key : ∀ i, p / 64 = i → (∀ j, j < 64 → (s.testBit (64 * i + j) && !t.testBit (64 * i + j)) = false) → t.testBit p = true := fun i e h => by
      have h5 := h (p % 64) (Nat.mod_lt _ (by decide))
      have e2 : 64 * i + p % 64 = p := by omega
      rw [e2, hs] at h5
      simpa using h5
    have : p / 64 = 0 ∨ p / 64 = 1 ∨ p / 64 = 2 ∨ p / 64 = 3 := by omega
    rcases this with e | e | e | e
    · exact key 0 e h0
    · exact key 1 e h1
    · exact key 2 e h2
    · exact key 3 e h3
  · intro h
    have key : ∀ i, i < 4 → ∀ j, j < 64 → (s.testBit (64 * i + j) && !t.testBit (64 * i + j)) = false := fun i hi j hj => by
      have h5 := h (64 * i + j) (by omega)
      cases hs : s.testBit (64 * i + j) with
      | false => rfl
      | true => simp [h5 hs]
    exact ⟨key 0 (by decide), key 1 (by decide), key 2 (by decide), key 3 (by decide)⟩

theorem and_one (x : Nat) : x &&& 1 = x % 2 := Nat.and_one_is_mod x

theorem dec_cast (q : Nat) : decide (((q % 2 : Nat) : Int) = 1) = decide (q % 2 = 1) := by
  rw [Bool.eq_iff_iff]
  simp only [decide_eq_true_eq]
  omega

/-! ### Cubes -/
def rightB (m v : Nat) (n : Int) : Bool := decide (0 ≤ n) && (decide (n ≤ 8) && (decide (m < 2 ^ n.toNat) && decide (andNot v m = 0)))
/-- The points below k that a cube has. -/
def ptsTo (m v k : Nat) : Nat :=
  match k with
  | 0 => 0
  | k + 1 => if k &&& m = v then withS (ptsTo m v k) (k : Int) else ptsTo m v k
/-- .. of n inputs. -/
def ptsS (m v n : Nat) : Nat := ptsTo m v (2 ^ n)
def woM (m : Nat) (i : Int) : Nat := if 0 ≤ i ∧ i < 8 then andNot m (2 ^ i.toNat) else m

theorem withS_testBit {s k : Nat} (h : k < 256) (p : Nat) : (withS s (k : Int)).testBit p = (decide (p = k) || s.testBit p) := by
  have hm : mayB (k : Int) = true := by simp [mayB]; omega
  have e : decide (k = p) = decide (p = k) := by rw [Bool.eq_iff_iff]; simp; omega
  simp only [withS, hm, if_true, Int.toNat_natCast, Nat.testBit_or, Nat.testBit_two_pow, e]
  exact Bool.or_comm _ _

theorem ptsTo_testBit {m v : Nat} : ∀ (k : Nat), k ≤ 256 → ∀ p, (ptsTo m v k).testBit p = (decide (p < k) && decide (p &&& m = v)) := by
  intro k
  induction k with
  | zero => intro _ p; simp [ptsTo]
  | succ k ih =>
    intro hk p
    have ih' := ih (by omega) p
    simp only [ptsTo]
    split
    · rename_i h
      rw [withS_testBit (by omega), ih']
      by_cases e : p = k
      · subst e; simp [h]
      · simp only [e, decide_false, Bool.false_or]
        congr 1
        rw [Bool.eq_iff_iff]
        simp
        omega
    · rename_i h
      rw [ih']
      by_cases e : p = k
      · subst e; simp [h]
      · congr 1
        rw [Bool.eq_iff_iff]
        simp
        omega

theorem two_pow_le {n : Int} (h : n ≤ 8) : 2 ^ n.toNat ≤ 256 := by
  have : 2 ^ n.toNat ≤ 2 ^ 8 := Nat.pow_le_pow_right (by decide) (by omega)
  simpa using this

theorem ptsS_testBit {m v n : Nat} (h : n ≤ 8) (p : Nat) : (ptsS m v n).testBit p = (decide (p < 2 ^ n) && decide (p &&& m = v)) :=
  ptsTo_testBit _ (by have := two_pow_le (n := (n : Int)) (by omega); simpa using this) p

end Go.Proofs.YtnkaebjaeaecmaaDoor
