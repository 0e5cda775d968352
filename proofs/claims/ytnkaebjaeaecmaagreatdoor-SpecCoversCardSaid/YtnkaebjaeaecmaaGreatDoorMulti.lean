/-
  Plain words for specs of several outputs and rows: what is within, what holds what, primes, growing, all primes in order. No program in it.
-/
import Derived.Test.YtnkaebjaeaecmaaGreatDoorRef12
namespace Go.Proofs.YtnkaebjaeaecmaaGreatDoor
set_option linter.unusedVariables false
set_option linter.unusedSimpArgs false
open Go Go.RowKit

/-! ### Specs -/
structure Sp where
  n : Int
  on : List Nat
  may : List Nat
def onP (S : Sp) (k : Nat) : Nat := S.on.getD k 0
def mayP (S : Sp) (k : Nat) : Nat := S.may.getD k 0
def rightS (S : Sp) : Bool :=
  decide (0 ≤ S.n) && (decide (S.n ≤ 8) && (decide (1 ≤ S.on.length) && (decide (S.on.length ≤ 4) && (decide (S.on.length = S.may.length) &&
    (List.range S.on.length).all fun k => withinB (onP S k) (mayP S k) && withinB (mayP S k) (allS S.n.toNat)))))
theorem rightS_iff {S : Sp} : rightS S = true ↔ 0 ≤ S.n ∧ S.n ≤ 8 ∧ 1 ≤ S.on.length ∧ S.on.length ≤ 4 ∧ S.on.length = S.may.length ∧ ∀ k, k < S.on.length → withinB (onP S k) (mayP S k) = true ∧ withinB (mayP S k) (allS S.n.toNat) = true := by
  unfold rightS
  simp only [Bool.and_eq_true, decide_eq_true_eq, List.all_eq_true, List.mem_range]
theorem right_f {S : Sp} (h : ¬ (0 ≤ S.n ∧ S.n ≤ 8 ∧ 1 ≤ S.on.length ∧ S.on.length ≤ 4 ∧ S.on.length = S.may.length)) : Value.bool false = .bool (rightS S) :=
  congrArg Value.bool (Bool.eq_false_iff.2 fun hr => h (by
    obtain ⟨h1, h2, h3, h4, h5, _⟩ := rightS_iff.1 hr
    exact ⟨h1, h2, h3, h4, h5⟩)).symm
theorem right_k {S : Sp} {k : Nat} (hk : k < S.on.length) (h : ¬ (withinB (onP S k) (mayP S k) = true ∧ withinB (mayP S k) (allS S.n.toNat) = true)) : Value.bool false = .bool (rightS S) :=
  congrArg Value.bool (Bool.eq_false_iff.2 fun hr => h ((rightS_iff.1 hr).2.2.2.2.2 k hk)).symm
theorem right_t {S : Sp} (h : 0 ≤ S.n ∧ S.n ≤ 8 ∧ 1 ≤ S.on.length ∧ S.on.length ≤ 4 ∧ S.on.length = S.may.length) (hk : ∀ k, k < S.on.length → withinB (onP S k) (mayP S k) = true ∧ withinB (mayP S k) (allS S.n.toNat) = true) : Value.bool true = .bool (rightS S) :=
  congrArg Value.bool (rightS_iff.2 ⟨h.1, h.2.1, h.2.2.1, h.2.2.2.1, h.2.2.2.2, hk⟩).symm

theorem exists_bit {a : Nat} (h : 0 < a) : ∃ j, a.testBit j = true := Classical.byContradiction fun hn => by
  have : a = 0 := Nat.eq_of_testBit_eq fun j => by rw [Nat.zero_testBit]; exact Bool.eq_false_iff.2 fun hb => hn ⟨j, hb⟩
  omega
theorem pos_bit {a j : Nat} (h : a.testBit j = true) : 0 < a := Nat.pos_of_ne_zero fun e => by
  rw [e, Nat.zero_testBit] at h; cases h
/-! ### What some outputs have in common -/
/-! ### Primes -/
/-! ### Growing -/
/-! ### All primes, in order -/
/-! ### Sorting -/
/-! ### What rows cover -/
/-- The points that the first k rows have for an output. -/
def ptsR (l : List Rw) (n o : Nat) : Nat → Nat
  | 0 => 0
  | k + 1 => if (l.getD k ⟨⟨0, 0⟩, 0⟩).o.testBit o = true then ptsR l n o k ||| ptsS (l.getD k ⟨⟨0, 0⟩, 0⟩).c.m (l.getD k ⟨⟨0, 0⟩, 0⟩).c.v n else ptsR l n o k
theorem ptsR_t {l : List Rw} {n o k : Nat} (h : (l.getD k ⟨⟨0, 0⟩, 0⟩).o.testBit o = true) : ptsR l n o k ||| ptsS (l.getD k ⟨⟨0, 0⟩, 0⟩).c.m (l.getD k ⟨⟨0, 0⟩, 0⟩).c.v n = ptsR l n o (k + 1) := (if_pos h).symm
theorem ptsR_f {l : List Rw} {n o k : Nat} (h : ¬ (l.getD k ⟨⟨0, 0⟩, 0⟩).o.testBit o = true) : ptsR l n o k = ptsR l n o (k + 1) := (if_neg h).symm
/-- Has one of the first k rows a point for an output? -/
def hasR (x : Rw) (o p : Nat) : Prop := x.o.testBit o = true ∧ hold x.c p
theorem ptsR_testBit {l : List Rw} {n o : Nat} (hn : n ≤ 8) (p : Nat) : ∀ k, k ≤ l.length → ((ptsR l n o k).testBit p = true ↔ p < 2 ^ n ∧ ∃ j, j < k ∧ hasR (l.getD j ⟨⟨0, 0⟩, 0⟩) o p)
  | 0, _ => by simp [ptsR]
  | k + 1, hk => by
    have ih := ptsR_testBit (l := l) (o := o) hn p k (by omega)
    rw [ptsR]
    split
    · rename_i h
      rw [Nat.testBit_or, Bool.or_eq_true, ih, ptsS_testBit hn, Bool.and_eq_true, decide_eq_true_eq, decide_eq_true_eq]
      constructor
      · rintro (⟨h1, j, hj, r⟩ | ⟨h1, h2⟩)
        · exact ⟨h1, j, by omega, r⟩
        · exact ⟨h1, k, by omega, h, h2⟩
      · rintro ⟨h1, j, hj, r⟩
        rcases Nat.lt_succ_iff_lt_or_eq.1 hj with hj | rfl
        · exact .inl ⟨h1, j, hj, r⟩
        · exact .inr ⟨h1, r.2⟩
    · rename_i h
      rw [ih]
      constructor
      · rintro ⟨h1, j, hj, r⟩; exact ⟨h1, j, by omega, r⟩
      · rintro ⟨h1, j, hj, r⟩
        rcases Nat.lt_succ_iff_lt_or_eq.1 hj with hj | rfl
        · exact ⟨h1, j, hj, r⟩
        · exact absurd r.1 h
/-- May a row be? -/
def okR (S : Sp) (x : Rw) : Bool := rightB x.c.m x.c.v S.n && (decide (0 < x.o) && decide (x.o < 2 ^ S.on.length))
def mayL (S : Sp) (l : List Rw) : Bool := l.all (okR S)
def covO (S : Sp) (l : List Rw) (o : Nat) : Bool := withinB (onP S o) (ptsR l S.n.toNat o l.length) && withinB (ptsR l S.n.toNat o l.length) (mayP S o)
/-- Do rows cover a spec? -/
def covB (S : Sp) (l : List Rw) : Bool := rightS S && (mayL S l && (List.range S.on.length).all (covO S l))
theorem covB_iff {S : Sp} {l : List Rw} : covB S l = true ↔ rightS S = true ∧ mayL S l = true ∧ ∀ o, o < S.on.length → covO S l o = true := by
  unfold covB
  rw [Bool.and_eq_true, Bool.and_eq_true, List.all_eq_true]
  simp only [List.mem_range]
theorem mayL_iff {S : Sp} {l : List Rw} : mayL S l = true ↔ ∀ k, k < l.length → okR S (l.getD k ⟨⟨0, 0⟩, 0⟩) = true := by
  unfold mayL
  rw [List.all_eq_true]
  constructor
  · intro h k hk; exact h _ (getD_mem hk)
  · intro h x hx
    obtain ⟨k, hk, rfl⟩ := mem_getD (d := ⟨⟨0, 0⟩, 0⟩) hx
    exact h k hk
theorem okR_iff {S : Sp} {x : Rw} : okR S x = true ↔ rightB x.c.m x.c.v S.n = true ∧ 0 < x.o ∧ x.o < 2 ^ S.on.length := by
  unfold okR
  rw [Bool.and_eq_true, Bool.and_eq_true, decide_eq_true_eq, decide_eq_true_eq]

end Go.Proofs.YtnkaebjaeaecmaaGreatDoor
