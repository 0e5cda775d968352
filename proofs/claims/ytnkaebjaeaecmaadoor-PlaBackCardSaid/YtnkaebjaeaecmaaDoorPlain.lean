/-
  Plain words: sets of points as natural numbers, cubes, rows, and how the model's values hold them. No program in it.
-/
import Derived.Test.YtnkaebjaeaecmaaDoorMem
namespace Go.Proofs.YtnkaebjaeaecmaaDoor
set_option linter.unusedVariables false
set_option linter.unusedSimpArgs false
open Go Go.RowKit

structure Cb where
  m : Nat
  v : Nat
  deriving DecidableEq, Repr
def encB (b : Bool) : List Value := [.bool b]
def encI (z : Int) : List Value := [.int .i64 z]
def encC (c : Cb) : List Value := [.int .u8 (c.m : Int), .int .u8 (c.v : Int)]
theorem encI_len (z : Int) : (encI z).length = 1 := rfl
theorem and_one (x : Nat) : x &&& 1 = x % 2 := Nat.and_one_is_mod x

/-! ### Cubes -/
def rightB (m v : Nat) (n : Int) : Bool := decide (0 ≤ n) && (decide (n ≤ 8) && (decide (m < 2 ^ n.toNat) && decide (andNot v m = 0)))
def woM (m : Nat) (i : Int) : Nat := if 0 ≤ i ∧ i < 8 then andNot m (2 ^ i.toNat) else m

theorem two_pow_le {n : Int} (h : n ≤ 8) : 2 ^ n.toNat ≤ 256 := by
  have : 2 ^ n.toNat ≤ 2 ^ 8 := Nat.pow_le_pow_right (by decide) (by omega)
  simpa using this

end Go.Proofs.YtnkaebjaeaecmaaDoor
