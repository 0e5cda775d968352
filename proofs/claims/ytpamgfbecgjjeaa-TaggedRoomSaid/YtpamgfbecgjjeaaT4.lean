/-
  A row's member, and a member's row. No program in it.
-/
import Derived.Test.YtpamgfbecgjjeaaT3
namespace Go.Proofs.Ytpamgfbecgjjeaa
set_option linter.unusedVariables false
set_option linter.unusedSimpArgs false
open Go Go.RowKit

def memRw (x : Rw) : Nat := memC x.c + x.o % 16 * 65536
theorem memC_lt (c : Cb) : memC c < 65536 := memT_lt c.m c.v 8
def dgt (m k : Nat) : Nat := m / 2 ^ (2 * k) % 4
def mkT (m : Nat) : Nat → Nat
  | 0 => 0
  | k + 1 => mkT m k + (if dgt m k = 1 ∨ dgt m k = 2 then 2 ^ k else 0)
def vlT (m : Nat) : Nat → Nat
  | 0 => 0
  | k + 1 => vlT m k + (if dgt m k = 2 then 2 ^ k else 0)
def rwOk (m : Int) : Bool := decide (65536 ≤ m ∧ m < 1048576) && (List.range 8).all fun k => !decide (dgt m.toNat k = 3)
theorem rwOk_iff {m : Int} : rwOk m = true ↔ 65536 ≤ m ∧ m < 1048576 ∧ ∀ k, k < 8 → ¬ dgt m.toNat k = 3 := by
  unfold rwOk
  rw [Bool.and_eq_true, decide_eq_true_iff, List.all_eq_true, and_assoc]
  refine and_congr_right fun _ => and_congr_right fun _ => ⟨fun h k hk => ?_, fun h k hk => ?_⟩
  · have := h k (List.mem_range.2 hk)
    rwa [Bool.not_eq_true', decide_eq_false_iff_not] at this
  · rw [Bool.not_eq_true', decide_eq_false_iff_not]
    exact h k (List.mem_range.1 hk)
def rowR (m : Int) : Rw := if rwOk m = true then ⟨⟨mkT m.toNat 8, vlT m.toNat 8⟩, m.toNat / 65536⟩ else ⟨⟨0, 0⟩, 0⟩
theorem mkT_lt (m : Nat) : ∀ k, mkT m k < 2 ^ k
  | 0 => by simp [mkT]
  | k + 1 => by
    have := mkT_lt m k
    rw [mkT, Nat.pow_succ]
    split <;> omega
theorem vlT_lt (m : Nat) : ∀ k, vlT m k < 2 ^ k
  | 0 => by simp [vlT]
  | k + 1 => by
    have := vlT_lt m k
    rw [vlT, Nat.pow_succ]
    split <;> omega
theorem or_pow {x k : Nat} (h : x < 2 ^ k) : x ||| 1 * 2 ^ k = x + 2 ^ k := by
  have := Nat.two_pow_add_eq_or_of_lt h 1
  rw [Nat.mul_one] at this
  rw [Nat.one_mul, Nat.or_comm, ← this, Nat.add_comm]
theorem mkT_or {m k : Nat} (h : dgt m k = 1 ∨ dgt m k = 2) : mkT m k ||| 1 * 2 ^ k = mkT m (k + 1) := by rw [or_pow (mkT_lt m k), mkT, if_pos h]
theorem vlT_or {m k : Nat} (h : dgt m k = 2) : vlT m k ||| 1 * 2 ^ k = vlT m (k + 1) := by rw [or_pow (vlT_lt m k), vlT, if_pos h]
theorem mkT_skip {m k : Nat} (h : ¬ (dgt m k = 1 ∨ dgt m k = 2)) : mkT m k = mkT m (k + 1) := by rw [mkT, if_neg h, Nat.add_zero]
theorem vlT_skip {m k : Nat} (h : ¬ dgt m k = 2) : vlT m k = vlT m (k + 1) := by rw [vlT, if_neg h, Nat.add_zero]
theorem and3 (x : Nat) : x &&& 3 = x % 4 := Nat.and_two_pow_sub_one_eq_mod x 2
theorem and15 (x : Nat) : x &&& 15 = x % 16 := Nat.and_two_pow_sub_one_eq_mod x 4
/-! ### Steps of the walks -/
theorem bit_u8 {m i : Nat} : (((m / 2 ^ ((i : Nat) : Int).toNat &&& 1 : Nat) : Int) = 1) ↔ m.testBit i = true := shr_bit
theorem bit_val {v i : Nat} : v / 2 ^ i &&& 1 = if v.testBit i = true then 1 else 0 := by
  simp only [Nat.and_one_is_mod, Nat.testBit_eq_decide_div_mod_eq, decide_eq_true_iff]
  split <;> omega
theorem mem_s {m v i : Nat} (h : m.testBit i = true) : memT m v i ||| 1 * 2 ^ (2 * (i : Int) + ((v / 2 ^ ((i : Nat) : Int).toNat &&& 1 : Nat) : Int)).toNat = memT m v (i + 1) := by
  rw [← memT_or m v i h]
  have e : (2 * (i : Int) + ((v / 2 ^ ((i : Nat) : Int).toNat &&& 1 : Nat) : Int)).toNat = 2 * i + (if v.testBit i = true then 1 else 0) := by
    rw [Int.toNat_natCast, bit_val]
    split <;> omega
  rw [e]
theorem mem_e (c : Cb) (o : Nat) : memT c.m c.v 8 ||| (o &&& 15) * 2 ^ 16 = memRw ⟨c, o⟩ := by
  have h := Nat.two_pow_add_eq_or_of_lt (i := 16) (memC_lt c) (o &&& 15)
  have e : (2 : Nat) ^ 16 = 65536 := rfl
  unfold memRw
  rw [and15] at *
  simp only
  unfold memC at *
  rw [e] at *
  rw [Nat.or_comm, Nat.mul_comm, ← h]
  omega
theorem modp_t {m j : Nat} (h : m.testBit j = true) : m % 2 ^ (j + 1) = m % 2 ^ j + 2 ^ j := by
  have h2 : m / 2 ^ j % 2 = 1 := by rw [Nat.testBit_eq_decide_div_mod_eq] at h; exact of_decide_eq_true h
  rw [Nat.pow_succ, Nat.mod_mul, h2, Nat.mul_one]
theorem modp_f {m j : Nat} (h : m.testBit j = false) : m % 2 ^ (j + 1) = m % 2 ^ j := by
  have h2 : ¬ m / 2 ^ j % 2 = 1 := by rw [Nat.testBit_eq_decide_div_mod_eq] at h; exact of_decide_eq_false h
  have h3 : m / 2 ^ j % 2 = 0 := by omega
  rw [Nat.pow_succ, Nat.mod_mul, h3, Nat.mul_zero, Nat.add_zero]
/-- The sum of the outputs' items. -/
def otT (o j : Nat) : Nat := o % 2 ^ j * 65536
theorem ot_t {o j : Nat} (h : o.testBit j = true) : otT o j + 2 ^ (16 + j) = otT o (j + 1) := by
  unfold otT
  rw [modp_t h, Nat.pow_add, Nat.add_mul]
  have e : (2 : Nat) ^ 16 = 65536 := rfl
  rw [e, Nat.mul_comm 65536]
theorem ot_f {o j : Nat} (h : o.testBit j = false) : otT o j = otT o (j + 1) := by
  unfold otT
  rw [modp_f h]

end Go.Proofs.Ytpamgfbecgjjeaa
