/-
  A row's member, and a member's row. No program in it.
-/
import Derived.Test.YtpamgfbecgjjeaaT3
namespace Go.Proofs.Ytpamgfbecgjjeaa
set_option linter.unusedVariables false
set_option linter.unusedSimpArgs false
open Go Go.RowKit

def memRw (x : Rw) : Nat := memC x.c + x.o % 16 * 65536
theorem memC_lt (c : Cb) : memC c < 65536 := memT_lt c.m c.v 8
theorem memRw_lt (x : Rw) : memRw x < 1048576 := by
  unfold memRw
  have := memC_lt x.c
  have := Nat.mod_lt x.o (show 0 < 16 by decide)
  omega
def dgt (m k : Nat) : Nat := m / 2 ^ (2 * k) % 4
def mkT (m : Nat) : Nat → Nat
  | 0 => 0
  | k + 1 => mkT m k + (if dgt m k = 1 ∨ dgt m k = 2 then 2 ^ k else 0)
def vlT (m : Nat) : Nat → Nat
  | 0 => 0
  | k + 1 => vlT m k + (if dgt m k = 2 then 2 ^ k else 0)
def rwOk (m : Int) : Bool := decide (65536 ≤ m ∧ m < 1048576) && (List.range 8).all fun k => !decide (dgt m.toNat k = 3)
theorem rwOk_iff {m : Int} : rwOk m = true ↔ 65536 ≤ m ∧ m < 1048576 ∧ ∀ k, k < 8 → ¬ dgt m.toNat k = 3 := by
  unfold rwOk
  rw [Bool.and_eq_true, decide_eq_true_iff, List.all_eq_true, and_assoc]
  refine and_congr_right fun _ => and_congr_right fun _ => ⟨fun h k hk => ?_, fun h k hk => ?_⟩
  · have := h k (List.mem_range.2 hk)
    rwa [Bool.not_eq_true', decide_eq_false_iff_not] at this
  · rw [Bool.not_eq_true', decide_eq_false_iff_not]
    exact h k (List.mem_range.1 hk)
def rowR (m : Int) : Rw := if rwOk m = true then ⟨⟨mkT m.toNat 8, vlT m.toNat 8⟩, m.toNat / 65536⟩ else ⟨⟨0, 0⟩, 0⟩
theorem mkT_lt (m : Nat) : ∀ k, mkT m k < 2 ^ k
  | 0 => by simp [mkT]
  | k + 1 => by
    have := mkT_lt m k
    rw [mkT, Nat.pow_succ]
    split <;> omega
theorem vlT_lt (m : Nat) : ∀ k, vlT m k < 2 ^ k
  | 0 => by simp [vlT]
  | k + 1 => by
    have := vlT_lt m k
    rw [vlT, Nat.pow_succ]
    split <;> omega
theorem or_pow {x k : Nat} (h : x < 2 ^ k) : x ||| 1 * 2 ^ k = x + 2 ^ k := by
  have := Nat.two_pow_add_eq_or_of_lt h 1
  rw [Nat.mul_one] at this
  rw [Nat.one_mul, Nat.or_comm, ← this, Nat.add_comm]
theorem mkT_or {m k : Nat} (h : dgt m k = 1 ∨ dgt m k = 2) : mkT m k ||| 1 * 2 ^ k = mkT m (k + 1) := by rw [or_pow (mkT_lt m k), mkT, if_pos h]
theorem vlT_or {m k : Nat} (h : dgt m k = 2) : vlT m k ||| 1 * 2 ^ k = vlT m (k + 1) := by rw [or_pow (vlT_lt m k), vlT, if_pos h]
theorem mkT_skip {m k : Nat} (h : ¬ (dgt m k = 1 ∨ dgt m k = 2)) : mkT m k = mkT m (k + 1) := by rw [mkT, if_neg h, Nat.add_zero]
theorem vlT_skip {m k : Nat} (h : ¬ dgt m k = 2) : vlT m k = vlT m (k + 1) := by rw [vlT, if_neg h, Nat.add_zero]
theorem and3 (x : Nat) : x &&& 3 = x % 4 := Nat.and_two_pow_sub_one_eq_mod x 2
theorem and15 (x : Nat) : x &&& 15 = x % 16 := Nat.and_two_pow_sub_one_eq_mod x 4
theorem mkT_bit (m : Nat) {k : Nat} : ∀ n, (mkT m n).testBit k = decide (k < n ∧ (dgt m k = 1 ∨ dgt m k = 2))
  | 0 => by simp [mkT]
  | n + 1 => by
    rw [mkT]
    split
    · rename_i h
      rw [addp_bit (mkT_lt m n) (Nat.le_refl _), mkT_bit m n]
      by_cases e : k = n
      · subst e; simp [h]
      · have : (k < n) ↔ (k < n + 1) := by omega
        simp [e, this]
    · rename_i h
      rw [Nat.add_zero, mkT_bit m n]
      by_cases e : k = n
      · subst e; simp [h]
      · have : (k < n) ↔ (k < n + 1) := by omega
        simp [this]
theorem vlT_bit (m : Nat) {k : Nat} : ∀ n, (vlT m n).testBit k = decide (k < n ∧ dgt m k = 2)
  | 0 => by simp [vlT]
  | n + 1 => by
    rw [vlT]
    split
    · rename_i h
      rw [addp_bit (vlT_lt m n) (Nat.le_refl _), vlT_bit m n]
      by_cases e : k = n
      · subst e; simp [h]
      · have : (k < n) ↔ (k < n + 1) := by omega
        simp [e, this]
    · rename_i h
      rw [Nat.add_zero, vlT_bit m n]
      by_cases e : k = n
      · subst e; simp [h]
      · have : (k < n) ↔ (k < n + 1) := by omega
        simp [this]
theorem dgt_bits (x k : Nat) : dgt x k = (if x.testBit (2 * k) = true then 1 else 0) + (if x.testBit (2 * k + 1) = true then 2 else 0) := by
  unfold dgt
  simp only [Nat.testBit_eq_decide_div_mod_eq, decide_eq_true_iff]
  rw [Nat.pow_succ, ← Nat.div_div_eq_div_mul]
  generalize x / 2 ^ (2 * k) = y
  split <;> split <;> omega
theorem mem_low {x : Rw} {j : Nat} (hj : j < 16) : (memRw x).testBit j = (memC x.c).testBit j := by
  have h := Nat.testBit_two_pow_mul_add (x.o % 16) (i := 16) (b := memC x.c) (memC_lt x.c) j
  rw [if_pos hj] at h
  rw [← h]
  unfold memRw
  congr 1
  omega
theorem dgt_mem {x : Rw} {k : Nat} (hk : k < 8) : dgt (memRw x) k = if x.c.m.testBit k = true then (if x.c.v.testBit k = true then 2 else 1) else 0 := by
  have h0 := memT_bit x.c.m x.c.v 8 k 0 (by decide)
  have h1 := memT_bit x.c.m x.c.v 8 k 1 (by decide)
  rw [dgt_bits, mem_low (by omega), mem_low (by omega)]
  unfold memC
  rw [Nat.add_zero] at h0
  cases hm : x.c.m.testBit k <;> cases hv : x.c.v.testBit k <;> simp_all
theorem mem_ok {x : Rw} (h : ¬ x.o % 16 = 0) : rwOk (memRw x : Int) = true := by
  refine rwOk_iff.2 ⟨?_, ?_, fun k hk => ?_⟩
  · unfold memRw; omega
  · have := memRw_lt x; omega
  · rw [Int.toNat_natCast, dgt_mem hk]
    split
    · split <;> decide
    · decide
theorem mem_no {x : Rw} (h : x.o % 16 = 0) : rwOk (memRw x : Int) = false := Bool.eq_false_iff.2 fun q => by
  have := memC_lt x.c
  have := (rwOk_iff.1 q).1
  unfold memRw at this
  rw [h] at this
  omega
theorem row_mem {x : Rw} (hm : x.c.m < 256) (h : ¬ x.o % 16 = 0) : rowR (memRw x : Int) = ⟨⟨x.c.m, x.c.v &&& x.c.m⟩, x.o % 16⟩ := by
  have hi : ∀ j, 8 ≤ j → x.c.m.testBit j = false := fun j hj => (lt_two (n := 8)).1 hm j hj
  unfold rowR
  rw [if_pos (mem_ok h), Int.toNat_natCast]
  have e1 : mkT (memRw x) 8 = x.c.m := Nat.eq_of_testBit_eq fun k => by
    rw [mkT_bit]
    rcases Nat.lt_or_ge k 8 with hk | hk
    · rw [dgt_mem hk]
      cases e : x.c.m.testBit k <;> cases e2 : x.c.v.testBit k <;> simp [hk]
    · rw [hi k hk]; exact decide_eq_false fun q => by omega
  have e2 : vlT (memRw x) 8 = x.c.v &&& x.c.m := Nat.eq_of_testBit_eq fun k => by
    rw [vlT_bit, Nat.testBit_and]
    rcases Nat.lt_or_ge k 8 with hk | hk
    · rw [dgt_mem hk]
      cases e : x.c.m.testBit k <;> cases e2 : x.c.v.testBit k <;> simp [hk]
    · rw [hi k hk, Bool.and_false]; exact decide_eq_false fun q => by omega
  have e3 : memRw x / 65536 = x.o % 16 := by
    have := memC_lt x.c
    unfold memRw
    omega
  rw [e1, e2, e3]
theorem memT_mk {m : Nat} (h : ∀ k, k < 8 → ¬ dgt m k = 3) : ∀ k, k ≤ 8 → memT (mkT m 8) (vlT m 8) k = m % 2 ^ (2 * k)
  | 0, _ => by simp [memT, Nat.mod_one]
  | k + 1, hk => by
    have hk8 : k < 8 := by omega
    have hm : m % 2 ^ (2 * (k + 1)) = m % 2 ^ (2 * k) + 2 ^ (2 * k) * dgt m k := by
      rw [show 2 * (k + 1) = 2 * k + 2 by omega, Nat.pow_add, Nat.mod_mul]
      rfl
    rw [memT, memT_mk h k (by omega), mkT_bit, vlT_bit, hm]
    have h3 := h k hk8
    have hlt : dgt m k < 4 := Nat.mod_lt _ (by decide)
    have : dgt m k = 0 ∨ dgt m k = 1 ∨ dgt m k = 2 := by omega
    rcases this with q | q | q
    · rw [q]; simp
    · rw [q]; simp [hk8]
    · rw [q]; simp [hk8, Nat.pow_succ]
theorem mem_row {m : Int} (h : rwOk m = true) : (memRw (rowR m) : Int) = m := by
  obtain ⟨h1, h2, h3⟩ := rwOk_iff.1 h
  unfold rowR
  rw [if_pos h]
  unfold memRw memC
  have := memT_mk h3 8 (Nat.le_refl _)
  have e : 2 ^ (2 * 8) = 65536 := rfl
  rw [e] at this
  simp only
  rw [this]
  omega
/-! ### Steps of the walks -/
theorem bit_u8 {m i : Nat} : (((m / 2 ^ ((i : Nat) : Int).toNat &&& 1 : Nat) : Int) = 1) ↔ m.testBit i = true := shr_bit
theorem bit_val {v i : Nat} : v / 2 ^ i &&& 1 = if v.testBit i = true then 1 else 0 := by
  simp only [Nat.and_one_is_mod, Nat.testBit_eq_decide_div_mod_eq, decide_eq_true_iff]
  split <;> omega
theorem mem_s {m v i : Nat} (h : m.testBit i = true) : memT m v i ||| 1 * 2 ^ (2 * (i : Int) + ((v / 2 ^ ((i : Nat) : Int).toNat &&& 1 : Nat) : Int)).toNat = memT m v (i + 1) := by
  rw [← memT_or m v i h]
  have e : (2 * (i : Int) + ((v / 2 ^ ((i : Nat) : Int).toNat &&& 1 : Nat) : Int)).toNat = 2 * i + (if v.testBit i = true then 1 else 0) := by
    rw [Int.toNat_natCast, bit_val]
    split <;> omega
  rw [e]
theorem mem_e (c : Cb) (o : Nat) : memT c.m c.v 8 ||| (o &&& 15) * 2 ^ 16 = memRw ⟨c, o⟩ := by
  have h := Nat.two_pow_add_eq_or_of_lt (i := 16) (memC_lt c) (o &&& 15)
  have e : (2 : Nat) ^ 16 = 65536 := rfl
  unfold memRw
  rw [and15] at *
  simp only
  unfold memC at *
  rw [e] at *
  rw [Nat.or_comm, Nat.mul_comm, ← h]
  omega
theorem modp_t {m j : Nat} (h : m.testBit j = true) : m % 2 ^ (j + 1) = m % 2 ^ j + 2 ^ j := by
  have h2 : m / 2 ^ j % 2 = 1 := by rw [Nat.testBit_eq_decide_div_mod_eq] at h; exact of_decide_eq_true h
  rw [Nat.pow_succ, Nat.mod_mul, h2, Nat.mul_one]
theorem modp_f {m j : Nat} (h : m.testBit j = false) : m % 2 ^ (j + 1) = m % 2 ^ j := by
  have h2 : ¬ m / 2 ^ j % 2 = 1 := by rw [Nat.testBit_eq_decide_div_mod_eq] at h; exact of_decide_eq_false h
  have h3 : m / 2 ^ j % 2 = 0 := by omega
  rw [Nat.pow_succ, Nat.mod_mul, h3, Nat.mul_zero, Nat.add_zero]
/-- The sum of the outputs' items. -/
def otT (o j : Nat) : Nat := o % 2 ^ j * 65536
theorem ot_t {o j : Nat} (h : o.testBit j = true) : otT o j + 2 ^ (16 + j) = otT o (j + 1) := by
  unfold otT
  rw [modp_t h, Nat.pow_add, Nat.add_mul]
  have e : (2 : Nat) ^ 16 = 65536 := rfl
  rw [e, Nat.mul_comm 65536]
theorem ot_f {o j : Nat} (h : o.testBit j = false) : otT o j = otT o (j + 1) := by
  unfold otT
  rw [modp_f h]

end Go.Proofs.Ytpamgfbecgjjeaa
