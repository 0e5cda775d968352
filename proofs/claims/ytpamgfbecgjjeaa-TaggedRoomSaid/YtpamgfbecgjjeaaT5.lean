/-
  Steps of the walks of rows, members and primes' families. No program in it.
-/
import Derived.Test.YtpamgfbecgjjeaaT4
import Derived.Test.YtpamgfbecgjjeaaZ8
namespace Go.Proofs.Ytpamgfbecgjjeaa
set_option linter.unusedVariables false
set_option linter.unusedSimpArgs false
open Go Go.RowKit

theorem memT_16 (m v : Nat) {k : Nat} (h : k ≤ 8) : memT m v k < 65536 := by
  have h1 := memT_lt m v k
  have h2 : 2 ^ (2 * k) ≤ 2 ^ 16 := Nat.pow_le_pow_right (by decide) (by omega)
  exact Nat.lt_of_lt_of_le h1 h2
theorem shl15 {e : Int} (h : e ≤ 19) : 1 * 2 ^ e.toNat < 1048577 := by
  have h2 : 2 ^ e.toNat ≤ 2 ^ 20 := Nat.pow_le_pow_right (by decide) (by omega)
  have h3 : 2 ^ e.toNat ≤ 2 ^ 19 := Nat.pow_le_pow_right (by decide) (by omega)
  have e3 : (2 : Nat) ^ 19 = 524288 := rfl
  omega
theorem and1_le (x : Nat) : x &&& 1 ≤ 1 := Nat.and_le_right
theorem and3_le (x : Nat) : x &&& 3 ≤ 3 := Nat.and_le_right
theorem and15_le (x : Nat) : x &&& 15 ≤ 15 := Nat.and_le_right
theorem dg_i {m k : Nat} : m / 2 ^ (2 * (k : Int)).toNat &&& 3 = dgt m k := by
  rw [and3, show (2 * (k : Int)).toNat = 2 * k by omega]
  rfl
theorem dg_n {m k j : Nat} (h : ((m / 2 ^ (2 * (k : Int)).toNat &&& 3 : Nat) : Int) = (j : Int)) : dgt m k = j := by rw [dg_i] at h; exact Int.ofNat_inj.1 h
theorem row_zero {m : Int} (h : ((m.toNat / 2 ^ ((16 : Int)).toNat : Nat) : Int) = 0) : m < 65536 := by
  have e : (2 : Nat) ^ ((16 : Int)).toNat = 65536 := rfl
  rw [e] at h
  omega
theorem row_ge {m : Int} (h : ¬ ((m.toNat / 2 ^ ((16 : Int)).toNat : Nat) : Int) = 0) : 65536 ≤ m := by
  have e : (2 : Nat) ^ ((16 : Int)).toNat = 65536 := rfl
  rw [e] at h
  omega
abbrev rowV (x : Rw) : Value := .agg #[.int .u8 (x.c.m : Int), .int .u8 (x.c.v : Int), .int .u8 (x.o : Int)]
theorem rw_f1 {m : Int} (h : ¬ 65536 ≤ m) : rwOk m = false := Bool.eq_false_iff.2 fun k => h (rwOk_iff.1 k).1
theorem rw_f2 {m : Int} (h : 1048576 ≤ m) : rwOk m = false := Bool.eq_false_iff.2 fun k => by have := (rwOk_iff.1 k).2.1; omega
theorem rw_f3 {m : Int} {k : Nat} (hk : k < 8) (h : dgt m.toNat k = 3) : rwOk m = false := Bool.eq_false_iff.2 fun q => (rwOk_iff.1 q).2.2 k hk h
theorem rw_t {m : Int} (h1 : 65536 ≤ m) (h2 : m < 1048576) {k : Nat} (hk : k = 8) (h : ∀ q, q < k → ¬ dgt m.toNat q = 3) : rwOk m = true := rwOk_iff.2 ⟨h1, h2, fun q hq => h q (by omega)⟩
theorem row_no {m : Int} (h : rwOk m = false) : Value.tuple #[.agg #[.int .u8 0, .int .u8 0, .int .u8 0], .int .i64 1] = .tuple #[rowV (rowR m), .int .i64 (if rwOk m = true then 0 else 1)] := by
  unfold rowR
  rw [if_neg (by rw [h]; decide), if_neg (by rw [h]; decide)]
  rfl
theorem row_yes {m : Int} (h : rwOk m = true) : Value.tuple #[.agg #[.int .u8 ((mkT m.toNat 8 : Nat) : Int), .int .u8 ((vlT m.toNat 8 : Nat) : Int), .int .u8 ((m.toNat / 65536 : Nat) : Int)], .int .i64 0] = .tuple #[rowV (rowR m), .int .i64 (if rwOk m = true then 0 else 1)] := by
  unfold rowR
  rw [if_pos h, if_pos h]
/-! ### Primes of a set, from the first input on -/
theorem of_fre {s n : Nat} (h : ofB s (n : Int) = true) : n ≤ 8 ∧ Fre n s 0 := by
  unfold ofB at h
  obtain ⟨h1, h2⟩ := Bool.and_eq_true_iff.1 h
  obtain ⟨h3, h4⟩ := Bool.and_eq_true_iff.1 h2
  have h8 : n ≤ 8 := by have := of_decide_eq_true h3; omega
  rw [Int.toNat_natCast] at h4
  refine ⟨h8, fre_zero fun p hp hb => ?_⟩
  have := withinB_iff.1 h4 p hp hb
  rw [allS_testBit] at this
  exact of_decide_eq_true this
theorem of_within {s n : Nat} (h : ofB s (n : Int) = true) : withinB s (allS n) = true := by
  unfold ofB at h
  have := (Bool.and_eq_true_iff.1 (Bool.and_eq_true_iff.1 h).2).2
  rwa [Int.toNat_natCast] at this
theorem all_val {n : Nat} (h : n ≤ 8) {v : Value} (hv : v = if 0 ≤ (n : Int) ∧ (n : Int) ≤ 8 then .tuple #[setV (allS (n : Int).toNat), .int .i64 0] else .tuple #[setV 0, .int .i64 1]) : v = .tuple #[setV (allS n), .int .i64 0] := by
  rw [if_pos (by omega), Int.toNat_natCast] at hv
  exact hv

/-! ### The document's members and rows -/
def dl (m q : Nat) : Int := if dgt m q = 1 then 0 else if dgt m q = 2 then 1 else 2
theorem pow_le8 {j : Nat} (h : j < 4) : 2 ^ j ≤ 8 := by
  have := Nat.pow_le_pow_right (show 0 < 2 by decide) (show j ≤ 3 by omega)
  simpa using this
theorem lit_b {m v i : Nat} (h : ¬ lit m v i = 2) : m.testBit i = true := by
  refine Bool.of_not_eq_false fun k => h ?_
  exact lit_two.2 k
theorem lit_v {m v i : Nat} (h : m.testBit i = true) : lit m v i = if v.testBit i = true then 1 else 0 := by
  unfold lit
  have h1 : ¬ m / 2 ^ i % 2 = 0 := by rw [Nat.testBit_eq_decide_div_mod_eq] at h; have := of_decide_eq_true h; omega
  rw [if_neg h1]
  simp only [Nat.testBit_eq_decide_div_mod_eq, decide_eq_true_iff]
  split <;> omega
theorem mem_lit {m v i : Nat} (h : m.testBit i = true) : (memT m v i : Int) + ((2 ^ (2 * (i : Int) + lit m v i).toNat : Nat) : Int) = ((memT m v (i + 1) : Nat) : Int) := by
  rw [memT, if_pos h, lit_v h]
  have e : (2 * (i : Int) + (if v.testBit i = true then 1 else 0)).toNat = 2 * i + (if v.testBit i = true then 1 else 0) := by split <;> omega
  rw [e]
  exact (Int.natCast_add _ _).symm
theorem ot_int {c : Cb} {o j : Nat} (h : o.testBit j = true) : ((memC c + otT o j : Nat) : Int) + ((2 ^ (16 + (j : Int)).toNat : Nat) : Int) = ((memC c + otT o (j + 1) : Nat) : Int) := by
  rw [← ot_t h, show (16 + (j : Int)).toNat = 16 + j by omega]
  omega
theorem ot_end (c : Cb) (o : Nat) : memC c + otT o 4 = memRw ⟨c, o⟩ := rfl
def memI (x : Rw) : Int := ((memRw x : Nat) : Int)
def memsT (l : List Rw) (k : Nat) : List Int := ofI ((l.take k).map memI)
theorem mems_s {l : List Rw} {k : Nat} (h : k < l.length) : withI (memsT l k) (memI (l.getD k ⟨⟨0, 0⟩, 0⟩)) = memsT l (k + 1) := by
  unfold memsT
  rw [ofI_snoc]
  congr 1
  rw [List.take_succ_eq_append_getElem h, List.map_append, List.getD_eq_getElem?_getD, List.getElem?_eq_getElem h]
  rfl
theorem mems_len (l : List Rw) (k : Nat) : (memsT l k).length ≤ l.length := by
  unfold memsT
  refine Nat.le_trans (ofI_len _) ?_
  simp; omega
end Go.Proofs.Ytpamgfbecgjjeaa
