/-
  Steps of the walks of rows, members and primes' families. No program in it.
-/
import Derived.Test.YtpamgfbecgjjeaaT4
import Derived.Test.YtpamgfbecgjjeaaZ8
namespace Go.Proofs.Ytpamgfbecgjjeaa
set_option linter.unusedVariables false
set_option linter.unusedSimpArgs false
open Go Go.RowKit

theorem memT_16 (m v : Nat) {k : Nat} (h : k ≤ 8) : memT m v k < 65536 := by
  have h1 := memT_lt m v k
  have h2 : 2 ^ (2 * k) ≤ 2 ^ 16 := Nat.pow_le_pow_right (by decide) (by omega)
  exact Nat.lt_of_lt_of_le h1 h2
theorem shl15 {e : Int} (h : e ≤ 19) : 1 * 2 ^ e.toNat < 1048577 := by
  have h2 : 2 ^ e.toNat ≤ 2 ^ 20 := Nat.pow_le_pow_right (by decide) (by omega)
  have h3 : 2 ^ e.toNat ≤ 2 ^ 19 := Nat.pow_le_pow_right (by decide) (by omega)
  have e3 : (2 : Nat) ^ 19 = 524288 := rfl
  omega
theorem and1_le (x : Nat) : x &&& 1 ≤ 1 := Nat.and_le_right
theorem and3_le (x : Nat) : x &&& 3 ≤ 3 := Nat.and_le_right
theorem and15_le (x : Nat) : x &&& 15 ≤ 15 := Nat.and_le_right
theorem dg_i {m k : Nat} : m / 2 ^ (2 * (k : Int)).toNat &&& 3 = dgt m k := by
  rw [and3, show (2 * (k : Int)).toNat = 2 * k by omega]
  rfl
theorem dg_n {m k j : Nat} (h : ((m / 2 ^ (2 * (k : Int)).toNat &&& 3 : Nat) : Int) = (j : Int)) : dgt m k = j := by rw [dg_i] at h; exact Int.ofNat_inj.1 h
theorem row_zero {m : Int} (h : ((m.toNat / 2 ^ ((16 : Int)).toNat : Nat) : Int) = 0) : m < 65536 := by
  have e : (2 : Nat) ^ ((16 : Int)).toNat = 65536 := rfl
  rw [e] at h
  omega
theorem row_ge {m : Int} (h : ¬ ((m.toNat / 2 ^ ((16 : Int)).toNat : Nat) : Int) = 0) : 65536 ≤ m := by
  have e : (2 : Nat) ^ ((16 : Int)).toNat = 65536 := rfl
  rw [e] at h
  omega
abbrev rowV (x : Rw) : Value := .agg #[.int .u8 (x.c.m : Int), .int .u8 (x.c.v : Int), .int .u8 (x.o : Int)]
theorem rw_f1 {m : Int} (h : ¬ 65536 ≤ m) : rwOk m = false := Bool.eq_false_iff.2 fun k => h (rwOk_iff.1 k).1
theorem rw_f2 {m : Int} (h : 1048576 ≤ m) : rwOk m = false := Bool.eq_false_iff.2 fun k => by have := (rwOk_iff.1 k).2.1; omega
theorem rw_f3 {m : Int} {k : Nat} (hk : k < 8) (h : dgt m.toNat k = 3) : rwOk m = false := Bool.eq_false_iff.2 fun q => (rwOk_iff.1 q).2.2 k hk h
theorem rw_t {m : Int} (h1 : 65536 ≤ m) (h2 : m < 1048576) {k : Nat} (hk : k = 8) (h : ∀ q, q < k → ¬ dgt m.toNat q = 3) : rwOk m = true := rwOk_iff.2 ⟨h1, h2, fun q hq => h q (by omega)⟩
theorem row_no {m : Int} (h : rwOk m = false) : Value.tuple #[.agg #[.int .u8 0, .int .u8 0, .int .u8 0], .int .i64 1] = .tuple #[rowV (rowR m), .int .i64 (if rwOk m = true then 0 else 1)] := by
  unfold rowR
  rw [if_neg (by rw [h]; decide), if_neg (by rw [h]; decide)]
  rfl
theorem row_noB {m : Int} (h : rwOk m = false) : Value.tuple #[.agg #[.int .u8 0, .int .u8 0, .int .u8 0], .bool false] = .tuple #[rowV (rowR m), .bool (rwOk m)] := by
  unfold rowR
  rw [if_neg (by rw [h]; decide), h]
  rfl
theorem row_yes {m : Int} (h : rwOk m = true) : Value.tuple #[.agg #[.int .u8 ((mkT m.toNat 8 : Nat) : Int), .int .u8 ((vlT m.toNat 8 : Nat) : Int), .int .u8 ((m.toNat / 65536 : Nat) : Int)], .int .i64 0] = .tuple #[rowV (rowR m), .int .i64 (if rwOk m = true then 0 else 1)] := by
  unfold rowR
  rw [if_pos h, if_pos h]
theorem row_yesB {m : Int} (h : rwOk m = true) : Value.tuple #[.agg #[.int .u8 ((mkT m.toNat 8 : Nat) : Int), .int .u8 ((vlT m.toNat 8 : Nat) : Int), .int .u8 ((m.toNat / 65536 : Nat) : Int)], .bool true] = .tuple #[rowV (rowR m), .bool (rwOk m)] := by
  unfold rowR
  rw [if_pos h, h]
theorem rowR_lt (m : Int) : (rowR m).c.m < 256 ∧ (rowR m).c.v < 256 ∧ (rowR m).o < 256 := by
  unfold rowR
  split
  · rename_i h
    obtain ⟨h1, h2, _⟩ := rwOk_iff.1 h
    have := mkT_lt m.toNat 8
    have := vlT_lt m.toNat 8
    simp only
    omega
  · decide
/-! ### Primes of a set, from the first input on -/
theorem of_fre {s n : Nat} (h : ofB s (n : Int) = true) : n ≤ 8 ∧ Fre n s 0 := by
  unfold ofB at h
  obtain ⟨h1, h2⟩ := Bool.and_eq_true_iff.1 h
  obtain ⟨h3, h4⟩ := Bool.and_eq_true_iff.1 h2
  have h8 : n ≤ 8 := by have := of_decide_eq_true h3; omega
  rw [Int.toNat_natCast] at h4
  refine ⟨h8, fre_zero fun p hp hb => ?_⟩
  have := withinB_iff.1 h4 p hp hb
  rw [allS_testBit] at this
  exact of_decide_eq_true this
theorem of_within {s n : Nat} (h : ofB s (n : Int) = true) : withinB s (allS n) = true := by
  unfold ofB at h
  have := (Bool.and_eq_true_iff.1 (Bool.and_eq_true_iff.1 h).2).2
  rwa [Int.toNat_natCast] at this
theorem of_not {s : Nat} {n : Int} (h : ofB s n = false) (h0 : 0 ≤ n ∧ n ≤ 8) : withinB s (allS n.toNat) = false := by
  unfold ofB at h
  rwa [decide_eq_true h0.1, decide_eq_true h0.2, Bool.true_and, Bool.true_and] at h
theorem all_val {n : Nat} (h : n ≤ 8) {v : Value} (hv : v = if 0 ≤ (n : Int) ∧ (n : Int) ≤ 8 then .tuple #[setV (allS (n : Int).toNat), .int .i64 0] else .tuple #[setV 0, .int .i64 1]) : v = .tuple #[setV (allS n), .int .i64 0] := by
  rw [if_pos (by omega), Int.toNat_natCast] at hv
  exact hv

/-! ### The document's members and rows -/
theorem dg3 {m k : Nat} (h : m.testBit (2 * k) = true) (h2 : m.testBit (2 * k + 1) = true) : dgt m k = 3 := by rw [dgt_bits, if_pos h, if_pos h2]
theorem dg1 {m k : Nat} (h : m.testBit (2 * k) = true) (h2 : m.testBit (2 * k + 1) = false) : dgt m k = 1 := by rw [dgt_bits, if_pos h, if_neg (by rw [h2]; decide)]
theorem dg2 {m k : Nat} (h : m.testBit (2 * k) = false) (h2 : m.testBit (2 * k + 1) = true) : dgt m k = 2 := by rw [dgt_bits, if_neg (by rw [h]; decide), if_pos h2]
theorem dg0 {m k : Nat} (h : m.testBit (2 * k) = false) (h2 : m.testBit (2 * k + 1) = false) : dgt m k = 0 := by rw [dgt_bits, if_neg (by rw [h]; decide), if_neg (by rw [h2]; decide)]
def dl (m q : Nat) : Int := if dgt m q = 1 then 0 else if dgt m q = 2 then 1 else 2
def rlT (m k : Nat) : List Int := (List.range k).map (dl m)
theorem rl_s (m k : Nat) : rlT m (k + 1) = rlT m k ++ [dl m k] := by simp [rlT, List.range_succ]
theorem rl_len (m k : Nat) : (rlT m k).length = k := by simp [rlT]
theorem rl_get {m k q : Nat} (h : q < k) : (rlT m k).getD q 0 = dl m q := by
  unfold rlT
  rw [List.getD_eq_getElem?_getD, List.getElem?_map, List.getElem?_range h]
  rfl
theorem rl_0 {m k : Nat} (h : dgt m k = 1) : rlT m k ++ [0] = rlT m (k + 1) := by rw [rl_s, dl, if_pos h]
theorem rl_1 {m k : Nat} (h : dgt m k = 2) : rlT m k ++ [1] = rlT m (k + 1) := by rw [rl_s, dl, if_neg (by omega), if_pos h]
theorem rl_2 {m k : Nat} (h : dgt m k = 0) : rlT m k ++ [2] = rlT m (k + 1) := by rw [rl_s, dl, if_neg (by omega), if_neg (by omega)]
theorem rl_lits (m : Nat) : Lits (rlT m 8) := by
  refine ⟨by rw [rl_len]; exact Nat.le_refl _, fun i hi => ?_⟩
  rw [rl_len] at hi
  rw [rl_get hi]
  unfold dl
  split
  · exact .inl rfl
  · split
    · exact .inr (.inl rfl)
    · exact .inr (.inr rfl)
theorem rl_mask {m : Nat} (h : ∀ k, k < 8 → ¬ dgt m k = 3) : ∀ k, k ≤ 8 → maskTo (rlT m 8) k = mkT m k ∧ valTo (rlT m 8) k = vlT m k
  | 0, _ => ⟨rfl, rfl⟩
  | k + 1, hk => by
    obtain ⟨h1, h2⟩ := rl_mask h k (by omega)
    have h3 := h k (by omega)
    have h4 : dgt m k < 4 := Nat.mod_lt _ (by decide)
    rw [maskTo, valTo, mkT, vlT, rl_get (by omega), h1, h2]
    unfold dl
    have : dgt m k = 0 ∨ dgt m k = 1 ∨ dgt m k = 2 := by omega
    rcases this with q | q | q <;> rw [q] <;> simp
theorem div_bit {m j : Nat} : (m / 65536).testBit j = m.testBit (16 + j) := by
  have := Nat.testBit_div_two_pow m (n := 16) j
  rw [show (2 : Nat) ^ 16 = 65536 from rfl] at this
  rw [this, Nat.add_comm]
theorem outd_t {m j : Nat} (h : m.testBit (16 + j) = true) : m / 65536 % 2 ^ j + 2 ^ j = m / 65536 % 2 ^ (j + 1) := (modp_t (div_bit.trans h)).symm
theorem outd_f {m j : Nat} (h : m.testBit (16 + j) = false) : m / 65536 % 2 ^ j = m / 65536 % 2 ^ (j + 1) := (modp_f (div_bit.trans h)).symm
theorem pow_le8 {j : Nat} (h : j < 4) : 2 ^ j ≤ 8 := by
  have := Nat.pow_le_pow_right (show 0 < 2 by decide) (show j ≤ 3 by omega)
  simpa using this
theorem lit_b {m v i : Nat} (h : ¬ lit m v i = 2) : m.testBit i = true := by
  refine Bool.of_not_eq_false fun k => h ?_
  exact lit_two.2 k
theorem lit_v {m v i : Nat} (h : m.testBit i = true) : lit m v i = if v.testBit i = true then 1 else 0 := by
  unfold lit
  have h1 : ¬ m / 2 ^ i % 2 = 0 := by rw [Nat.testBit_eq_decide_div_mod_eq] at h; have := of_decide_eq_true h; omega
  rw [if_neg h1]
  simp only [Nat.testBit_eq_decide_div_mod_eq, decide_eq_true_iff]
  split <;> omega
theorem mem_lit {m v i : Nat} (h : m.testBit i = true) : (memT m v i : Int) + ((2 ^ (2 * (i : Int) + lit m v i).toNat : Nat) : Int) = ((memT m v (i + 1) : Nat) : Int) := by
  rw [memT, if_pos h, lit_v h]
  have e : (2 * (i : Int) + (if v.testBit i = true then 1 else 0)).toNat = 2 * i + (if v.testBit i = true then 1 else 0) := by split <;> omega
  rw [e]
  exact (Int.natCast_add _ _).symm
theorem ot_int {c : Cb} {o j : Nat} (h : o.testBit j = true) : ((memC c + otT o j : Nat) : Int) + ((2 ^ (16 + (j : Int)).toNat : Nat) : Int) = ((memC c + otT o (j + 1) : Nat) : Int) := by
  rw [← ot_t h, show (16 + (j : Int)).toNat = 16 + j by omega]
  omega
theorem ot_end (c : Cb) (o : Nat) : memC c + otT o 4 = memRw ⟨c, o⟩ := rfl
def memI (x : Rw) : Int := ((memRw x : Nat) : Int)
def memsT (l : List Rw) (k : Nat) : List Int := ofI ((l.take k).map memI)
theorem mems_s {l : List Rw} {k : Nat} (h : k < l.length) : withI (memsT l k) (memI (l.getD k ⟨⟨0, 0⟩, 0⟩)) = memsT l (k + 1) := by
  unfold memsT
  rw [ofI_snoc]
  congr 1
  rw [List.take_succ_eq_append_getElem h, List.map_append, List.getD_eq_getElem?_getD, List.getElem?_eq_getElem h]
  rfl
theorem mems_len (l : List Rw) (k : Nat) : (memsT l k).length ≤ l.length := by
  unfold memsT
  refine Nat.le_trans (ofI_len _) ?_
  simp; omega
def vmT (m v k : Nat) : Nat := (v &&& m) % 2 ^ k
theorem vm_t {m v k : Nat} (h : m.testBit k = true) (h2 : v.testBit k = true) : vmT m v k + 2 ^ k = vmT m v (k + 1) := (modp_t (by rw [Nat.testBit_and, h, h2]; rfl)).symm
theorem vm_f {m v k : Nat} (h : m.testBit k = false ∨ v.testBit k = false) : vmT m v k = vmT m v (k + 1) := (modp_f (by rw [Nat.testBit_and]; rcases h with h | h <;> rw [h] <;> simp)).symm
theorem vm_e {m v : Nat} (h : m < 256) : vmT m v 8 = v &&& m := Nat.mod_eq_of_lt (Nat.lt_of_le_of_lt Nat.and_le_right h)
theorem row_none {m : Int} (h : rwOk m = false) : rowR m = ⟨⟨0, 0⟩, 0⟩ := by unfold rowR; rw [if_neg (by rw [h]; decide)]

end Go.Proofs.Ytpamgfbecgjjeaa
