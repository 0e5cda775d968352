/-
  Cubes, lines and tables as texts. No program in it.
-/
import Derived.Test.YtnkaebjaeaecmaaGreatDoorNum
import Derived.Test.YtnkaebjaeaecmaaGreatDoorPrime
namespace Go.Proofs.YtnkaebjaeaecmaaGreatDoor
set_option linter.unusedVariables false
set_option linter.unusedSimpArgs false
open Go Go.RowKit

/-! ### A cube's text -/
def chOk (b : Nat) : Bool := b == 45 || b == 48 || b == 49
def pmT (s : List UInt8) : Nat → Nat
  | 0 => 0
  | k + 1 => if byN s k = 48 ∨ byN s k = 49 then pmT s k ||| 1 * 2 ^ k else pmT s k
def pvT (s : List UInt8) : Nat → Nat
  | 0 => 0
  | k + 1 => if byN s k = 49 then pvT s k ||| 1 * 2 ^ k else pvT s k
def cubT (s : List UInt8) : Cb := ⟨pmT s s.length, pvT s s.length⟩
def cubOk (s : List UInt8) : Bool := decide (s.length ≤ 8) && (List.range s.length).all fun i => chOk (byN s i)
section
variable {s : List UInt8} {i r n : Nat}
theorem pmT_lt (s : List UInt8) : ∀ k, pmT s k < 2 ^ k
  | 0 => by simp [pmT]
  | k + 1 => by
    have h := pmT_lt s k
    have e : 2 ^ (k + 1) = 2 * 2 ^ k := by rw [Nat.pow_succ]; omega
    rw [pmT]
    split
    · exact Nat.or_lt_two_pow (by omega) (by rw [Nat.one_mul]; exact Nat.pow_lt_pow_right (by decide) (Nat.lt_succ_self k))
    · omega
theorem pvT_lt (s : List UInt8) : ∀ k, pvT s k < 2 ^ k
  | 0 => by simp [pvT]
  | k + 1 => by
    have h := pvT_lt s k
    have e : 2 ^ (k + 1) = 2 * 2 ^ k := by rw [Nat.pow_succ]; omega
    rw [pvT]
    split
    · exact Nat.or_lt_two_pow (by omega) (by rw [Nat.one_mul]; exact Nat.pow_lt_pow_right (by decide) (Nat.lt_succ_self k))
    · omega
theorem pmT_1 (h : byN s i = 48 ∨ byN s i = 49) : pmT s i ||| 1 * 2 ^ i = pmT s (i + 1) := (if_pos h).symm
theorem pmT_0 (h : ¬ (byN s i = 48 ∨ byN s i = 49)) : pmT s i = pmT s (i + 1) := (if_neg h).symm
theorem pvT_1 (h : byN s i = 49) : pvT s i ||| 1 * 2 ^ i = pvT s (i + 1) := (if_pos h).symm
theorem pvT_0 (h : ¬ byN s i = 49) : pvT s i = pvT s (i + 1) := (if_neg h).symm
theorem cub_yes (h8 : s.length ≤ 8) (h : ∀ q, q < s.length → chOk (byN s q) = true) : cubOk s = true := by
  unfold cubOk
  rw [decide_eq_true h8, Bool.true_and]
  exact List.all_eq_true.2 fun q hq => h q (List.mem_range.1 hq)
theorem cub_no8 (h : ¬ s.length ≤ 8) : cubOk s = false := by unfold cubOk; rw [decide_eq_false h, Bool.false_and]
theorem cub_no (hi : i < s.length) (h : chOk (byN s i) = false) : cubOk s = false := by
  unfold cubOk
  rw [Bool.and_eq_false_iff]
  refine .inr (Bool.eq_false_iff.2 fun k => ?_)
  rw [List.all_eq_true.1 k i (List.mem_range.2 hi)] at h
  cases h
/-- The rune is none of the three, so the byte is none. -/
theorem rune_no (h : (byN s i < 128 ∧ r = byN s i ∧ n = i + 1) ∨ (128 ≤ byN s i ∧ 128 ≤ r ∧ r ≤ 2147483647)) (h1 : ¬ (r : Int) = 49) (h0 : ¬ (r : Int) = 48) (hd : ¬ (r : Int) = 45) : chOk (byN s i) = false := by
  unfold chOk
  have e1 : ¬ byN s i = 45 := by omega
  have e2 : ¬ byN s i = 48 := by omega
  have e3 : ¬ byN s i = 49 := by omega
  simp [e1, e2, e3]
theorem ch_of (h : byN s i = 49 ∨ byN s i = 48 ∨ byN s i = 45) : chOk (byN s i) = true := by rcases h with h | h | h <;> rw [h] <;> rfl
end

/-! ### Tables -/
structure LnV where
  c : Cb
  o : Value
structure Ln where
  c : Cb
  os : List Int
  deriving DecidableEq
structure Tb where
  kind : Int
  ni : Int
  no : Int
  ls : List Ln
  deriving DecidableEq
def encLn (x : LnV) : List Value := [.int .u8 (x.c.m : Int), .int .u8 (x.c.v : Int), x.o]
theorem encLn_len (x : LnV) : (encLn x).length = 3 := rfl
abbrev lv0 : LnV := ⟨⟨0, 0⟩, undef⟩
abbrev ln0 : Ln := ⟨⟨0, 0⟩, []⟩
/-- The lines as they lie, and as they read. -/
structure LsAt (w : World) (vs : List LnV) (ls : List Ln) : Prop where
  len : vs.length = ls.length
  c : ∀ i, i < ls.length → (vs.getD i lv0).c = (ls.getD i ln0).c
  o : ∀ i, i < ls.length → SlT encI 1 w (vs.getD i lv0).o (ls.getD i ln0).os
theorem LsAt.below {w W : World} {vs : List LnV} {ls : List Ln} (h : Go.RowKit.Below w.heap.size w W) (k : LsAt w vs ls) : LsAt W vs ls := ⟨k.len, k.c, fun i hi => Below.slT h (k.o i hi)⟩
theorem one_ln {a b : Int} {v : Value} (h : v.oneCell' = true) : (#[Value.int .u8 a, .int .u8 b, v] : Array Value).toList.all Value.oneCell' = true := by
  simp only [List.all_cons, List.all_nil, h]
  rfl
theorem bool_f {b : Bool} (h : (!b) = false) : b = true := by cases b <;> simp_all
theorem bool_t {b : Bool} (h : (!b) = true) : b = false := by cases b <;> simp_all
def outOk (no : Int) (l : Ln) : Bool := decide ((l.os.length : Int) = no) && l.os.all fun x => decide (0 ≤ x) && decide (x < 3)
def lnOk (ni no : Int) (l : Ln) : Bool := rightB l.c.m l.c.v ni && outOk no l
def rightT (T : Tb) : Bool := decide (0 ≤ T.kind ∧ T.kind ≤ 3 ∧ 0 ≤ T.ni ∧ T.ni ≤ 8 ∧ 1 ≤ T.no ∧ T.no ≤ 4 ∧ T.ls.length ≤ 64) && T.ls.all (lnOk T.ni T.no)
section
variable {T : Tb} {k j : Nat}
theorem rightT_f (h : ¬ (0 ≤ T.kind ∧ T.kind ≤ 3 ∧ 0 ≤ T.ni ∧ T.ni ≤ 8 ∧ 1 ≤ T.no ∧ T.no ≤ 4 ∧ T.ls.length ≤ 64)) : Value.bool false = .bool (rightT T) := by
  unfold rightT; rw [decide_eq_false h, Bool.false_and]
theorem getD_memL {α : Type} {l : List α} {k : Nat} {d : α} (h : k < l.length) : l.getD k d ∈ l := by
  rw [List.getD_eq_getElem?_getD, List.getElem?_eq_getElem h]; exact List.getElem_mem h
theorem rightT_k (hk : k < T.ls.length) (h : lnOk T.ni T.no (T.ls.getD k ln0) = false) : Value.bool false = .bool (rightT T) := by
  unfold rightT
  congr 1
  rw [eq_comm, Bool.and_eq_false_iff]
  refine .inr (Bool.eq_false_iff.2 fun q => ?_)
  rw [List.all_eq_true.1 q _ (getD_memL hk)] at h
  cases h
theorem all_getD {α : Type} {l : List α} {d : α} {p : α → Bool} (h : ∀ q, q < l.length → p (l.getD q d) = true) : l.all p = true := by
  refine List.all_eq_true.2 fun x hx => ?_
  obtain ⟨i, hi, rfl⟩ := List.getElem_of_mem hx
  have := h i hi
  rw [List.getD_eq_getElem?_getD, List.getElem?_eq_getElem hi] at this
  exact this
theorem rightT_t (h : 0 ≤ T.kind ∧ T.kind ≤ 3 ∧ 0 ≤ T.ni ∧ T.ni ≤ 8 ∧ 1 ≤ T.no ∧ T.no ≤ 4 ∧ T.ls.length ≤ 64) (hq : ∀ q, q < T.ls.length → lnOk T.ni T.no (T.ls.getD q ln0) = true) : Value.bool true = .bool (rightT T) := by
  unfold rightT; rw [decide_eq_true h, Bool.true_and, all_getD hq]
theorem ln_1 {ni no : Int} {l : Ln} (h : rightB l.c.m l.c.v ni = false) : lnOk ni no l = false := by unfold lnOk; rw [h, Bool.false_and]
theorem ln_2 {ni no : Int} {l : Ln} (h : ¬ (l.os.length : Int) = no) : lnOk ni no l = false := by unfold lnOk outOk; rw [decide_eq_false h, Bool.false_and, Bool.and_false]
theorem ln_3 {ni no : Int} {l : Ln} (hj : j < l.os.length) (h : ¬ (0 ≤ l.os.getD j 0 ∧ l.os.getD j 0 < 3)) : lnOk ni no l = false := by
  unfold lnOk outOk
  have : (l.os.all fun x => decide (0 ≤ x) && decide (x < 3)) = false := Bool.eq_false_iff.2 fun q => h (by
    have := List.all_eq_true.1 q _ (getD_memL (d := 0) hj)
    simpa using this)
  rw [this, Bool.and_false, Bool.and_false]
theorem ln_4 {ni no : Int} {l : Ln} (h1 : rightB l.c.m l.c.v ni = true) (h2 : (l.os.length : Int) = no) (h : ∀ q, q < l.os.length → 0 ≤ l.os.getD q 0 ∧ l.os.getD q 0 < 3) : lnOk ni no l = true := by
  unfold lnOk outOk
  rw [h1, decide_eq_true h2, Bool.true_and, Bool.true_and]
  exact all_getD (d := 0) fun q hq => by simpa using h q hq
end
def greatT (T : Tb) : Bool := (T.ls.any fun l => decide (20 < l.os.length)) || decide (100 < T.ls.length)
section
variable {T : Tb} {k : Nat}
theorem greatT_y (hk : k < T.ls.length) (h : ((T.ls.getD k ln0).os.length : Int) > 20) : Value.bool true = .bool (greatT T) := by
  unfold greatT
  rw [List.any_eq_true.2 ⟨_, getD_memL (d := ln0) hk, decide_eq_true (by omega)⟩, Bool.true_or]
theorem greatT_n {n : Nat} (hn : n = T.ls.length) (h : ∀ q, q < T.ls.length → ¬ ((T.ls.getD q ln0).os.length : Int) > 20) : Value.bool (decide ((n : Int) > 100)) = .bool (greatT T) := by
  unfold greatT
  have e : (T.ls.any fun l => decide (20 < l.os.length)) = false := by
    rw [List.any_eq_false]
    intro x hx
    obtain ⟨i, hi, rfl⟩ := List.getElem_of_mem hx
    have := h i hi
    rw [List.getD_eq_getElem?_getD, List.getElem?_eq_getElem hi] at this
    simp only [Option.getD_some] at this
    simp only [decide_eq_true_eq]
    omega
  rw [e, Bool.false_or]
  congr 1
  rw [decide_eq_decide]
  omega
end
section
variable {T U : Tb} {k j : Nat} {vs us : List LnV} {w : World}
end

end Go.Proofs.YtnkaebjaeaecmaaGreatDoor
