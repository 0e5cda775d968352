/-
  Plain words for thinning: rows without what is not needed. No program in it.
-/
import Derived.Test.YtdbcijijhhbkaaaCov
import Derived.Test.YtdbcijijhhbkaaaEdit
import Derived.Test.YtdbcijijhhbkaaaRef10
namespace Go.Proofs.Ytdbcijijhhbkaaa
set_option linter.unusedVariables false
set_option linter.unusedSimpArgs false
open Go Go.RowKit


def lessR (x : Rw) (k : Nat) : Rw := ⟨x.c, x.o - 2 ^ k⟩
def lessL (l : List Rw) (i k : Nat) : List Rw := l.set i (lessR (l.getD i ⟨⟨0, 0⟩, 0⟩) k)
def kpR (x : Rw) : List Rw := if 0 < x.o then [x] else []
def someL (l : List Rw) : List Rw := l.filter fun x => decide (0 < x.o)
def someN (l : List Rw) (k : Nat) : List Rw := someL (l.take k)
/-- Rows without an output of a row, the program's way. -/
def withL (l : List Rw) (i k : Nat) : List Rw :=
  if andNot (l.getD i ⟨⟨0, 0⟩, 0⟩).o (2 ^ k) = 0 then l.take i ++ l.drop (i + 1) else l.set i ⟨(l.getD i ⟨⟨0, 0⟩, 0⟩).c, andNot (l.getD i ⟨⟨0, 0⟩, 0⟩).o (2 ^ k)⟩

def PosL (l : List Rw) : Prop := ∀ x, x ∈ l → 0 < x.o
theorem someL_app (a b : List Rw) : someL (a ++ b) = someL a ++ someL b := List.filter_append ..
theorem someL_one (x : Rw) : someL [x] = kpR x := by
  unfold someL kpR
  by_cases h : 0 < x.o
  · rw [if_pos h, List.filter_cons_of_pos (by simpa using h)]; rfl
  · rw [if_neg h, List.filter_cons_of_neg (by simpa using h)]; rfl
theorem someL_cons (x : Rw) (b : List Rw) : someL (x :: b) = kpR x ++ someL b := by rw [← someL_one, ← someL_app]; rfl
theorem someL_pos {l : List Rw} (h : PosL l) : someL l = l := List.filter_eq_self.2 fun x hx => decide_eq_true (h x hx)
theorem posL_some (l : List Rw) : PosL (someL l) := fun x hx => of_decide_eq_true (List.mem_filter.1 hx).2
theorem PosL.app {a b : List Rw} (ha : PosL a) (hb : PosL b) : PosL (a ++ b) := fun x hx => (List.mem_append.1 hx).elim (ha x) (hb x)
theorem PosL.kp (x : Rw) : PosL (kpR x) := fun y hy => by
  unfold kpR at hy
  split at hy
  · simp at hy; subst hy; assumption
  · cases hy
theorem PosL.drop {l : List Rw} (h : PosL l) (k : Nat) : PosL (l.drop k) := fun x hx => h x (List.mem_of_mem_drop hx)
theorem kpR_len (x : Rw) : (kpR x).length = if 0 < x.o then 1 else 0 := by unfold kpR; split <;> rfl
theorem kpR_pos {x : Rw} (h : 0 < x.o) : kpR x = [x] := if_pos h
theorem kpR_none {x : Rw} (h : x.o = 0) : kpR x = [] := if_neg (by omega)
theorem posL_cov {S : Sp} {l : List Rw} (h : covB S l = true) : PosL l := fun x hx => by
  obtain ⟨k, hk, rfl⟩ := mem_getD (d := ⟨⟨0, 0⟩, 0⟩) hx
  exact (okR_iff.1 (mayL_iff.1 (covB_iff.1 h).2.1 k hk)).2.1

theorem less_bit {o k : Nat} (h : o.testBit k = true) : andNot o (2 ^ k) = o - 2 ^ k := by
  have hlow : (andNot o (2 ^ k)).testBit k = false := by rw [andNot_testBit]; simp
  have hs := bit_add hlow
  have e : andNot o (2 ^ k) ||| 2 ^ k = o := Nat.eq_of_testBit_eq fun j => by
    rw [Nat.testBit_or, andNot_testBit, Nat.testBit_two_pow]
    by_cases hj : k = j
    · subst hj; simp [h]
    · simp [hj]
  rw [e] at hs
  omega
theorem less_testBit {o k : Nat} (h : o.testBit k = true) (j : Nat) : (o - 2 ^ k).testBit j = (o.testBit j && !decide (k = j)) := by
  rw [← less_bit h, andNot_testBit, Nat.testBit_two_pow]
theorem less_le (o k : Nat) : o - 2 ^ k ≤ o := Nat.sub_le _ _
theorem bit_ge {o k : Nat} (h : o.testBit k = true) : 2 ^ k ≤ o := Nat.ge_two_pow_of_testBit h

theorem getD_mid {A B : List Rw} {x d : Rw} {i : Nat} (hi : i = A.length) : (A ++ x :: B).getD i d = x := by
  subst hi
  rw [List.getD_eq_getElem?_getD, List.getElem?_append_right (Nat.le_refl _), Nat.sub_self]
  rfl
theorem set_mid {A B : List Rw} {x y : Rw} {i : Nat} (hi : i = A.length) : (A ++ x :: B).set i y = A ++ y :: B := by
  subst hi
  rw [List.set_append, if_neg (by omega), Nat.sub_self]
  rfl
theorem take_mid {A B : List Rw} {x : Rw} {i : Nat} (hi : i = A.length) : (A ++ x :: B).take i = A := by subst hi; exact List.take_left
theorem drop_mid {A B : List Rw} {x : Rw} {i : Nat} (hi : i = A.length) : (A ++ x :: B).drop (i + 1) = B := by
  subst hi
  rw [List.drop_append, List.drop_eq_nil_of_le (by omega), show A.length + 1 - A.length = 1 by omega]
  rfl
theorem with_mid {A B : List Rw} {x : Rw} {i k : Nat} (hi : i = A.length) (hb : x.o.testBit k = true) : withL (A ++ x :: B) i k = A ++ kpR (lessR x k) ++ B := by
  unfold withL
  rw [getD_mid hi, less_bit hb, take_mid hi, drop_mid hi, set_mid hi]
  by_cases h : x.o - 2 ^ k = 0
  · rw [if_pos h, kpR_none h, List.append_nil]
  · rw [if_neg h, kpR_pos (show 0 < (lessR x k).o from Nat.pos_of_ne_zero h)]
    simp [lessR]
theorem split_at {l : List Rw} {i : Nat} (hi : i < l.length) : l = l.take i ++ l.getD i ⟨⟨0, 0⟩, 0⟩ :: l.drop (i + 1) := by
  rw [List.getD_eq_getElem?_getD, List.getElem?_eq_getElem hi]
  simp
theorem drop_at {l : List Rw} {i : Nat} (hi : i < l.length) : l.drop i = l.getD i ⟨⟨0, 0⟩, 0⟩ :: l.drop (i + 1) := by
  rw [List.getD_eq_getElem?_getD, List.getElem?_eq_getElem hi]
  simp
theorem with_some {l : List Rw} {i k : Nat} (hp : PosL l) (hi : i < l.length) (hb : (l.getD i ⟨⟨0, 0⟩, 0⟩).o.testBit k = true) : withL l i k = someL (lessL l i k) := by
  have hA : i = (l.take i).length := by rw [List.length_take]; omega
  have e := split_at hi
  have h1 : withL l i k = l.take i ++ kpR (lessR (l.getD i ⟨⟨0, 0⟩, 0⟩) k) ++ l.drop (i + 1) := by
    conv => lhs; rw [e]
    exact with_mid hA hb
  have h2 : lessL l i k = l.take i ++ lessR (l.getD i ⟨⟨0, 0⟩, 0⟩) k :: l.drop (i + 1) := by
    unfold lessL
    conv => lhs; arg 1; rw [e]
    exact set_mid hA
  rw [h1, h2, someL_app, someL_cons, someL_pos (fun x hx => hp x (List.mem_of_mem_take hx)), someL_pos (hp.drop _), List.append_assoc]

theorem getD_set {l : List Rw} {i : Nat} {x d : Rw} (hi : i < l.length) : (l.set i x).getD i d = x := by
  rw [List.getD_eq_getElem?_getD, List.getElem?_set_self hi]; rfl
theorem with_t {l : List Rw} {i k : Nat} (hi : i < l.length) (h : (((l.set i ⟨(l.getD i ⟨⟨0, 0⟩, 0⟩).c, andNot (l.getD i ⟨⟨0, 0⟩, 0⟩).o (1 * 2 ^ k)⟩).getD i ⟨⟨0, 0⟩, 0⟩).o : Int) = 0) :
    (l.set i ⟨(l.getD i ⟨⟨0, 0⟩, 0⟩).c, andNot (l.getD i ⟨⟨0, 0⟩, 0⟩).o (1 * 2 ^ k)⟩).take i ++ (l.set i ⟨(l.getD i ⟨⟨0, 0⟩, 0⟩).c, andNot (l.getD i ⟨⟨0, 0⟩, 0⟩).o (1 * 2 ^ k)⟩).drop (i + 1) = withL l i k := by
  rw [getD_set hi, Nat.one_mul] at h
  unfold withL
  rw [if_pos (show andNot (l.getD i ⟨⟨0, 0⟩, 0⟩).o (2 ^ k) = 0 from Int.ofNat_inj.1 h), List.take_set_of_le (Nat.le_refl _), List.drop_set_of_lt (Nat.lt_succ_self _)]
theorem with_f {l : List Rw} {i k : Nat} (hi : i < l.length) (h : ¬ (((l.set i ⟨(l.getD i ⟨⟨0, 0⟩, 0⟩).c, andNot (l.getD i ⟨⟨0, 0⟩, 0⟩).o (1 * 2 ^ k)⟩).getD i ⟨⟨0, 0⟩, 0⟩).o : Int) = 0) :
    l.set i ⟨(l.getD i ⟨⟨0, 0⟩, 0⟩).c, andNot (l.getD i ⟨⟨0, 0⟩, 0⟩).o (1 * 2 ^ k)⟩ = withL l i k := by
  rw [getD_set hi, Nat.one_mul] at h
  unfold withL
  rw [if_neg (show ¬ andNot (l.getD i ⟨⟨0, 0⟩, 0⟩).o (2 ^ k) = 0 from fun e => h (congrArg Int.ofNat e)), Nat.one_mul]
theorem someN_t {l : List Rw} {k : Nat} (hk : k < l.length) (h0 : (0 : Int) < ((l.getD k ⟨⟨0, 0⟩, 0⟩).o : Int)) : someN l k ++ [l.getD k ⟨⟨0, 0⟩, 0⟩] = someN l (k + 1) := by
  have h : 0 < (l.getD k ⟨⟨0, 0⟩, 0⟩).o := by omega
  clear h0
  unfold someN
  rw [List.take_add_one, someL_app, List.getD_eq_getElem?_getD] at *
  rw [List.getElem?_eq_getElem hk] at *
  simp only [Option.getD_some] at *
  rw [Option.toList_some, someL_one, kpR_pos h]
theorem someN_f {l : List Rw} {k : Nat} (hk : k < l.length) (h0 : ¬ (0 : Int) < ((l.getD k ⟨⟨0, 0⟩, 0⟩).o : Int)) : someN l k = someN l (k + 1) := by
  have h : ¬ 0 < (l.getD k ⟨⟨0, 0⟩, 0⟩).o := by omega
  clear h0
  unfold someN
  rw [List.take_add_one, someL_app, List.getD_eq_getElem?_getD] at *
  rw [List.getElem?_eq_getElem hk] at *
  simp only [Option.getD_some] at *
  rw [Option.toList_some, someL_one, kpR, if_neg h, List.append_nil]
theorem two8_mod (j : Nat) : 2 ^ j % 256 * 2 % 256 = 2 ^ (j + 1) % 256 := by rw [Nat.pow_succ]; omega
theorem someN_end (l : List Rw) : someN l l.length = someL l := by unfold someN; rw [List.take_length]
theorem someN_len (l : List Rw) (k : Nat) : (someN l k).length ≤ k := Nat.le_trans (List.length_filter_le ..) (by rw [List.length_take]; omega)
theorem someL_len (l : List Rw) : (someL l).length ≤ l.length := List.length_filter_le ..
theorem withL_len (l : List Rw) (i k : Nat) : (withL l i k).length ≤ l.length := by
  unfold withL
  split
  · rw [List.length_append, List.length_take, List.length_drop]; omega
  · rw [List.length_set]; exact Nat.le_refl _
theorem lessL_len (l : List Rw) (i k : Nat) : (lessL l i k).length = l.length := List.length_set

/-! ### The rounds -/
def outO (S : Sp) (A B : List Rw) (c : Cb) (o : Nat) : Nat → Nat
  | 0 => o
  | k + 1 => if (outO S A B c o k).testBit k = true ∧ covB S (A ++ kpR ⟨c, outO S A B c o k - 2 ^ k⟩ ++ B) = true then outO S A B c o k - 2 ^ k else outO S A B c o k
def thA (S : Sp) (l : List Rw) : Nat → List Rw
  | 0 => []
  | j + 1 => thA S l j ++ kpR ⟨(l.getD j ⟨⟨0, 0⟩, 0⟩).c, outO S (thA S l j) (l.drop (j + 1)) (l.getD j ⟨⟨0, 0⟩, 0⟩).c (l.getD j ⟨⟨0, 0⟩, 0⟩).o S.on.length⟩
def thO (S : Sp) (l : List Rw) (j k : Nat) : Nat := outO S (thA S l j) (l.drop (j + 1)) (l.getD j ⟨⟨0, 0⟩, 0⟩).c (l.getD j ⟨⟨0, 0⟩, 0⟩).o k
def thX (S : Sp) (l : List Rw) (j k : Nat) : Rw := ⟨(l.getD j ⟨⟨0, 0⟩, 0⟩).c, thO S l j k⟩
def thT (S : Sp) (l : List Rw) (j k : Nat) : List Rw := thA S l j ++ kpR (thX S l j k) ++ l.drop (j + 1)
def thinR (S : Sp) (l : List Rw) : List Rw := thA S l l.length
theorem thA_succ (S : Sp) (l : List Rw) (j : Nat) : thA S l (j + 1) = thA S l j ++ kpR (thX S l j S.on.length) := rfl
theorem thO_step (S : Sp) (l : List Rw) (j k : Nat) : thO S l j (k + 1) = if (thO S l j k).testBit k = true ∧ covB S (thA S l j ++ kpR (lessR (thX S l j k) k) ++ l.drop (j + 1)) = true then thO S l j k - 2 ^ k else thO S l j k := rfl
theorem th_t {S : Sp} {l : List Rw} {j k : Nat} (h1 : (thO S l j k).testBit k = true) (h2 : covB S (thA S l j ++ kpR (lessR (thX S l j k) k) ++ l.drop (j + 1)) = true) : thO S l j (k + 1) = thO S l j k - 2 ^ k := by rw [thO_step, if_pos ⟨h1, h2⟩]
theorem th_f {S : Sp} {l : List Rw} {j k : Nat} (h : ¬ ((thO S l j k).testBit k = true ∧ covB S (thA S l j ++ kpR (lessR (thX S l j k) k) ++ l.drop (j + 1)) = true)) : thO S l j (k + 1) = thO S l j k := by rw [thO_step, if_neg h]
theorem thO_le (S : Sp) (l : List Rw) (j : Nat) : ∀ k, thO S l j k ≤ (l.getD j ⟨⟨0, 0⟩, 0⟩).o
  | 0 => Nat.le_refl _
  | k + 1 => by
    rw [thO_step]
    have := thO_le S l j k
    split
    · have := less_le (thO S l j k) k; omega
    · exact this
theorem thO_sub (S : Sp) (l : List Rw) (j : Nat) : ∀ k q, (thO S l j k).testBit q = true → (l.getD j ⟨⟨0, 0⟩, 0⟩).o.testBit q = true
  | 0, q, h => h
  | k + 1, q, h => by
    rw [thO_step] at h
    split at h
    · rename_i hc
      rw [less_testBit hc.1, Bool.and_eq_true] at h
      exact thO_sub S l j k q h.1
    · exact thO_sub S l j k q h
theorem thO_mono (S : Sp) (l : List Rw) (j : Nat) (k : Nat) : ∀ e q, (thO S l j (k + e)).testBit q = true → (thO S l j k).testBit q = true
  | 0, q, h => h
  | e + 1, q, h => by
    rw [← Nat.add_assoc, thO_step] at h
    split at h
    · rename_i hc
      rw [less_testBit hc.1, Bool.and_eq_true] at h
      exact thO_mono S l j k e q h.1
    · exact thO_mono S l j k e q h
theorem RowB.nil : RowB [] := fun x hx => by cases hx
theorem RowB.any {l : List Rw} (h : RowB l) (k : Nat) : (l.getD k ⟨⟨0, 0⟩, 0⟩).o < 256 := by
  by_cases hk : k < l.length
  · exact (h.get hk).2.2
  · rw [List.getD_eq_getElem?_getD, List.getElem?_eq_none (by omega)]; decide
theorem RowB.app {a b : List Rw} (ha : RowB a) (hb : RowB b) : RowB (a ++ b) := fun x hx => (List.mem_append.1 hx).elim (ha x) (hb x)
theorem RowB.drop {l : List Rw} (h : RowB l) (k : Nat) : RowB (l.drop k) := fun x hx => h x (List.mem_of_mem_drop hx)
theorem RowB.take {l : List Rw} (h : RowB l) (k : Nat) : RowB (l.take k) := fun x hx => h x (List.mem_of_mem_take hx)
theorem RowB.kp {x : Rw} (h : x.c.m < 256 ∧ x.c.v < 256 ∧ x.o < 256) : RowB (kpR x) := fun y hy => by
  unfold kpR at hy
  split at hy
  · simp at hy; subst hy; exact h
  · cases hy
theorem RowB.some {l : List Rw} (h : RowB l) : RowB (someL l) := fun x hx => h x (List.mem_filter.1 hx).1
theorem RowB.set {l : List Rw} (h : RowB l) {i : Nat} {x : Rw} (hx : x.c.m < 256 ∧ x.c.v < 256 ∧ x.o < 256) : RowB (l.set i x) := fun y hy => (List.mem_or_eq_of_mem_set hy).elim (h y) (fun e => e ▸ hx)
theorem thX_b {S : Sp} {l : List Rw} (h : RowB l) {j : Nat} (hj : j < l.length) (k : Nat) : (thX S l j k).c.m < 256 ∧ (thX S l j k).c.v < 256 ∧ (thX S l j k).o < 256 := by
  obtain ⟨h1, h2, h3⟩ := h.get hj
  have := thO_le S l j k
  exact ⟨h1, h2, show thO S l j k < 256 by omega⟩
theorem thA_b {S : Sp} {l : List Rw} (h : RowB l) : ∀ j, j ≤ l.length → RowB (thA S l j)
  | 0, _ => RowB.nil
  | j + 1, hj => by rw [thA_succ]; exact (thA_b h j (by omega)).app (RowB.kp (thX_b h (by omega) _))
theorem thT_b {S : Sp} {l : List Rw} (h : RowB l) {j : Nat} (hj : j < l.length) (k : Nat) : RowB (thT S l j k) := ((thA_b h j (by omega)).app (RowB.kp (thX_b h hj k))).app (h.drop _)
theorem thA_pos (S : Sp) (l : List Rw) : ∀ j, PosL (thA S l j)
  | 0 => fun x hx => by cases hx
  | j + 1 => by rw [thA_succ]; exact (thA_pos S l j).app (PosL.kp _)
theorem thA_len (S : Sp) (l : List Rw) : ∀ j, (thA S l j).length ≤ j
  | 0 => Nat.le_refl _
  | j + 1 => by
    have := thA_len S l j
    rw [thA_succ, List.length_append, kpR_len]
    split <;> omega
theorem thT_len {S : Sp} {l : List Rw} {j k : Nat} (hj : j < l.length) : (thT S l j k).length = (thA S l j).length + (if 0 < thO S l j k then 1 else 0) + (l.length - (j + 1)) := by
  unfold thT
  rw [List.length_append, List.length_append, kpR_len, List.length_drop]
  rfl
theorem thT_zero {S : Sp} {l : List Rw} {j : Nat} (hp : PosL l) (hj : j < l.length) : thA S l j ++ l.drop j = thT S l j 0 := by
  unfold thT
  rw [drop_at hj, kpR_pos (x := thX S l j 0) (hp _ (getD_mem hj)), List.append_assoc]
  rfl
theorem thT_end (S : Sp) (l : List Rw) (j : Nat) : thT S l j S.on.length = thA S l (j + 1) ++ l.drop (j + 1) := by rw [thA_succ]; rfl
theorem thT_on {S : Sp} {l : List Rw} {j k : Nat} (h : 0 < thO S l j k) : thT S l j k = thA S l j ++ thX S l j k :: l.drop (j + 1) := by
  unfold thT
  rw [kpR_pos (x := thX S l j k) h, List.append_assoc]
  rfl
theorem thT_get {S : Sp} {l : List Rw} {j k : Nat} (h : 0 < thO S l j k) : (thT S l j k).getD (thA S l j).length ⟨⟨0, 0⟩, 0⟩ = thX S l j k := by
  rw [thT_on h]; exact getD_mid rfl
theorem thT_with {S : Sp} {l : List Rw} {j k : Nat} (hb : (thO S l j k).testBit k = true) : withL (thT S l j k) (thA S l j).length k = thA S l j ++ kpR (lessR (thX S l j k) k) ++ l.drop (j + 1) := by
  rw [thT_on (pos_bit hb)]
  exact with_mid rfl hb
theorem thT_t {S : Sp} {l : List Rw} {j k : Nat} (hb : (thO S l j k).testBit k = true) (hc : covB S (withL (thT S l j k) (thA S l j).length k) = true) : withL (thT S l j k) (thA S l j).length k = thT S l j (k + 1) := by
  rw [thT_with hb] at hc ⊢
  unfold thT thX
  rw [th_t hb hc]
  rfl
theorem thT_f {S : Sp} {l : List Rw} {j k : Nat} (h : (thO S l j k).testBit k = false ∨ covB S (withL (thT S l j k) (thA S l j).length k) = false) : thT S l j k = thT S l j (k + 1) := by
  have : thO S l j (k + 1) = thO S l j k := th_f fun ⟨h1, h2⟩ => by
    rcases h with h | h
    · rw [h1] at h; cases h
    · rw [thT_with h1, h2] at h; cases h
  unfold thT thX
  rw [this]

/-! ### The document's way: rows that have no output stay -/
def fuA (S : Sp) (l : List Rw) : Nat → List Rw
  | 0 => []
  | j + 1 => fuA S l j ++ [thX S l j S.on.length]
def fuT (S : Sp) (l : List Rw) (j k : Nat) : List Rw := fuA S l j ++ thX S l j k :: l.drop (j + 1)
theorem fuA_len (S : Sp) (l : List Rw) : ∀ j, (fuA S l j).length = j
  | 0 => rfl
  | j + 1 => by rw [fuA, List.length_append, fuA_len S l j]; rfl
theorem someL_fuA (S : Sp) (l : List Rw) : ∀ j, someL (fuA S l j) = thA S l j
  | 0 => rfl
  | j + 1 => by rw [fuA, someL_app, someL_one, someL_fuA S l j, thA_succ]
theorem fuT_zero {S : Sp} {l : List Rw} {j : Nat} (hj : j < l.length) : fuA S l j ++ l.drop j = fuT S l j 0 := by unfold fuT; rw [drop_at hj]; rfl
theorem fuT_end (S : Sp) (l : List Rw) (j : Nat) : fuT S l j S.on.length = fuA S l (j + 1) ++ l.drop (j + 1) := by unfold fuT; rw [fuA, List.append_assoc]; rfl
theorem fuT_len {S : Sp} {l : List Rw} {j k : Nat} (hj : j < l.length) : (fuT S l j k).length = l.length := by
  unfold fuT
  rw [List.length_append, fuA_len, List.length_cons, List.length_drop]
  omega
theorem fuT_get (S : Sp) (l : List Rw) (j k : Nat) : (fuT S l j k).getD j ⟨⟨0, 0⟩, 0⟩ = thX S l j k := getD_mid (fuA_len S l j).symm
theorem fuT_less (S : Sp) (l : List Rw) (j k : Nat) : lessL (fuT S l j k) j k = fuA S l j ++ lessR (thX S l j k) k :: l.drop (j + 1) := by
  unfold lessL
  rw [fuT_get]
  exact set_mid (fuA_len S l j).symm
theorem fuT_some {S : Sp} {l : List Rw} {j k : Nat} (hp : PosL l) : someL (lessL (fuT S l j k) j k) = thA S l j ++ kpR (lessR (thX S l j k) k) ++ l.drop (j + 1) := by
  rw [fuT_less, someL_app, someL_cons, someL_fuA, someL_pos (hp.drop _), List.append_assoc]
theorem fuT_t {S : Sp} {l : List Rw} {j k : Nat} (hp : PosL l) (hb : ((fuT S l j k).getD j ⟨⟨0, 0⟩, 0⟩).o.testBit k = true) (hc : covB S (someL (lessL (fuT S l j k) j k)) = true) : lessL (fuT S l j k) j k = fuT S l j (k + 1) := by
  rw [fuT_get] at hb
  rw [fuT_some hp] at hc
  rw [fuT_less]
  unfold fuT thX
  rw [th_t hb hc]
  rfl
theorem fuT_f {S : Sp} {l : List Rw} {j k : Nat} (hp : PosL l) (h : ((fuT S l j k).getD j ⟨⟨0, 0⟩, 0⟩).o.testBit k = false ∨ covB S (someL (lessL (fuT S l j k) j k)) = false) : fuT S l j k = fuT S l j (k + 1) := by
  have : thO S l j (k + 1) = thO S l j k := th_f fun ⟨h1, h2⟩ => by
    rcases h with h | h
    · rw [fuT_get] at h
      rw [show (thX S l j k).o.testBit k = true from h1] at h; cases h
    · rw [fuT_some hp, h2] at h; cases h
  unfold fuT thX
  rw [this]
theorem fuA_b {S : Sp} {l : List Rw} (h : RowB l) : ∀ j, j ≤ l.length → RowB (fuA S l j)
  | 0, _ => RowB.nil
  | j + 1, hj => by
    rw [fuA]
    refine (fuA_b h j (by omega)).app fun x hx => ?_
    simp at hx
    subst hx
    exact thX_b h (by omega) _
theorem fuT_b {S : Sp} {l : List Rw} (h : RowB l) {j : Nat} (hj : j < l.length) (k : Nat) : RowB (fuT S l j k) := (fuA_b h j (by omega)).app fun x hx => by
  rcases List.mem_cons.1 hx with rfl | hx
  · exact thX_b h hj k
  · exact h.drop _ x hx
theorem lessR_b {x : Rw} (h : x.c.m < 256 ∧ x.c.v < 256 ∧ x.o < 256) (k : Nat) : (lessR x k).c.m < 256 ∧ (lessR x k).c.v < 256 ∧ (lessR x k).o < 256 := ⟨h.1, h.2.1, by have := less_le x.o k; show x.o - 2 ^ k < 256; omega⟩

/-! ### Is all needed? -/
def nbR (S : Sp) (l : List Rw) (i k : Nat) : Bool := (l.getD i ⟨⟨0, 0⟩, 0⟩).o.testBit k && covB S (someL (lessL l i k))
def neededR (S : Sp) (l : List Rw) : Bool := covB S l && (List.range l.length).all fun i => (List.range S.on.length).all fun k => !nbR S l i k
theorem neededR_iff {S : Sp} {l : List Rw} : neededR S l = true ↔ covB S l = true ∧ ∀ i, i < l.length → ∀ k, k < S.on.length → nbR S l i k = false := by
  unfold neededR
  rw [Bool.and_eq_true, List.all_eq_true]
  constructor
  · rintro ⟨h1, h2⟩
    refine ⟨h1, fun i hi k hk => ?_⟩
    have := List.all_eq_true.1 (h2 i (List.mem_range.2 hi)) k (List.mem_range.2 hk)
    simpa using this
  · rintro ⟨h1, h2⟩
    refine ⟨h1, fun i hi => List.all_eq_true.2 fun k hk => ?_⟩
    rw [h2 i (List.mem_range.1 hi) k (List.mem_range.1 hk)]
    rfl

theorem needed_f {S : Sp} {l : List Rw} (h : covB S l = false) : Value.bool false = .bool (neededR S l) := vb_f fun k => by rw [(neededR_iff.1 k).1] at h; cases h
theorem needed_k {S : Sp} {l : List Rw} {i k : Nat} (hi : i < l.length) (hk : k < S.on.length) (h : nbR S l i k = true) : Value.bool false = .bool (neededR S l) := vb_f fun hn => by rw [(neededR_iff.1 hn).2 i hi k hk] at h; cases h
theorem nb_f1 {S : Sp} {l : List Rw} {i k : Nat} (h : (l.getD i ⟨⟨0, 0⟩, 0⟩).o.testBit k = false) : nbR S l i k = false := by unfold nbR; rw [h]; rfl
theorem nb_2 {S : Sp} {l : List Rw} {i k : Nat} {b : Bool} (h : (l.getD i ⟨⟨0, 0⟩, 0⟩).o.testBit k = true) (h2 : covB S (someL (lessL l i k)) = b) : nbR S l i k = b := by unfold nbR; rw [h, h2]; rfl
theorem nb_with {S : Sp} {l : List Rw} {i k : Nat} {b : Bool} (hp : PosL l) (hi : i < l.length) (h : (l.getD i ⟨⟨0, 0⟩, 0⟩).o.testBit k = true) (h2 : covB S (withL l i k) = b) : nbR S l i k = b := nb_2 h (by rw [← with_some hp hi h]; exact h2)
theorem kpL (x : Rw) : (kpR x).length ≤ 1 ∧ ((kpR x).length = 1 → 0 < x.o) ∧ (¬ (kpR x).length = 1 → x.o = 0) := by
  rw [kpR_len]
  split
  · exact ⟨Nat.le_refl _, fun _ => by assumption, fun h => absurd rfl h⟩
  · exact ⟨Nat.zero_le _, fun h => (by cases h), fun _ => (by omega)⟩
theorem thT_len2 {S : Sp} {l : List Rw} {j k : Nat} : (thT S l j k).length = (thA S l j).length + (kpR (thX S l j k)).length + (l.length - (j + 1)) := by
  unfold thT
  rw [List.length_append, List.length_append, List.length_drop]
theorem thD_len {S : Sp} {l : List Rw} {j : Nat} : (thA S l j ++ l.drop j).length = (thA S l j).length + (l.length - j) := by rw [List.length_append, List.length_drop]
theorem withL_b {l : List Rw} (h : RowB l) {i : Nat} (hi : i < l.length) (k : Nat) : RowB (withL l i k) := by
  unfold withL
  obtain ⟨h1, h2, h3⟩ := h.get hi
  split
  · exact (h.take _).app (h.drop _)
  · exact h.set ⟨h1, h2, by have := andNot_le (l.getD i ⟨⟨0, 0⟩, 0⟩).o (2 ^ k); show andNot _ _ < 256; omega⟩
theorem lessL_b {l : List Rw} (h : RowB l) {i : Nat} (hi : i < l.length) (k : Nat) : RowB (lessL l i k) := h.set (lessR_b (h.get hi) k)
theorem bit_no0 {o k : Nat} (h : ((o / 2 ^ ((k : Nat) : Int).toNat &&& 1 : Nat) : Int) = 0) : o.testBit k = false := Bool.eq_false_iff.2 fun hb => by
  have := shr_bit.2 hb
  rw [Int.toNat_natCast] at h
  rw [h] at this
  cases this
theorem bit_yes0 {o k : Nat} (h : ¬ ((o / 2 ^ ((k : Nat) : Int).toNat &&& 1 : Nat) : Int) = 0) : o.testBit k = true := Classical.byContradiction fun hb => h (by
  have hb : o.testBit k = false := by simpa using hb
  rw [bit_dec, decide_eq_false_iff_not] at hb
  rw [Int.toNat_natCast, and_one]
  omega)
theorem zero_bit {o k : Nat} (h : o = 0) : o.testBit k = false := by subst h; exact Nat.zero_testBit k

/-! ### What covers less -/
def LeL (a b : List Rw) : Prop := ∀ x, x ∈ a → ∃ y, y ∈ b ∧ x.c = y.c ∧ ∀ j, x.o.testBit j = true → y.o.testBit j = true
theorem LeL.refl (a : List Rw) : LeL a a := fun x hx => ⟨x, hx, rfl, fun _ h => h⟩
theorem LeL.trans {a b c : List Rw} (h : LeL a b) (k : LeL b c) : LeL a c := fun x hx => by
  obtain ⟨y, hy, h1, h2⟩ := h x hx
  obtain ⟨z, hz, h3, h4⟩ := k y hy
  exact ⟨z, hz, h1.trans h3, fun j hj => h4 j (h2 j hj)⟩
theorem LeL.app {a b c d : List Rw} (h : LeL a b) (k : LeL c d) : LeL (a ++ c) (b ++ d) := fun x hx => by
  rcases List.mem_append.1 hx with hx | hx
  · obtain ⟨y, hy, h⟩ := h x hx; exact ⟨y, List.mem_append.2 (.inl hy), h⟩
  · obtain ⟨y, hy, h⟩ := k x hx; exact ⟨y, List.mem_append.2 (.inr hy), h⟩
theorem LeL.kp {x y : Rw} (hc : x.c = y.c) (ho : ∀ j, x.o.testBit j = true → y.o.testBit j = true) : LeL (kpR x) (kpR y) := fun z hz => by
  unfold kpR at hz
  split at hz
  · rename_i hp
    simp at hz
    subst hz
    obtain ⟨j, hj⟩ := exists_bit hp
    exact ⟨y, by rw [kpR_pos (pos_bit (ho j hj))]; exact List.mem_singleton.2 rfl, hc, ho⟩
  · cases hz
theorem LeL.cv {a b : List Rw} (h : LeL a b) {p o : Nat} (hc : cvB a p o = true) : cvB b p o = true := by
  unfold cvB at *
  rw [List.any_eq_true] at *
  obtain ⟨x, hx, h1⟩ := hc
  obtain ⟨y, hy, e, h2⟩ := h x hx
  refine ⟨y, hy, ?_⟩
  rw [Bool.and_eq_true] at *
  exact ⟨h2 o h1.1, e ▸ h1.2⟩
theorem mayL_mem {S : Sp} {l : List Rw} : mayL S l = true ↔ ∀ x, x ∈ l → okR S x = true := by unfold mayL; exact List.all_eq_true
theorem LeL.may {S : Sp} {a b : List Rw} (h : LeL a b) (hp : PosL a) (k : mayL S b = true) : mayL S a = true := mayL_mem.2 fun x hx => by
  obtain ⟨y, hy, e, h2⟩ := h x hx
  obtain ⟨h3, _, h5⟩ := okR_iff.1 (mayL_mem.1 k y hy)
  refine okR_iff.2 ⟨e ▸ h3, hp x hx, lt_two.2 fun j hj => Bool.eq_false_iff.2 fun hb => ?_⟩
  have := h2 j hb
  rw [lt_two.1 h5 j hj] at this
  cases this
/-- What lies between two coverings covers too. -/
theorem cov_mono {S : Sp} {a b u : List Rw} (ha : covB S a = true) (hu : covB S u = true) (h1 : LeL a b) (h2 : LeL b u) (hp : PosL b) : covB S b = true := by
  obtain ⟨hr, hma, hca⟩ := covB_iff.1 ha
  obtain ⟨_, hmu, hcu⟩ := covB_iff.1 hu
  have hmb := h2.may hp hmu
  refine covB_iff.2 ⟨hr, hmb, fun o ho => (covO_iff hr hmb ho).2 fun p hpn => ?_⟩
  exact ⟨fun h => h1.cv (((covO_iff hr hma ho).1 (hca o ho) p hpn).1 h), fun h => ((covO_iff hr hmu ho).1 (hcu o ho) p hpn).2 (h2.cv h)⟩

theorem thA_le {S : Sp} {l : List Rw} : ∀ j, j ≤ l.length → LeL (thA S l j) (l.take j)
  | 0, _ => fun x hx => by cases hx
  | j + 1, hj => by
    have e : l.take (j + 1) = l.take j ++ [l.getD j ⟨⟨0, 0⟩, 0⟩] := by
      rw [List.take_add_one, List.getD_eq_getElem?_getD, List.getElem?_eq_getElem (show j < l.length by omega)]
      rfl
    rw [thA_succ, e]
    refine (thA_le j (by omega)).app fun x hx => ⟨_, List.mem_singleton.2 rfl, ?_⟩
    unfold kpR at hx
    split at hx
    · simp at hx; subst hx; exact ⟨rfl, fun q hq => thO_sub S l j _ q hq⟩
    · cases hx
theorem thT_cov {S : Sp} {l : List Rw} (h : covB S l = true) : ∀ j, j ≤ l.length → covB S (thA S l j ++ l.drop j) = true
  | 0, _ => h
  | j + 1, hj => by
    have ih := thT_cov h j (by omega)
    rw [thT_zero (posL_cov h) (by omega)] at ih
    rw [← thT_end]
    have : ∀ k, covB S (thT S l j k) = true := fun k => by
      induction k with
      | zero => exact ih
      | succ k ihk =>
        by_cases hb : (thO S l j k).testBit k = true
        · by_cases hc : covB S (withL (thT S l j k) (thA S l j).length k) = true
          · rw [← thT_t hb hc]; exact hc
          · rw [← thT_f (.inr (by simpa using hc))]; exact ihk
        · rw [← thT_f (.inl (by simpa using hb))]; exact ihk
    exact this _
theorem thin_cov {S : Sp} {l : List Rw} (h : covB S l = true) : covB S (thinR S l) = true := by
  have := thT_cov h l.length (Nat.le_refl _)
  rwa [List.drop_length, List.append_nil] at this
theorem thA_prefix (S : Sp) (l : List Rw) (j : Nat) : ∀ e, thA S l j <+: thA S l (j + e)
  | 0 => List.prefix_refl _
  | e + 1 => by rw [← Nat.add_assoc, thA_succ]; exact (thA_prefix S l j e).trans (List.prefix_append _ _)
/-- Which row of l an element of the thinned rows is. -/
theorem thA_from {S : Sp} {l : List Rw} : ∀ m i, i < (thA S l m).length → ∃ j, j < m ∧ (thA S l j).length = i ∧ 0 < thO S l j S.on.length ∧ (thA S l m).getD i ⟨⟨0, 0⟩, 0⟩ = thX S l j S.on.length
  | 0, i, h => by cases h
  | m + 1, i, h => by
    rw [thA_succ] at h ⊢
    by_cases hi : i < (thA S l m).length
    · obtain ⟨j, hj, h1, h2, h3⟩ := thA_from m i hi
      refine ⟨j, by omega, h1, h2, ?_⟩
      rw [← h3, List.getD_eq_getElem?_getD, List.getElem?_append_left hi, List.getD_eq_getElem?_getD]
    · rw [List.length_append, kpR_len] at h
      have hp : 0 < (thX S l m S.on.length).o := Classical.byContradiction fun hn => by rw [if_neg hn] at h; omega
      rw [if_pos hp] at h
      refine ⟨m, by omega, by omega, hp, ?_⟩
      rw [kpR_pos hp]
      exact getD_mid (by omega)
theorem thA_rest {S : Sp} {l : List Rw} (hp : PosL l) {j m : Nat} (hjm : j ≤ m) (hm : m ≤ l.length) : LeL ((thA S l m).drop (thA S l j).length) (l.drop j) := by
  induction m with
  | zero =>
    obtain rfl : j = 0 := by omega
    exact fun x hx => by simp [thA] at hx
  | succ m ih =>
    by_cases e : j = m + 1
    · subst e
      rw [List.drop_length]
      exact fun x hx => by cases hx
    · have hjm' : j ≤ m := by omega
      have hpre := (thA_prefix S l j (m - j)).length_le
      rw [show j + (m - j) = m by omega] at hpre
      rw [thA_succ, List.drop_append_of_le_length hpre]
      intro x hx
      rcases List.mem_append.1 hx with hx | hx
      · exact ih hjm' (by omega) x hx
      · unfold kpR at hx
        split at hx
        · simp at hx
          subst hx
          refine ⟨l.getD m ⟨⟨0, 0⟩, 0⟩, ?_, rfl, fun q hq => thO_sub S l m _ q hq⟩
          have := getD_mem (d := ⟨⟨0, 0⟩, 0⟩) (show m - j < (l.drop j).length by rw [List.length_drop]; omega)
          rwa [List.getD_eq_getElem?_getD, List.getElem?_drop, show j + (m - j) = m by omega, ← List.getD_eq_getElem?_getD] at this
        · cases hx
/-- All of thinned rows is needed. -/
theorem thin_needed {S : Sp} {l : List Rw} (h : covB S l = true) : neededR S (thinR S l) = true := by
  have hpl := posL_cov h
  refine neededR_iff.2 ⟨thin_cov h, fun i hi k hk => Bool.eq_false_iff.2 fun hn => ?_⟩
  unfold nbR at hn
  rw [Bool.and_eq_true] at hn
  obtain ⟨hb, hc⟩ := hn
  obtain ⟨j, hj, h1, h2, h3⟩ := thA_from l.length i hi
  have hp2 : PosL (thinR S l) := thA_pos S l l.length
  have hb' : (thO S l j S.on.length).testBit k = true := by
    rw [show (thinR S l).getD i ⟨⟨0, 0⟩, 0⟩ = _ from h3] at hb
    exact hb
  have hbk1 : (thO S l j (k + 1)).testBit k = true := by
    have := thO_mono S l j (k + 1) (S.on.length - (k + 1)) k
    rw [show k + 1 + (S.on.length - (k + 1)) = S.on.length by omega] at this
    exact this hb'
  have hbk : (thO S l j k).testBit k = true := thO_mono S l j k 1 k hbk1
  have hno : ¬ covB S (thA S l j ++ kpR (lessR (thX S l j k) k) ++ l.drop (j + 1)) = true := fun hcc => by
    rw [th_t hbk hcc, less_testBit hbk] at hbk1
    simp at hbk1
  apply hno
  -- the thinned rows, without that output
  have hpre := thA_prefix S l j (l.length - j)
  rw [show j + (l.length - j) = l.length by omega] at hpre
  have htk : (thinR S l).take i = thA S l j := by rw [← h1]; exact (List.prefix_iff_eq_take.1 hpre).symm
  have hlen : (thA S l (j + 1)).length = i + 1 := by rw [thA_succ, List.length_append, kpR_len, if_pos (show 0 < (thX S l j S.on.length).o from h2), h1]
  have hdr := thA_rest (S := S) hpl (show j + 1 ≤ l.length by omega) (Nat.le_refl _)
  rw [hlen] at hdr
  have hx := split_at (l := thinR S l) (i := i) hi
  have hA : i = ((thinR S l).take i).length := by rw [List.length_take]; exact (Nat.min_eq_left (Nat.le_of_lt hi)).symm
  have e : someL (lessL (thinR S l) i k) = thA S l j ++ kpR (lessR (thX S l j S.on.length) k) ++ (thinR S l).drop (i + 1) := by
    have h2 : lessL (thinR S l) i k = (thinR S l).take i ++ lessR ((thinR S l).getD i ⟨⟨0, 0⟩, 0⟩) k :: (thinR S l).drop (i + 1) := by
      unfold lessL
      conv => lhs; arg 1; rw [hx]
      exact set_mid hA
    rw [h2, someL_app, someL_cons, htk, someL_pos (thA_pos S l j), someL_pos (hp2.drop _), show (thinR S l).getD i ⟨⟨0, 0⟩, 0⟩ = _ from h3, List.append_assoc]
  rw [e] at hc
  have hle1 : LeL (thA S l j ++ kpR (lessR (thX S l j S.on.length) k) ++ (thinR S l).drop (i + 1)) (thA S l j ++ kpR (lessR (thX S l j k) k) ++ l.drop (j + 1)) := by
    refine LeL.app (LeL.app (LeL.refl (thA S l j)) (LeL.kp (x := lessR (thX S l j S.on.length) k) (y := lessR (thX S l j k) k) rfl fun q hq => ?_)) hdr
    have hq' : (thO S l j S.on.length - 2 ^ k).testBit q = true := hq
    show (thO S l j k - 2 ^ k).testBit q = true
    rw [less_testBit hb', Bool.and_eq_true] at hq'
    rw [less_testBit hbk, Bool.and_eq_true]
    refine ⟨?_, hq'.2⟩
    have := thO_mono S l j k (S.on.length - k) q
    rw [show k + (S.on.length - k) = S.on.length by omega] at this
    exact this hq'.1
  have hle2 : LeL (thA S l j ++ kpR (lessR (thX S l j k) k) ++ l.drop (j + 1)) l := by
    conv => rhs; rw [split_at hj]
    rw [List.append_assoc]
    refine (thA_le j (by omega)).app ?_
    refine LeL.trans ?_ (LeL.refl (l.getD j ⟨⟨0, 0⟩, 0⟩ :: l.drop (j + 1)))
    rw [show l.getD j ⟨⟨0, 0⟩, 0⟩ :: l.drop (j + 1) = [l.getD j ⟨⟨0, 0⟩, 0⟩] ++ l.drop (j + 1) from rfl]
    refine LeL.app (fun x hx => ⟨_, List.mem_singleton.2 rfl, ?_⟩) (LeL.refl _)
    unfold kpR at hx
    split at hx
    · simp at hx
      subst hx
      refine ⟨rfl, fun q hq => ?_⟩
      have hq' : (thO S l j k - 2 ^ k).testBit q = true := hq
      rw [less_testBit hbk, Bool.and_eq_true] at hq'
      exact thO_sub S l j k q hq'.1
    · cases hx
  exact cov_mono hc h hle1 hle2 (((thA_pos S l j).app (PosL.kp _)).app (hpl.drop _))

/-- What is all needed stays. -/
theorem thin_same {S : Sp} {t : List Rw} (h : neededR S t = true) : thinR S t = t := by
  obtain ⟨hc, hn⟩ := neededR_iff.1 h
  have hp := posL_cov hc
  have key : ∀ j, j ≤ t.length → thA S t j = t.take j := fun j => by
    induction j with
    | zero => intro _; rfl
    | succ j ih =>
      intro hj
      have ih := ih (by omega)
      have hjl : j < t.length := by omega
      have hk : ∀ k, k ≤ S.on.length → thO S t j k = (t.getD j ⟨⟨0, 0⟩, 0⟩).o := fun k => by
        induction k with
        | zero => intro _; rfl
        | succ k ihk =>
          intro hk
          have e := ihk (by omega)
          rw [th_f, e]
          rintro ⟨h1, h2⟩
          rw [e] at h1
          have := hn j hjl k (by omega)
          unfold nbR at this
          rw [h1, Bool.true_and, ← with_some hp hjl h1] at this
          rw [ih] at h2
          have e2 : withL t j k = t.take j ++ kpR (lessR (t.getD j ⟨⟨0, 0⟩, 0⟩) k) ++ t.drop (j + 1) := by
            conv => lhs; rw [split_at hjl]
            exact with_mid (by rw [List.length_take]; omega) h1
          rw [e2] at this
          have e3 : thX S t j k = t.getD j ⟨⟨0, 0⟩, 0⟩ := by unfold thX; rw [e]
          rw [e3, this] at h2
          cases h2
      have e3 : thX S t j S.on.length = t.getD j ⟨⟨0, 0⟩, 0⟩ := by unfold thX; rw [hk _ (Nat.le_refl _)]
      rw [thA_succ, e3, kpR_pos (hp _ (getD_mem hjl)), ih, List.take_add_one, List.getD_eq_getElem?_getD, List.getElem?_eq_getElem hjl]
      rfl
  unfold thinR
  rw [key _ (Nat.le_refl _), List.take_length]

end Go.Proofs.Ytdbcijijhhbkaaa
