/-
  The plain law of texts: what is printed is read as it; what is read is right. No program in it.
-/
import Derived.Test.YtnkaebjaeaecmaaGreatDoorPars
namespace Go.Proofs.YtnkaebjaeaecmaaGreatDoor
set_option linter.unusedVariables false
set_option linter.unusedSimpArgs false
open Go Go.RowKit

/-! ### Cubes' texts, read -/
section
variable {s : List UInt8} {m u i k n : Nat}
theorem bit1 (k i : Nat) : (1 * 2 ^ k).testBit i = decide (i = k) := by
  rw [Nat.one_mul, Nat.testBit_two_pow]
  exact decide_eq_decide.2 ⟨fun h => h.symm, fun h => h.symm⟩
theorem pm_bit (s : List UInt8) : ∀ k i, (pmT s k).testBit i = (decide (i < k) && decide (byN s i = 48 ∨ byN s i = 49))
  | 0, i => by simp [pmT]
  | k + 1, i => by
    rw [pmT]
    by_cases h : byN s k = 48 ∨ byN s k = 49
    · rw [if_pos h, Nat.testBit_or, pm_bit s k i, bit1]
      by_cases hi : i = k
      · subst hi; simp [h]
      · have e : decide (i < k + 1) = decide (i < k) := decide_eq_decide.2 (by omega)
        rw [e, decide_eq_false hi, Bool.or_false]
    · rw [if_neg h, pm_bit s k i]
      by_cases hi : i = k
      · subst hi; simp [h]
      · have e : decide (i < k + 1) = decide (i < k) := decide_eq_decide.2 (by omega)
        rw [e]
theorem pv_bit (s : List UInt8) : ∀ k i, (pvT s k).testBit i = (decide (i < k) && decide (byN s i = 49))
  | 0, i => by simp [pvT]
  | k + 1, i => by
    rw [pvT]
    by_cases h : byN s k = 49
    · rw [if_pos h, Nat.testBit_or, pv_bit s k i, bit1]
      by_cases hi : i = k
      · subst hi; simp [h]
      · have e : decide (i < k + 1) = decide (i < k) := decide_eq_decide.2 (by omega)
        rw [e, decide_eq_false hi, Bool.or_false]
    · rw [if_neg h, pv_bit s k i]
      by_cases hi : i = k
      · subst hi; simp [h]
      · have e : decide (i < k + 1) = decide (i < k) := decide_eq_decide.2 (by omega)
        rw [e]
theorem cubT_right (h : s.length ≤ 8) : rightB (cubT s).m (cubT s).v (s.length : Int) = true := by
  refine rightB_iff.2 ⟨by omega, by omega, by rw [Int.toNat_natCast]; exact pmT_lt s s.length, ?_⟩
  refine Nat.eq_of_testBit_eq fun i => ?_
  show (pvT s s.length &&& pmT s s.length).testBit i = (pvT s s.length).testBit i
  rw [Nat.testBit_and, pm_bit, pv_bit]
  by_cases h1 : i < s.length <;> by_cases h2 : byN s i = 49 <;> simp [h1, h2]
theorem cubOk_len (h : cubOk s = true) : s.length ≤ 8 := by
  unfold cubOk at h
  rw [Bool.and_eq_true] at h
  exact of_decide_eq_true h.1
end

/-! ### A line of the table -/
section
variable {l : Ln} {ni no : Int} {line : List UInt8}
theorem row_right (h : rowOk ni no line = true) : lnOk ni no (rowL line) = true := by
  obtain ⟨_, h2, h3, h4, h5⟩ := rowOk_iff.1 h
  refine lnOk_iff.2 ⟨?_, ?_, ?_⟩
  · rw [← h3]; exact cubT_right (cubOk_len h2)
  · show ((outsR _).length : Int) = no
    rw [outsR_len]; exact h4
  · intro x hx
    obtain ⟨b, hb, rfl⟩ := List.mem_map.1 hx
    obtain ⟨i, hi, rfl⟩ := List.getElem_of_mem hb
    have h6 := h5 i hi
    have e : byN (Lib.cut line [32]).2.1 i = ((Lib.cut line [32]).2.1[i]).toNat := by
      unfold byN
      rw [List.getD_eq_getElem?_getD, List.getElem?_eq_getElem hi]
      rfl
    rw [e] at h6
    generalize ((Lib.cut line [32]).2.1[i]).toNat = b at h6
    unfold chOk at h6
    simp only [Bool.or_eq_true, beq_iff_eq] at h6
    rcases h6 with (h6 | h6) | h6 <;> subst h6 <;> decide
end

/-! ### What is read is right -/
theorem numP_in {line word : List UInt8} {lo hi : Int} (h0 : 0 ≤ lo) (h : numP line word lo hi ≥ 0) : lo ≤ numP line word lo hi ∧ numP line word lo hi ≤ hi := by
  unfold numP at *
  cases hn : numO line word with
  | none => rw [hn] at h; simp only at h; omega
  | some n =>
    rw [hn] at h
    simp only at h ⊢
    by_cases hc : lo ≤ n ∧ (n : Int) ≤ hi
    · rw [if_pos hc]; exact hc
    · rw [if_neg hc] at h; omega
structure RdOk (r : Rd) : Prop where
  k0 : 0 ≤ r.T.kind
  k3 : r.T.kind ≤ 3
  i : 1 ≤ r.st → 0 ≤ r.T.ni ∧ r.T.ni ≤ 8
  o : 2 ≤ r.st → 1 ≤ r.T.no ∧ r.T.no ≤ 4
  len : r.T.ls.length ≤ 64
  all : ∀ l, l ∈ r.T.ls → lnOk r.T.ni r.T.no l = true
  early : r.st < 4 → r.T.ls = []
  s0 : 0 ≤ r.st
theorem okE_0 {b : Bool} (h : okE b = 0) : b = true := by
  unfold okE at h
  cases b
  · cases h
  · rfl
section
variable {r : Rd} {l : List UInt8}
theorem RdOk.take (h : RdOk r) (he : (takeT r l).2 = 0) : RdOk (takeT r l).1 := by
  have hlen := take_len h.len he
  have hs0 := h.s0
  revert he hlen
  unfold takeT
  by_cases h0 : r.st = 0
  · rw [if_pos h0]
    intro he _
    have hn := numP_in (by decide) (of_decide_eq_true (okE_0 he))
    have hl := h.early (by omega)
    exact ⟨h.k0, h.k3, fun _ => hn, fun h2 => absurd h2 (by show ¬ 2 ≤ r.st + 1; omega), h.len, fun l hl2 => (by rw [show ({ r.T with ni := numP _ [46, 105] 0 8 } : Tb).ls = [] from hl] at hl2; cases hl2), fun _ => hl, by show 0 ≤ r.st + 1; omega⟩
  rw [if_neg h0]
  by_cases h1 : r.st = 1
  · rw [if_pos h1]
    intro he _
    have hn := numP_in (by decide) (of_decide_eq_true (okE_0 he))
    have hl := h.early (by omega)
    exact ⟨h.k0, h.k3, fun _ => h.i (by omega), fun _ => hn, h.len, fun l hl2 => (by rw [show ({ r.T with no := numP _ [46, 111] 1 4 } : Tb).ls = [] from hl] at hl2; cases hl2), fun _ => hl, by show 0 ≤ r.st + 1; omega⟩
  rw [if_neg h1]
  by_cases h5 : r.st = 5
  · rw [if_pos h5]
    intro he
    cases he
  rw [if_neg h5]
  have hi := h.i (by omega)
  have ho := h.o (by omega)
  by_cases hp : Lib.hasPrefix l typeW = true ∧ r.st = 2
  · rw [if_pos hp]
    have hl := h.early (by omega)
    cases hk : kindO (Lib.trimPrefix l typeW) with
    | none => intro he; cases he
    | some k =>
      intro _ _
      have hk3 : k ≤ 3 := by
        unfold kindO at hk
        repeat' split at hk
        all_goals first | (cases hk; decide) | cases hk
      exact ⟨show (0 : Int) ≤ (k : Int) by omega, show (k : Int) ≤ 3 by omega, fun _ => hi, fun _ => ho, h.len, h.all, fun _ => hl, show (0 : Int) ≤ 3 by decide⟩
  rw [if_neg hp]
  by_cases hn : numP l [46, 112] 0 64 ≥ 0 ∧ r.st ≤ 3
  · rw [if_pos hn]
    intro _ _
    exact ⟨h.k0, h.k3, fun _ => hi, fun _ => ho, h.len, h.all, fun h4 => absurd h4 (show ¬ (4 : Int) < 4 by decide), show (0 : Int) ≤ 4 by decide⟩
  rw [if_neg hn]
  by_cases he : l = [46, 101]
  · rw [if_pos he]
    intro _ _
    exact ⟨h.k0, h.k3, fun _ => hi, fun _ => ho, h.len, h.all, fun h4 => absurd h4 (show ¬ (5 : Int) < 4 by decide), show (0 : Int) ≤ 5 by decide⟩
  rw [if_neg he]
  by_cases hr : rowOk r.T.ni r.T.no l = true
  · rw [if_pos hr]
    intro _ hlen
    refine ⟨h.k0, h.k3, fun _ => hi, fun _ => ho, hlen, fun x hx => ?_, fun h4 => absurd h4 (show ¬ (4 : Int) < 4 by decide), show (0 : Int) ≤ 4 by decide⟩
    rcases List.mem_append.1 hx with hx | hx
    · exact h.all x hx
    · rw [List.mem_singleton] at hx
      rw [hx]
      exact row_right hr
  · rw [if_neg hr]
    intro he
    cases he
end
section
variable {s : List UInt8}
theorem right_mb {T : Tb} (h : rightT T = true) : ∀ i, i < T.ls.length → (T.ls.getD i ln0).c.m < 256 ∧ (T.ls.getD i ln0).c.v < 256 := fun i hi => by
  obtain ⟨h1, _⟩ := lnOk_iff.1 (right_ln h hi)
  obtain ⟨_, h8, hm, hv⟩ := rightB_iff.1 h1
  have h2 : 2 ^ T.ni.toNat ≤ 256 := by
    have := Nat.pow_le_pow_right (show 0 < 2 by decide) (show T.ni.toNat ≤ 8 by omega)
    simpa using this
  have h3 : (T.ls.getD i ln0).c.v ≤ (T.ls.getD i ln0).c.m := by rw [← hv]; exact Nat.and_le_right
  omega
end

/-! ### What is printed is read as it -/
section
variable {T : Tb} {r : Rd}
end

end Go.Proofs.YtnkaebjaeaecmaaGreatDoor
