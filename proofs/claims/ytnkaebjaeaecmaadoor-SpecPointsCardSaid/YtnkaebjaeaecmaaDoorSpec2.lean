/-
  The words of the statements of layer 4. No program in it.
-/
import Derived.Test.YtnkaebjaeaecmaaDoorSpec
namespace Go.Proofs.YtnkaebjaeaecmaaDoor
set_option linter.unusedVariables false
set_option linter.unusedSimpArgs false
open Go Go.RowKit

/-! ### The statements' own words -/
theorem right_k0 {T : Tb} (h : rightT T = true) : rightT ⟨0, T.ni, T.no, T.ls⟩ = true := by
  unfold rightT at *
  rw [Bool.and_eq_true] at *
  obtain ⟨h1, h2⟩ := h
  have q := of_decide_eq_true h1
  exact ⟨decide_eq_true ⟨Int.le_refl 0, show (0 : Int) ≤ 3 by decide, q.2.2⟩, h2⟩
def okP (l : List Rw) (n out : Int) (k : Nat) : Bool := decide (0 ≤ n ∧ n ≤ 8 ∧ 0 ≤ out ∧ out ≤ 3) && (l.take k).all fun x => rightB x.c.m x.c.v n
section
variable {l : List Rw} {n out : Int} {k : Nat}
theorem okP_f (h : ¬ (0 ≤ n ∧ n ≤ 8 ∧ 0 ≤ out ∧ out ≤ 3)) : Value.bool false = .bool (okP l n out k) := by unfold okP; rw [decide_eq_false h, Bool.false_and]
theorem okP_0 (h : 0 ≤ n ∧ n ≤ 8 ∧ 0 ≤ out) : Value.bool (decide (out ≤ 3)) = .bool (okP l n out 0) := by
  unfold okP
  rw [List.take_zero, List.all_nil, Bool.and_true]
  have e : decide (out ≤ 3) = decide (0 ≤ n ∧ n ≤ 8 ∧ 0 ≤ out ∧ out ≤ 3) := decide_eq_decide.2 ⟨fun q => ⟨h.1, h.2.1, h.2.2, q⟩, fun q => q.2.2.2⟩
  rw [e]
theorem okP_succ (hk : k < l.length) : okP l n out (k + 1) = (okP l n out k && rightB (l.getD k ⟨⟨0, 0⟩, 0⟩).c.m (l.getD k ⟨⟨0, 0⟩, 0⟩).c.v n) := by
  unfold okP
  rw [List.take_add_one, List.getElem?_eq_getElem hk, List.all_append, Bool.and_assoc, List.getD_eq_getElem?_getD, List.getElem?_eq_getElem hk]
  simp
theorem okP_t (hk : k < l.length) (h : okP l n out k = true) : Value.bool (rightB (l.getD k ⟨⟨0, 0⟩, 0⟩).c.m (l.getD k ⟨⟨0, 0⟩, 0⟩).c.v n) = .bool (okP l n out (k + 1)) := by rw [okP_succ hk, h, Bool.true_and]
theorem okP_n (hk : k < l.length) (h : okP l n out k = false) : Value.bool false = .bool (okP l n out (k + 1)) := by rw [okP_succ hk, h, Bool.false_and]
theorem okP_all : okP l n out l.length = ptOk l n out := by
  unfold okP ptOk
  rw [List.take_length]
  congr 1
  exact decide_eq_decide.2 ⟨fun h => by omega, fun h => by omega⟩
end

theorem pt_same {l : List Rw} {n out : Int} {p : Nat} {b : Bool} (h : ptOk l n out = true) (hp : p < 256) (hb : hasB (allS n.toNat) (p : Int) = b) : hasB (ptsR l n.toNat out.toNat l.length) (p : Int) = (b && cvB l p out.toNat) := by
  rw [hasB_nat hp] at hb ⊢
  rw [pts_cv h hp, hb]
theorem pt_same1 {l : List Rw} {n out : Int} {p : Nat} (h : ptOk l n out = true) (hp : p < 256) (hb : hasB (allS n.toNat) (p : Int) = true) : hasB (ptsR l n.toNat out.toNat l.length) (p : Int) = cvB l p out.toNat := (pt_same h hp hb).trans (Bool.true_and _)
theorem pt_same0 {l : List Rw} {n out : Int} {p : Nat} (h : ptOk l n out = true) (hp : p < 256) (hb : hasB (allS n.toNat) (p : Int) = false) : hasB (ptsR l n.toNat out.toNat l.length) (p : Int) = false := (pt_same h hp hb).trans (Bool.false_and _)

end Go.Proofs.YtnkaebjaeaecmaaDoor
