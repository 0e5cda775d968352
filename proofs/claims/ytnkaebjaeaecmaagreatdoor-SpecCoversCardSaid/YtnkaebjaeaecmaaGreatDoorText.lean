/-
  The texts of cubes, lines and tables, as they are written. No program in it.
-/
import Derived.Test.YtnkaebjaeaecmaaGreatDoorTab
namespace Go.Proofs.YtnkaebjaeaecmaaGreatDoor
set_option linter.unusedVariables false
set_option linter.unusedSimpArgs false
open Go Go.RowKit

/-! ### A cube's text -/
section
variable {m u n k : Nat} {x : Int}
end

/-! ### A line's text -/
section
variable {m u n k : Nat} {x : Int} {os : List Int} {a : List UInt8}
end

/-! ### A table's text -/
def kindsL : List (List UInt8) := [[102], [102, 100], [102, 114], [102, 100, 114]]
theorem kindsL_len : kindsL.length = 4 := rfl
section
variable {T : Tb} {k j : Nat} {n : Int}
theorem right_hd (h : rightT T = true) : 0 ≤ T.kind ∧ T.kind ≤ 3 ∧ 0 ≤ T.ni ∧ T.ni ≤ 8 ∧ 1 ≤ T.no ∧ T.no ≤ 4 ∧ T.ls.length ≤ 64 := by
  unfold rightT at h
  rw [Bool.and_eq_true] at h
  exact of_decide_eq_true h.1
theorem right_ln (h : rightT T = true) (hk : k < T.ls.length) : lnOk T.ni T.no (T.ls.getD k ln0) = true := by
  unfold rightT at h
  rw [Bool.and_eq_true] at h
  exact List.all_eq_true.1 h.2 _ (getD_memL hk)
theorem lnOk_iff {ni no : Int} {l : Ln} : lnOk ni no l = true ↔ rightB l.c.m l.c.v ni = true ∧ (l.os.length : Int) = no ∧ ∀ x, x ∈ l.os → 0 ≤ x ∧ x < 3 := by
  unfold lnOk outOk
  simp [and_assoc]
end

end Go.Proofs.YtnkaebjaeaecmaaGreatDoor
