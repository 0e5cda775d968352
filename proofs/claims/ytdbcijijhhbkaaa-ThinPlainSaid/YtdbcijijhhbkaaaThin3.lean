/-
  What the statements about thinning need. No program in it.
-/
import Derived.Test.YtdbcijijhhbkaaaThin2
namespace Go.Proofs.Ytdbcijijhhbkaaa
set_option linter.unusedVariables false
set_option linter.unusedSimpArgs false
open Go Go.RowKit

def great16 (S : Sp) (l : List Rw) : Bool := greatS S || decide (20 < l.length)
theorem g16_1 {S : Sp} {l : List Rw} (h : greatS S = true) : true = great16 S l := by unfold great16; rw [h]; rfl
theorem g16_2 {S : Sp} {l : List Rw} (h : greatS S = false) : decide ((20 : Int) < (l.length : Int)) = great16 S l := by
  unfold great16
  rw [h, Bool.false_or, Bool.eq_iff_iff, decide_eq_true_eq, decide_eq_true_eq]
  omega
theorem g16_no {S : Sp} {l : List Rw} (h : great16 S l = false) : S.on.length ≤ 20 ∧ S.may.length ≤ 20 ∧ l.length ≤ 20 := by
  unfold great16 at h
  rw [Bool.or_eq_false_iff, decide_eq_false_iff_not] at h
  have := great_no h.1
  omega
theorem needed_no {S : Sp} {l : List Rw} (h : covB S l = false) : neededR S l = false := Bool.eq_false_iff.2 fun k => by
  rw [(neededR_iff.1 k).1] at h; cases h
theorem cov_noR {S : Sp} {l : List Rw} (h : rightS S = false) : covB S l = false := Bool.eq_false_iff.2 fun k => by
  rw [(covB_iff.1 k).1] at h; cases h
theorem thin_len (S : Sp) (l : List Rw) : (thinR S l).length ≤ l.length := thA_len S l l.length
theorem thin_b {S : Sp} {l : List Rw} (h : RowB l) : RowB (thinR S l) := thA_b h _ (Nat.le_refl _)
theorem thin_again {S : Sp} {l : List Rw} (h : covB S l = true) : thinR S (thinR S l) = thinR S l := thin_same (thin_needed h)
theorem thA_step (S : Sp) (l : List Rw) (i : Nat) : (thA S l (i + 1)).length ≤ (thA S l i).length + 1 := by
  rw [thA_succ, List.length_append, kpR_len]
  split <;> omega
theorem at_step {S : Sp} {l : List Rw} {i a : Nat} (hi : i < l.length) (ha : (thA S l i).length ≤ a)
    (h : ¬ ((l.getD i ⟨⟨0, 0⟩, 0⟩).c = ((thinR S l).getD a ⟨⟨0, 0⟩, 0⟩).c ∧ holdsR (l.getD i ⟨⟨0, 0⟩, 0⟩) ((thinR S l).getD a ⟨⟨0, 0⟩, 0⟩) = true)) : (thA S l (i + 1)).length ≤ a := by
  have hst := thA_step S l i
  by_cases e : (thA S l i).length = a
  · by_cases hk : 0 < (thX S l i S.on.length).o
    · exfalso
      apply h
      have hpre := thA_prefix S l (i + 1) (l.length - (i + 1))
      rw [show i + 1 + (l.length - (i + 1)) = l.length by omega] at hpre
      obtain ⟨r, hr⟩ := hpre
      have hg : (thinR S l).getD a ⟨⟨0, 0⟩, 0⟩ = thX S l i S.on.length := by
        unfold thinR
        rw [← hr, thA_succ, kpR_pos hk, List.append_assoc]
        exact getD_mid e.symm
      rw [hg]
      exact ⟨rfl, holdsR_iff.2 ⟨holds_refl _, fun j hj => thO_sub S l i _ j hj⟩⟩
    · rw [thA_succ, kpR_none (by omega), List.append_nil, e]
      exact Nat.le_refl _
  · omega
theorem cb_ne {x y : Rw} (h : ¬ ((x.c.m : Int) = (y.c.m : Int) ∧ (x.c.v : Int) = (y.c.v : Int))) : ¬ (x.c = y.c ∧ holdsR x y = true) := fun k => h (by rw [k.1]; exact ⟨rfl, rfl⟩)
theorem ho_ne {x y : Rw} (h : holdsR x y = false) : ¬ (x.c = y.c ∧ holdsR x y = true) := fun k => by rw [k.2] at h; cases h

theorem not_metR {l : List Rw} {x : Rw} {k : Nat} (hk : k = l.length) (h : (!metR l x k) = true) : x ∉ l := fun hx => by
  rw [hk, metR_all hx] at h; cases h
theorem is_metR {l : List Rw} {x : Rw} {k : Nat} (hk : k = l.length) (h : (!metR l x k) = false) : x ∈ l := by
  have h2 := not_f h
  unfold metR at h2
  rw [hk, List.take_length, decide_eq_true_eq] at h2
  exact h2

def KT : Sp := ⟨1, [3], [3]⟩
def KL : List Rw := [⟨⟨1, 0⟩, 1⟩, ⟨⟨0, 0⟩, 1⟩]
theorem right_KT : rightS KT = true := by decide +kernel
theorem cov_KT : covB KT KL = true := by decide +kernel
theorem thin_KT : thinR KT KL = [⟨⟨0, 0⟩, 1⟩] := by decide +kernel
theorem plain_KT : plainL KT = [⟨⟨0, 0⟩, 1⟩] := by decide +kernel
theorem needed_KT : neededR KT [⟨⟨0, 0⟩, 1⟩] = true := by decide +kernel
theorem rowb_KL : RowB KL := fun x hx => by
  simp only [KL, List.mem_cons, List.not_mem_nil, or_false] at hx
  rcases hx with rfl | rfl <;> decide
theorem rowb_K1 : RowB [⟨⟨0, 0⟩, 1⟩] := fun x hx => by
  simp only [List.mem_cons, List.not_mem_nil, or_false] at hx
  subst hx; decide

end Go.Proofs.Ytdbcijijhhbkaaa
