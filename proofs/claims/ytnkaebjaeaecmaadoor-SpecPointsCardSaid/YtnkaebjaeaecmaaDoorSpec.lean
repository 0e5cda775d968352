/-
  What a table asks for, in plain words. No program in it.
-/
import Derived.Test.YtnkaebjaeaecmaaDoorPars2
import Derived.Test.YtnkaebjaeaecmaaDoorCov
namespace Go.Proofs.YtnkaebjaeaecmaaDoor
set_option linter.unusedVariables false
set_option linter.unusedSimpArgs false
open Go Go.RowKit

/-! ### The points of lines that have a mark -/
def mkTo (T : Tb) (o : Nat) (m : Int) : Nat → Nat
  | 0 => 0
  | k + 1 => if (T.ls.getD k ln0).os.getD o 0 = m then mkTo T o m k ||| ptsS (T.ls.getD k ln0).c.m (T.ls.getD k ln0).c.v T.ni.toNat else mkTo T o m k
def mkS (T : Tb) (o : Nat) (m : Int) : Nat := mkTo T o m T.ls.length
def mayF (k : Int) (all ones nz fr : Nat) : Nat := if k = 0 then ones else if k = 1 then ones ||| fr else andNot all nz
def mayT (T : Tb) (o : Nat) : Nat := mayF T.kind (allS T.ni.toNat) (mkS T o 1) (mkS T o 0) (mkS T o 2)
def clash (T : Tb) (o : Nat) : Bool := decide (2 ≤ T.kind) && decide (mkS T o 1 &&& mkS T o 0 ≠ 0)
def onTo (T : Tb) (k : Nat) : List Nat := (List.range k).map fun o => mkS T o 1
def mayTo_ (T : Tb) (k : Nat) : List Nat := (List.range k).map (mayT T)
def specT (T : Tb) : Sp := ⟨T.ni, onTo T T.no.toNat, mayTo_ T T.no.toNat⟩
def ofE (T : Tb) : Int := if rightT T = true then (if (List.range T.no.toNat).any (clash T) = true then 4 else 0) else 1
section
variable {T : Tb} {o k p : Nat} {m : Int}
theorem mkTo_t (h : (T.ls.getD k ln0).os.getD o 0 = m) : mkTo T o m k ||| ptsS (T.ls.getD k ln0).c.m (T.ls.getD k ln0).c.v T.ni.toNat = mkTo T o m (k + 1) := (if_pos h).symm
theorem mkTo_f (h : ¬ (T.ls.getD k ln0).os.getD o 0 = m) : mkTo T o m k = mkTo T o m (k + 1) := (if_neg h).symm
theorem mkTo_bit (hn : T.ni.toNat ≤ 8) (p : Nat) : ∀ k, (mkTo T o m k).testBit p = true ↔ p < 2 ^ T.ni.toNat ∧ ∃ j, j < k ∧ (T.ls.getD j ln0).os.getD o 0 = m ∧ hold (T.ls.getD j ln0).c p
  | 0 => by simp [mkTo]
  | k + 1 => by
    have ih := mkTo_bit hn p k
    rw [mkTo]
    split
    · rename_i h
      rw [Nat.testBit_or, Bool.or_eq_true, ih, ptsS_testBit hn, Bool.and_eq_true, decide_eq_true_eq, decide_eq_true_eq]
      constructor
      · rintro (⟨h1, j, hj, r⟩ | ⟨h1, h2⟩)
        · exact ⟨h1, j, by omega, r⟩
        · exact ⟨h1, k, by omega, h, h2⟩
      · rintro ⟨h1, j, hj, r⟩
        rcases Nat.lt_succ_iff_lt_or_eq.1 hj with hj | rfl
        · exact .inl ⟨h1, j, hj, r⟩
        · exact .inr ⟨h1, r.2⟩
    · rename_i h
      rw [ih]
      constructor
      · rintro ⟨h1, j, hj, r⟩; exact ⟨h1, j, by omega, r⟩
      · rintro ⟨h1, j, hj, r⟩
        rcases Nat.lt_succ_iff_lt_or_eq.1 hj with hj | rfl
        · exact ⟨h1, j, hj, r⟩
        · exact absurd r.1 h
theorem right_n (h : rightT T = true) : T.ni.toNat ≤ 8 := by obtain ⟨_, _, _, h8, _⟩ := right_hd h; omega
theorem mkTo_out (hn : T.ni.toNat ≤ 8) (hp : 256 ≤ p) : (mkTo T o m k).testBit p = false := Bool.eq_false_iff.2 fun h => by
  have h1 := ((mkTo_bit hn p k).1 h).1
  have h2 : 2 ^ T.ni.toNat ≤ 256 := by
    have := Nat.pow_le_pow_right (show 0 < 2 by decide) hn
    simpa using this
  omega
theorem mkS_lt (hn : T.ni.toNat ≤ 8) : mkS T o m < 2 ^ 256 := lt_two.2 fun j hj => mkTo_out hn hj
theorem set_zero {s : Nat} (h : s < 2 ^ 256) : (((wd s 0 : Nat) : Int) = ((wd 0 0 : Nat) : Int) ∧ ((wd s 1 : Nat) : Int) = ((wd 0 1 : Nat) : Int) ∧ ((wd s 2 : Nat) : Int) = ((wd 0 2 : Nat) : Int) ∧ ((wd s 3 : Nat) : Int) = ((wd 0 3 : Nat) : Int)) ↔ s = 0 := by
  constructor
  · rintro ⟨h0, h1, h2, h3⟩
    exact set_ext h (by decide) (by omega) (by omega) (by omega) (by omega)
  · rintro rfl; exact ⟨rfl, rfl, rfl, rfl⟩
theorem and_lt {a b : Nat} (h : a < 2 ^ 256) : a &&& b < 2 ^ 256 := Nat.lt_of_le_of_lt Nat.and_le_left h
theorem clash_t (h2 : 2 ≤ T.kind) (hn : T.ni.toNat ≤ 8) (h : ¬ (((wd (mkS T o 1 &&& mkS T o 0) 0 : Nat) : Int) = ((wd 0 0 : Nat) : Int) ∧ ((wd (mkS T o 1 &&& mkS T o 0) 1 : Nat) : Int) = ((wd 0 1 : Nat) : Int) ∧ ((wd (mkS T o 1 &&& mkS T o 0) 2 : Nat) : Int) = ((wd 0 2 : Nat) : Int) ∧ ((wd (mkS T o 1 &&& mkS T o 0) 3 : Nat) : Int) = ((wd 0 3 : Nat) : Int))) : clash T o = true := by
  unfold clash
  rw [decide_eq_true h2, Bool.true_and]
  exact decide_eq_true fun e => h ((set_zero (and_lt (mkS_lt hn))).2 e)
theorem clash_f (hn : T.ni.toNat ≤ 8) (h : ¬ ¬ (((wd (mkS T o 1 &&& mkS T o 0) 0 : Nat) : Int) = ((wd 0 0 : Nat) : Int) ∧ ((wd (mkS T o 1 &&& mkS T o 0) 1 : Nat) : Int) = ((wd 0 1 : Nat) : Int) ∧ ((wd (mkS T o 1 &&& mkS T o 0) 2 : Nat) : Int) = ((wd 0 2 : Nat) : Int) ∧ ((wd (mkS T o 1 &&& mkS T o 0) 3 : Nat) : Int) = ((wd 0 3 : Nat) : Int))) : clash T o = false := by
  unfold clash
  rw [decide_eq_false (p := mkS T o 1 &&& mkS T o 0 ≠ 0) fun e => e ((set_zero (and_lt (mkS_lt hn))).1 (Decidable.of_not_not h)), Bool.and_false]
theorem clash_k (h : ¬ 2 ≤ T.kind) : clash T o = false := by unfold clash; rw [decide_eq_false h, Bool.false_and]
theorem onTo_succ (T : Tb) (k : Nat) : onTo T (k + 1) = onTo T k ++ [mkS T k 1] := by simp [onTo, List.range_succ]
theorem mayTo_succ (T : Tb) (k : Nat) : mayTo_ T (k + 1) = mayTo_ T k ++ [mayT T k] := by simp [mayTo_, List.range_succ]
theorem onTo_len (T : Tb) (k : Nat) : (onTo T k).length = k := by simp [onTo]
theorem mayTo_len_ (T : Tb) (k : Nat) : (mayTo_ T k).length = k := by simp [mayTo_]
theorem onTo_get (T : Tb) {n : Nat} (h : k < n) : (onTo T n).getD k 0 = mkS T k 1 := by simp [onTo, h]
theorem mayTo_get (T : Tb) {n : Nat} (h : k < n) : (mayTo_ T n).getD k 0 = mayT T k := by simp [mayTo_, h]
theorem ofE_1 (h : ¬ rightT T = true) : ofE T = 1 := if_neg h
theorem ofE_4 (h : rightT T = true) (ho : o < T.no.toNat) (hc : clash T o = true) : ofE T = 4 := by
  unfold ofE; rw [if_pos h, if_pos (List.any_eq_true.2 ⟨o, List.mem_range.2 ho, hc⟩)]
theorem ofE_0 (h : rightT T = true) (hc : ∀ o, o < T.no.toNat → clash T o = false) : ofE T = 0 := by
  unfold ofE
  rw [if_pos h, if_neg]
  intro k
  obtain ⟨o, ho, h2⟩ := List.any_eq_true.1 k
  rw [hc o (List.mem_range.1 ho)] at h2; cases h2
theorem ofE_0iff : ofE T = 0 ↔ rightT T = true ∧ ∀ o, o < T.no.toNat → clash T o = false := by
  constructor
  · intro h
    unfold ofE at h
    split at h
    · rename_i h1
      refine ⟨h1, fun o ho => Bool.eq_false_iff.2 fun hc => ?_⟩
      rw [if_pos (List.any_eq_true.2 ⟨o, List.mem_range.2 ho, hc⟩)] at h
      cases h
    · cases h
  · rintro ⟨h1, h2⟩; exact ofE_0 h1 h2
/-- Where an output's points clash nowhere, what must be on may be on; and all may be is within. -/
theorem may_bit (h : rightT T = true) (hc : clash T o = false) (p : Nat) : ((mkS T o 1).testBit p = true → (mayT T o).testBit p = true) ∧ ((mayT T o).testBit p = true → p < 2 ^ T.ni.toNat) := by
  have hn := right_n h
  have hb : ∀ m, (mkS T o m).testBit p = true → p < 2 ^ T.ni.toNat := fun m hm => ((mkTo_bit hn p _).1 hm).1
  unfold mayT mayF
  by_cases h0 : T.kind = 0
  · rw [if_pos h0]; exact ⟨id, hb 1⟩
  rw [if_neg h0]
  by_cases h1 : T.kind = 1
  · rw [if_pos h1, Nat.testBit_or, Bool.or_eq_true]
    exact ⟨.inl, fun q => q.elim (hb 1) (hb 2)⟩
  rw [if_neg h1, andNot_testBit, allS_testBit, Bool.and_eq_true, decide_eq_true_eq]
  refine ⟨fun q => ⟨hb 1 q, ?_⟩, fun q => q.1⟩
  obtain ⟨hk0, _⟩ := right_hd h
  unfold clash at hc
  rw [decide_eq_true (show 2 ≤ T.kind by omega), Bool.true_and] at hc
  have hz := Decidable.of_not_not (of_decide_eq_false hc)
  have h2 : (mkS T o 1 &&& mkS T o 0).testBit p = false := by rw [hz]; exact Nat.zero_testBit p
  rw [Nat.testBit_and, q, Bool.true_and] at h2
  rw [h2]; rfl
theorem spec_right (h : ofE T = 0) : rightS (specT T) = true := by
  obtain ⟨h1, h2⟩ := ofE_0iff.1 h
  obtain ⟨hk0, hk3, hi0, hi8, ho1, ho4, h64⟩ := right_hd h1
  refine rightS_iff.2 ⟨hi0, hi8, ?_, ?_, ?_, fun k hk => ?_⟩
  · show 1 ≤ (onTo T _).length; rw [onTo_len]; omega
  · show (onTo T _).length ≤ 4; rw [onTo_len]; omega
  · show (onTo T _).length = (mayTo_ T _).length; rw [onTo_len, mayTo_len_]
  · have hk2 : k < T.no.toNat := by rw [show (specT T).on = onTo T T.no.toNat from rfl, onTo_len] at hk; exact hk
    have e1 : onP (specT T) k = mkS T k 1 := onTo_get T hk2
    have e2 : mayP (specT T) k = mayT T k := mayTo_get T hk2
    rw [e1, e2, withinB_iff, withinB_iff]
    refine ⟨fun p _ q => (may_bit h1 (h2 k hk2) p).1 q, fun p _ q => ?_⟩
    rw [allS_testBit]
    exact decide_eq_true ((may_bit h1 (h2 k hk2) p).2 q)
end

/-! ### A table's lines as rows -/
def outTo (os : List Int) : Nat → Nat
  | 0 => 0
  | k + 1 => if os.getD k 0 = 1 then outTo os k + 2 ^ k else outTo os k
def rowOf (l : Ln) (n : Nat) : Rw := ⟨l.c, outTo l.os n⟩
def lnRows (T : Tb) (n : Nat) : Nat → List Rw
  | 0 => []
  | k + 1 => if 0 < outTo (T.ls.getD k ln0).os n then lnRows T n k ++ [rowOf (T.ls.getD k ln0) n] else lnRows T n k
section
variable {T : Tb} {o k n p : Nat} {os : List Int}
theorem outTo_lt (os : List Int) : ∀ k, outTo os k < 2 ^ k
  | 0 => by simp [outTo]
  | k + 1 => by
    have := outTo_lt os k
    have e : 2 ^ (k + 1) = 2 * 2 ^ k := by rw [Nat.pow_succ]; omega
    rw [outTo]
    split <;> omega
theorem outTo_t (h : os.getD k 0 = 1) : outTo os k + 2 ^ k = outTo os (k + 1) := (if_pos h).symm
theorem outTo_f (h : ¬ os.getD k 0 = 1) : outTo os k = outTo os (k + 1) := (if_neg h).symm
theorem outTo_bit (os : List Int) (j : Nat) : ∀ k, (outTo os k).testBit j = true ↔ j < k ∧ os.getD j 0 = 1
  | 0 => by simp [outTo]
  | k + 1 => by
    have ih := outTo_bit os j k
    rw [outTo]
    split
    · rename_i h
      have hlt := outTo_lt os k
      have e := Nat.two_pow_add_eq_or_of_lt hlt 1
      rw [Nat.mul_one] at e
      rw [Nat.add_comm, e, Nat.testBit_or, Nat.testBit_two_pow, Bool.or_eq_true, ih, decide_eq_true_eq]
      constructor
      · rintro (rfl | ⟨h1, h2⟩)
        · exact ⟨by omega, h⟩
        · exact ⟨by omega, h2⟩
      · rintro ⟨h1, h2⟩
        rcases Nat.lt_succ_iff_lt_or_eq.1 h1 with h1 | h1
        · exact .inr ⟨h1, h2⟩
        · exact .inl h1.symm
    · rename_i h
      rw [ih]
      constructor
      · rintro ⟨h1, h2⟩; exact ⟨by omega, h2⟩
      · rintro ⟨h1, h2⟩
        rcases Nat.lt_succ_iff_lt_or_eq.1 h1 with h1 | rfl
        · exact ⟨h1, h2⟩
        · exact absurd h2 h
theorem lnRows_t (h : 0 < outTo (T.ls.getD k ln0).os n) : lnRows T n k ++ [rowOf (T.ls.getD k ln0) n] = lnRows T n (k + 1) := (if_pos h).symm
theorem lnRows_f (h : ¬ 0 < outTo (T.ls.getD k ln0).os n) : lnRows T n k = lnRows T n (k + 1) := (if_neg h).symm
theorem lnRows_len (T : Tb) (n : Nat) : ∀ k, (lnRows T n k).length ≤ k
  | 0 => Nat.le_refl _
  | k + 1 => by
    have := lnRows_len T n k
    rw [lnRows]
    split
    · rw [List.length_append, List.length_singleton]; omega
    · omega
theorem lnRows_mem {x : Rw} : ∀ k, x ∈ lnRows T n k ↔ ∃ j, j < k ∧ 0 < outTo (T.ls.getD j ln0).os n ∧ x = rowOf (T.ls.getD j ln0) n
  | 0 => by simp [lnRows]
  | k + 1 => by
    have ih := lnRows_mem (x := x) k
    rw [lnRows]
    split
    · rename_i h
      rw [List.mem_append, ih, List.mem_singleton]
      constructor
      · rintro (⟨j, hj, r⟩ | rfl)
        · exact ⟨j, by omega, r⟩
        · exact ⟨k, by omega, h, rfl⟩
      · rintro ⟨j, hj, r⟩
        rcases Nat.lt_succ_iff_lt_or_eq.1 hj with hj | rfl
        · exact .inl ⟨j, hj, r⟩
        · exact .inr r.2
    · rename_i h
      rw [ih]
      constructor
      · rintro ⟨j, hj, r⟩; exact ⟨j, by omega, r⟩
      · rintro ⟨j, hj, r⟩
        rcases Nat.lt_succ_iff_lt_or_eq.1 hj with hj | rfl
        · exact ⟨j, hj, r⟩
        · exact absurd r.1 h
theorem ptsR_mem {l : List Rw} (hn : n ≤ 8) : (ptsR l n o l.length).testBit p = true ↔ p < 2 ^ n ∧ ∃ x, x ∈ l ∧ hasR x o p := by
  rw [ptsR_testBit hn p _ (Nat.le_refl _)]
  constructor
  · rintro ⟨h1, j, hj, r⟩; exact ⟨h1, _, getD_mem hj, r⟩
  · rintro ⟨h1, x, hx, r⟩
    obtain ⟨j, hj, rfl⟩ := mem_getD (d := ⟨⟨0, 0⟩, 0⟩) hx
    exact ⟨h1, j, hj, r⟩
/-- The rows of a table of kind F cover what it asks for. -/
theorem lines_cover (h : rightT T = true) (h0 : T.kind = 0) : ofE T = 0 ∧ covB (specT T) (lnRows T T.no.toNat T.ls.length) = true := by
  obtain ⟨hk0, hk3, hi0, hi8, ho1, ho4, h64⟩ := right_hd h
  have hE : ofE T = 0 := ofE_0 h fun o _ => clash_k (by omega)
  have hR := spec_right hE
  have hn := right_n h
  refine ⟨hE, covB_iff.2 ⟨hR, mayL_iff.2 fun k hk => ?_, fun o ho => ?_⟩⟩
  · obtain ⟨j, hj, h1, h2⟩ := (lnRows_mem _).1 (getD_mem hk)
    rw [h2]
    refine okR_iff.2 ⟨(lnOk_iff.1 (right_ln h hj)).1, h1, ?_⟩
    show outTo _ _ < 2 ^ (onTo T T.no.toNat).length
    rw [onTo_len]
    exact outTo_lt _ _
  · have ho2 : o < T.no.toNat := by rw [show (specT T).on = onTo T T.no.toNat from rfl, onTo_len] at ho; exact ho
    have e1 : onP (specT T) o = mkS T o 1 := onTo_get T ho2
    have e2 : mayP (specT T) o = mkS T o 1 := (mayTo_get T ho2).trans (by unfold mayT mayF; rw [if_pos h0])
    have key : ∀ p, (ptsR (lnRows T T.no.toNat T.ls.length) T.ni.toNat o (lnRows T T.no.toNat T.ls.length).length).testBit p = true ↔ (mkS T o 1).testBit p = true := fun p => by
      rw [ptsR_mem hn]
      show _ ↔ (mkTo T o 1 T.ls.length).testBit p = true
      rw [mkTo_bit hn]
      constructor
      · rintro ⟨h1, x, hx, r1, r2⟩
        obtain ⟨j, hj, _, rfl⟩ := (lnRows_mem _).1 hx
        exact ⟨h1, j, hj, ((outTo_bit _ _ _).1 r1).2, r2⟩
      · rintro ⟨h1, j, hj, r1, r2⟩
        have hb : (outTo (T.ls.getD j ln0).os T.no.toNat).testBit o = true := (outTo_bit _ _ _).2 ⟨ho2, r1⟩
        refine ⟨h1, _, (lnRows_mem _).2 ⟨j, hj, ?_, rfl⟩, hb, r2⟩
        rcases Nat.eq_zero_or_pos (outTo (T.ls.getD j ln0).os T.no.toNat) with e | e
        · rw [e, Nat.zero_testBit] at hb; cases hb
        · exact e
    refine covO_t ?_ ?_
    · rw [e1, withinB_iff]; exact fun p _ q => (key p).2 q
    · rw [e2, withinB_iff]; exact fun p _ q => (key p).1 q
theorem lnRows_b (h : rightT T = true) : ∀ k, k ≤ T.ls.length → RowB (lnRows T T.no.toNat k) := fun k hk x hx => by
  obtain ⟨_, _, _, _, ho1, ho4, _⟩ := right_hd h
  obtain ⟨j, hj, h1, rfl⟩ := (lnRows_mem _).1 hx
  have hb := right_mb h j (by omega)
  have hl := outTo_lt (T.ls.getD j ln0).os T.no.toNat
  have h2 : 2 ^ T.no.toNat ≤ 256 := by
    have := Nat.pow_le_pow_right (show 0 < 2 by decide) (show T.no.toNat ≤ 8 by omega)
    simpa using this
  exact ⟨hb.1, hb.2, Nat.lt_of_lt_of_le hl h2⟩
/-- A point of rows, for an output. -/
theorem pts_cv {l : List Rw} {n out : Int} (h : ptOk l n out = true) (hp : p < 256) : (ptsR l n.toNat out.toNat l.length).testBit p = ((allS n.toNat).testBit p && cvB l p out.toNat) := by
  obtain ⟨⟨h0, h8, h1, h4⟩, hr⟩ := ptOk_iff.1 h
  rw [Bool.eq_iff_iff, ptsR_testBit (by omega) p _ (Nat.le_refl _), Bool.and_eq_true, allS_testBit, decide_eq_true_eq, cvB_iff]
  have key : ∀ k, k < l.length → (hasR (l.getD k ⟨⟨0, 0⟩, 0⟩) out.toNat p ↔ ((l.getD k ⟨⟨0, 0⟩, 0⟩).o.testBit out.toNat && hasC (l.getD k ⟨⟨0, 0⟩, 0⟩).c.m (l.getD k ⟨⟨0, 0⟩, 0⟩).c.v p) = true) := fun k hk => by
    have hv := (rightB_iff.1 (hr k hk)).2.2.2
    unfold hasR hold hasC
    rw [Bool.and_eq_true, decide_eq_true_eq, hv]
  constructor
  · rintro ⟨q, k, hk, r⟩; exact ⟨q, k, hk, (key k hk).1 r⟩
  · rintro ⟨q, k, hk, r⟩; exact ⟨q, k, hk, (key k hk).2 r⟩
end

theorem one_sp {a : Int} {u v : Value} (hu : u.oneCell' = true) (hv : v.oneCell' = true) : (#[Value.int .i64 a, u, v] : Array Value).toList.all Value.oneCell' = true := by
  simp only [List.all_cons, List.all_nil, hu, hv]
  rfl

/-! ### The kinds' meanings, as functions of their own -/
def mnA (f0 f1 f2 : Nat) (k : Int) : Nat := if k = 0 then f0 else if k = 1 then f1 else f2
section
variable {P : Program} {f : Nat → Value} {w : World} {d : Option Nat} {ty : TypeId} {ps : String} {af : Array Edge} {g : Option (Nat × Bool)} {x y : Operand}
theorem r_indexMn {t e : TypeId} {fs : Array Field} {f0 f1 f2 : Nat} {k : Int} (hx : evF f x = .agg #[.func (.func f0) #[] #[], .bool false, .func (.func f1) #[] #[], .bool false, .func (.func f2) #[] #[], .bool true, .func (.func f2) #[] #[], .bool true]) (hy : evF f y = .int .i64 k)
    (ht : P.underlying t = some (.array 4 e)) (he : P.underlying e = some (.struct fs)) (hc : (P.info? e).map (·.size) = some 2) (h0 : 0 ≤ k) (h3 : k ≤ 3) :
    (execOp (evF f) ⟨d, .index t x y, ty, ps, af, g⟩).run P w = .ok (.value (.agg #[.func (.func (mnA f0 f1 f2 k)) #[] #[], .bool (decide (2 ≤ k))])) w := by
  obtain ⟨i, hi, hs⟩ := Option.map_eq_some_iff.1 hc
  have hk : k = 0 ∨ k = 1 ∨ k = 2 ∨ k = 3 := by omega
  rcases hk with rfl | rfl | rfl | rfl <;> simp [execOp, hx, hy, Instr.index, run_underlying ht, run_underlying he, asIntOf, sizeOf, typeInfo, hi, hs, part, isAgg, mnA]
end

end Go.Proofs.YtnkaebjaeaecmaaDoor
