/-
  Each cube within a set is held by a prime; the primes' points are the set's. No program in it.
-/
import Derived.Test.YtpamgfbecgjjeaaQm
namespace Go.Proofs.Ytpamgfbecgjjeaa
set_option linter.unusedVariables false
set_option linter.unusedSimpArgs false
open Go Go.RowKit

theorem holdsB_iff {a b : Cb} : holdsB a b = true ↔ ∀ j, a.m.testBit j = true → b.m.testBit j = true ∧ a.v.testBit j = b.v.testBit j := by
  unfold holdsB
  rw [Bool.and_eq_true, decide_eq_true_eq, decide_eq_true_eq]
  constructor
  · rintro ⟨h1, h2⟩ j hj
    have e1 := congrArg (fun x => x.testBit j) h1
    have e2 := congrArg (fun x => x.testBit j) h2
    simp only [andNot_testBit, Nat.testBit_and, Nat.testBit_xor, Nat.zero_testBit, hj, Bool.true_and, Bool.and_true] at e1 e2
    exact ⟨by simpa using e1, by simpa using e2⟩
  · intro h
    constructor
    · refine Nat.eq_of_testBit_eq fun j => ?_
      rw [andNot_testBit, Nat.zero_testBit]
      cases hj : a.m.testBit j with
      | false => rfl
      | true => rw [(h j hj).1]; rfl
    · refine Nat.eq_of_testBit_eq fun j => ?_
      rw [Nat.testBit_and, Nat.testBit_xor, Nat.zero_testBit]
      cases hj : a.m.testBit j with
      | false => simp
      | true => rw [(h j hj).2]; simp
theorem holds_refl (a : Cb) : holdsB a a = true := holdsB_iff.2 fun _ h => ⟨h, rfl⟩
theorem holds_trans {a b c : Cb} (h : holdsB a b = true) (k : holdsB b c = true) : holdsB a c = true := by
  rw [holdsB_iff] at *
  exact fun j hj => ⟨(k j (h j hj).1).1, (h j hj).2.trans (k j (h j hj).1).2⟩
theorem holds_wo {c : Cb} {i : Nat} (hi : i < 8) : holdsB (woC c i) c = true := holdsB_iff.2 fun j hj => by
  have hj' : (woM c.m (i : Int)).testBit j = true := hj
  have hv : (woC c i).v.testBit j = (c.v &&& woM c.m (i : Int)).testBit j := rfl
  rw [woM_testBit hi, Bool.and_eq_true] at hj'
  refine ⟨hj'.1, ?_⟩
  rw [hv, Nat.testBit_and, woM_testBit hi, hj'.1, hj'.2]
  simp
/-- A cube that holds another one has its points. -/
theorem holds_point {a b : Cb} {p : Nat} (ha : a.v &&& a.m = a.v) (h : holdsB a b = true) (hp : p &&& b.m = b.v) : p &&& a.m = a.v := by
  rw [holdsB_iff] at h
  refine Nat.eq_of_testBit_eq fun j => ?_
  have e := congrArg (fun x => x.testBit j) hp
  simp only [Nat.testBit_and] at e
  rw [Nat.testBit_and, bit_of_right ha j]
  cases hj : a.m.testBit j with
  | false => simp
  | true =>
    obtain ⟨h1, h2⟩ := h j hj
    rw [h2, ← e, h1]
    simp

/-- A cube within is held by a prime. -/
theorem prime_over {s : Nat} {n : Int} : ∀ (k : Nat) (c : Cb), imp s n c → cntC n c = k → ∃ d, primeB d.m d.v s n = true ∧ holdsB d c = true := by
  intro k
  induction k with
  | zero =>
    intro c hc hk
    refine ⟨c, primeB_iff.2 ⟨hc, fun i hi => Bool.eq_false_iff.2 fun hs => ?_⟩, holds_refl c⟩
    obtain ⟨h0, h8, _, _⟩ := rightB_iff.1 (imp_iff.1 hc).1
    unfold shrinks at hs
    rw [Bool.and_eq_true] at hs
    have := cnt_wo (c := c) h8 hi hs.1
    omega
  | succ k ih =>
    intro c hc hk
    obtain ⟨h0, h8, _, _⟩ := rightB_iff.1 (imp_iff.1 hc).1
    by_cases hp : primeB c.m c.v s n = true
    · exact ⟨c, hp, holds_refl c⟩
    · have : ∃ i, i < n.toNat ∧ shrinks c.m c.v s n i = true := Classical.byContradiction fun hn => hp (primeB_iff.2 ⟨hc, fun i hi => Bool.eq_false_iff.2 fun hs => hn ⟨i, hi, hs⟩⟩)
      obtain ⟨i, hi, hs⟩ := this
      unfold shrinks at hs
      rw [Bool.and_eq_true] at hs
      have hcnt := cnt_wo (c := c) h8 hi hs.1
      obtain ⟨d, hd1, hd2⟩ := ih (woC c i) hs.2 (by omega)
      exact ⟨d, hd1, holds_trans hd2 (holds_wo (by omega))⟩

/-- The points of the first k cubes. -/
def ptsU (l : List Cb) (n : Nat) : Nat → Nat
  | 0 => 0
  | k + 1 => ptsU l n k ||| ptsS (l.getD k ⟨0, 0⟩).m (l.getD k ⟨0, 0⟩).v n
/-- Does one of the first k cubes hold a cube? -/
def heldTo (l : List Cb) (c : Cb) : Nat → Bool
  | 0 => false
  | k + 1 => heldTo l c k || holdsB (l.getD k ⟨0, 0⟩) c
theorem held_t {l : List Cb} {c : Cb} {k : Nat} (h : heldTo l c k = true) : true = heldTo l c (k + 1) := by
  simp only [heldTo, h, Bool.true_or]
theorem held_f {l : List Cb} {c : Cb} {k : Nat} (h : heldTo l c k = false) : holdsB (l.getD k ⟨0, 0⟩) c = heldTo l c (k + 1) := by
  simp only [heldTo, h, Bool.false_or]
theorem heldTo_iff {l : List Cb} {c : Cb} : ∀ k, heldTo l c k = true ↔ ∃ j, j < k ∧ holdsB (l.getD j ⟨0, 0⟩) c = true
  | 0 => by simp [heldTo]
  | k + 1 => by
    simp only [heldTo, Bool.or_eq_true, heldTo_iff k]
    constructor
    · rintro (⟨j, hj, h⟩ | h)
      · exact ⟨j, by omega, h⟩
      · exact ⟨k, by omega, h⟩
    · rintro ⟨j, hj, h⟩
      rcases Nat.lt_succ_iff_lt_or_eq.1 hj with hj | rfl
      · exact .inl ⟨j, hj, h⟩
      · exact .inr h
theorem ptsU_testBit {l : List Cb} {n : Nat} (hn : n ≤ 8) (p : Nat) : ∀ k, (ptsU l n k).testBit p = true ↔ ∃ j, j < k ∧ p < 2 ^ n ∧ p &&& (l.getD j ⟨0, 0⟩).m = (l.getD j ⟨0, 0⟩).v
  | 0 => by simp [ptsU]
  | k + 1 => by
    simp only [ptsU, Nat.testBit_or, Bool.or_eq_true, ptsU_testBit hn p k, ptsS_testBit hn, Bool.and_eq_true, decide_eq_true_eq]
    constructor
    · rintro (⟨j, hj, h⟩ | h)
      · exact ⟨j, by omega, h⟩
      · exact ⟨k, by omega, h⟩
    · rintro ⟨j, hj, h⟩
      rcases Nat.lt_succ_iff_lt_or_eq.1 hj with hj | rfl
      · exact .inl ⟨j, hj, h⟩
      · exact .inr h
theorem mem_getD {α : Type} {l : List α} {a d : α} (h : a ∈ l) : ∃ j, j < l.length ∧ l.getD j d = a := by
  obtain ⟨j, hj, rfl⟩ := List.mem_iff_getElem.1 h
  exact ⟨j, hj, by simp [hj]⟩
theorem prime_at {s : Nat} {n : Int} {i : Nat} (h : i < (primesL s n).length) : primeB ((primesL s n).getD i ⟨0, 0⟩).m ((primesL s n).getD i ⟨0, 0⟩).v s n = true := mem_primesL.1 (getD_mem h)
/-- The primes of a set have just its points. -/
theorem ptsU_primes {s : Nat} {n : Int} (hs : ofB s n = true) : ∀ p, p < 256 → (ptsU (primesL s n) n.toNat (primesL s n).length).testBit p = s.testBit p := by
  intro p hp
  obtain ⟨h0, h8⟩ := of_bounds hs
  rw [Bool.eq_iff_iff, ptsU_testBit (by omega)]
  constructor
  · rintro ⟨j, hj, hlt, hpm⟩
    exact (imp_iff.1 (primeB_iff.1 (prime_at hj)).1).2 p hlt hpm
  · intro hb
    have hlt : p < 2 ^ n.toNat := by
      unfold ofB at hs
      simp only [Bool.and_eq_true, decide_eq_true_eq] at hs
      have := withinB_iff.1 hs.2.2 p hp hb
      rw [allS_testBit] at this
      simpa using this
    have hL := first_level hs (ks := (listS s).map fun x => (⟨2 ^ n.toNat - 1, x.toNat⟩ : Cb)) (fun c => by
      rw [List.mem_map]
      constructor
      · rintro ⟨x, hx, rfl⟩; exact ⟨x, hx, rfl⟩
      · rintro ⟨x, hx, rfl⟩; exact ⟨x, hx, rfl⟩)
    have hi := ((hL ⟨2 ^ n.toNat - 1, p⟩).1 (List.mem_map.2 ⟨(p : Int), mem_listS.2 ⟨p, hp, hb, rfl⟩, rfl⟩)).1
    obtain ⟨d, hd1, hd2⟩ := prime_over _ _ hi rfl
    obtain ⟨j, hj, e⟩ := mem_getD (d := ⟨0, 0⟩) (mem_primesL.2 hd1)
    refine ⟨j, hj, hlt, ?_⟩
    rw [e]
    have hr := (rightB_iff.1 (prime_right hd1)).2.2.2
    exact holds_point hr hd2 (by simp only; rw [Nat.and_two_pow_sub_one_eq_mod, Nat.mod_eq_of_lt hlt])
theorem held_within {s : Nat} {n : Int} {c : Cb} (h : wiB c.m c.v s n = true) : heldTo (primesL s n) c (primesL s n).length = true := by
  obtain ⟨d, hd1, hd2⟩ := prime_over _ c h rfl
  obtain ⟨j, hj, e⟩ := mem_getD (d := ⟨0, 0⟩) (mem_primesL.2 hd1)
  exact (heldTo_iff _).2 ⟨j, hj, by rw [e]; exact hd2⟩
theorem rising_at {s : Nat} {n : Int} {i : Nat} (h0 : 0 < i) (h : i < (primesL s n).length) : ltC ((primesL s n).getD (i - 1) ⟨0, 0⟩) ((primesL s n).getD i ⟨0, 0⟩) = true := by
  have := List.pairwise_iff_getElem.1 (rising_primesL s n) (i - 1) i (by omega) h (by omega)
  simpa [h, show i - 1 < (primesL s n).length by omega] using this

theorem rise_no1 {s : Nat} {n : Int} {i : Nat} (h0 : 0 < i) (h : i < (primesL s n).length) (hg : (((primesL s n).getD ((i : Nat) : Int).toNat ⟨0, 0⟩).m : Int) < (((primesL s n).getD (((i : Nat) : Int) - 1).toNat ⟨0, 0⟩).m : Int)) : False := by
  have hr := ltC_iff.1 (rising_at h0 h)
  rw [show (((i : Nat) : Int) - 1).toNat = i - 1 from by omega, Int.toNat_natCast] at hg
  omega
theorem rise_no2 {s : Nat} {n : Int} {i : Nat} (h0 : 0 < i) (h : i < (primesL s n).length) (he : (((primesL s n).getD (((i : Nat) : Int) - 1).toNat ⟨0, 0⟩).m : Int) = (((primesL s n).getD ((i : Nat) : Int).toNat ⟨0, 0⟩).m : Int))
    (hv : (((primesL s n).getD ((i : Nat) : Int).toNat ⟨0, 0⟩).v : Int) ≤ (((primesL s n).getD (((i : Nat) : Int) - 1).toNat ⟨0, 0⟩).v : Int)) : False := by
  have hr := ltC_iff.1 (rising_at h0 h)
  rw [show (((i : Nat) : Int) - 1).toNat = i - 1 from by omega, Int.toNat_natCast] at he hv
  omega
theorem union_same {s : Nat} {n : Int} {i : Nat} (hs : ofB s n = true) (hi : i = (primesL s n).length) :
    ((wd (ptsU (primesL s n) n.toNat i) 0 : Nat) : Int) = ((wd s 0 : Nat) : Int) ∧ ((wd (ptsU (primesL s n) n.toNat i) 1 : Nat) : Int) = ((wd s 1 : Nat) : Int) ∧ ((wd (ptsU (primesL s n) n.toNat i) 2 : Nat) : Int) = ((wd s 2 : Nat) : Int) ∧ ((wd (ptsU (primesL s n) n.toNat i) 3 : Nat) : Int) = ((wd s 3 : Nat) : Int) := by
  subst hi
  have h := ptsU_primes hs
  rw [wd_congr (by decide) h, wd_congr (by decide) h, wd_congr (by decide) h, wd_congr (by decide) h]
  exact ⟨rfl, rfl, rfl, rfl⟩
theorem held_no {s : Nat} {n : Int} {i : Nat} {c : Cb} (hi : i = (primesL s n).length) (hh : heldTo (primesL s n) c i = false) (hw : (!wiB c.m c.v s n) = false) : False := by
  subst hi
  have := held_within (s := s) (n := n) (c := c) (by simpa using hw)
  rw [hh] at this
  cases this

end Go.Proofs.Ytpamgfbecgjjeaa
