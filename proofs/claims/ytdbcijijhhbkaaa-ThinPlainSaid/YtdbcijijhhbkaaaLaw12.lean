/-
  What the statements about covers need: points of cubes but for one, what grown cubes are. No program in it.
-/
import Derived.Test.YtdbcijijhhbkaaaRef12
namespace Go.Proofs.Ytdbcijijhhbkaaa
set_option linter.unusedVariables false
set_option linter.unusedSimpArgs false
open Go Go.RowKit

/-- The points of the first k cubes, but for one. -/
def ptsB (l : List Cb) (n : Nat) (but : Int) : Nat → Nat
  | 0 => 0
  | k + 1 => if (k : Int) = but then ptsB l n but k else ptsB l n but k ||| ptsS (l.getD k ⟨0, 0⟩).m ((l.getD k ⟨0, 0⟩).v &&& (l.getD k ⟨0, 0⟩).m) n
theorem ptsB_t {l : List Cb} {n k : Nat} {but : Int} (h : ¬ (k : Int) = but) : ptsB l n but (k + 1) = ptsB l n but k ||| ptsS (l.getD k ⟨0, 0⟩).m ((l.getD k ⟨0, 0⟩).v &&& (l.getD k ⟨0, 0⟩).m) n := if_neg h
theorem ptsB_f {l : List Cb} {n k : Nat} {but : Int} (h : ¬ ¬ (k : Int) = but) : ptsB l n but (k + 1) = ptsB l n but k := if_pos (Decidable.not_not.1 h)
theorem ptsB_testBit {l : List Cb} {n : Nat} {but : Int} (hn : n ≤ 8) (p : Nat) : ∀ k, k ≤ l.length → (∀ c, c ∈ l → c.v &&& c.m = c.v) → ((ptsB l n but k).testBit p = true ↔ ∃ j, j < k ∧ ¬ (j : Int) = but ∧ p < 2 ^ n ∧ hold (l.getD j ⟨0, 0⟩) p)
  | 0, _, _ => by simp [ptsB]
  | k + 1, hk, hv => by
    have ih := ptsB_testBit (but := but) hn p k (by omega) hv
    rw [ptsB]
    split
    · rename_i h
      rw [ih]
      constructor
      · rintro ⟨j, hj, r⟩; exact ⟨j, by omega, r⟩
      · rintro ⟨j, hj, h2, r⟩
        rcases Nat.lt_succ_iff_lt_or_eq.1 hj with hj | rfl
        · exact ⟨j, hj, h2, r⟩
        · exact absurd h h2
    · rename_i h
      rw [Nat.testBit_or, Bool.or_eq_true, ih, ptsS_testBit hn, hv _ (getD_mem (by omega)), Bool.and_eq_true, decide_eq_true_eq, decide_eq_true_eq]
      constructor
      · rintro (⟨j, hj, r⟩ | ⟨h1, h2⟩)
        · exact ⟨j, by omega, r⟩
        · exact ⟨k, by omega, h, h1, h2⟩
      · rintro ⟨j, hj, h2, h3, h4⟩
        rcases Nat.lt_succ_iff_lt_or_eq.1 hj with hj | rfl
        · exact .inl ⟨j, hj, h2, h3, h4⟩
        · exact .inr ⟨h3, h4⟩

section
variable {on m : Nat} {n : Int}
theorem ok_nat (h : okB on m n = true) : ∃ k : Nat, n = (k : Int) ∧ k ≤ 8 ∧ Good k on m 0 := by
  obtain ⟨h0, h8⟩ := of_bounds (okB_iff.1 h).1
  obtain ⟨k, rfl⟩ := Int.eq_ofNat_of_zero_le h0
  obtain ⟨h1, h2⟩ := ok_good h
  exact ⟨k, rfl, h1, h2⟩
theorem ok_same (h : okB on m n = true) : okB on on n = true := by
  obtain ⟨k, rfl, h8, hg⟩ := ok_nat h
  obtain ⟨h1, h2⟩ := okB_iff.1 h
  refine okB_iff.2 ⟨?_, withinB_iff.2 fun p _ hp => hp⟩
  unfold ofB
  rw [decide_eq_true (show (0 : Int) ≤ k by omega), decide_eq_true (show (k : Int) ≤ 8 by omega), Bool.true_and, Bool.true_and, withinB_iff]
  intro p hp ho
  rw [allS_testBit, Int.toNat_natCast]
  simpa using hg.out p hp (hg.sub p hp ho)
theorem cov_v (h : okB on m n = true) : ∀ c, c ∈ covL on m n → c.v &&& c.m = c.v := fun c hc => (cov_imp h hc).2.2.2
theorem cov_b (h : okB on m n = true) : ∀ c, c ∈ covL on m n → c.m < 256 ∧ c.v < 256 := fun c hc => ⟨(cov_imp h hc).2.1, (cov_imp h hc).2.2.1⟩
theorem pts_on (h : okB on m n = true) : withinB on (ptsB (covL on m n) n.toNat (-1) (covL on m n).length) = true := by
  have hv := cov_v h
  obtain ⟨k, rfl, h8, hg⟩ := ok_nat h
  rw [withinB_iff]
  intro p hp ho
  obtain ⟨c, hc, hh⟩ := (cover_ok h8 (k + 1) on m 0 hg (by omega)).2 p (hg.out p hp (hg.sub p hp ho)) ho
  obtain ⟨j, hj, rfl⟩ := mem_getD (d := ⟨0, 0⟩) hc
  exact (ptsB_testBit h8 p _ (Nat.le_refl _) hv).2 ⟨j, hj, by omega, hg.out p hp (hg.sub p hp ho), hh⟩
theorem pts_may (h : okB on m n = true) : withinB (ptsB (covL on m n) n.toNat (-1) (covL on m n).length) m = true := by
  have hv := cov_v h
  obtain ⟨k, rfl, h8, hg⟩ := ok_nat h
  rw [withinB_iff]
  intro p hp ho
  obtain ⟨j, hj, _, h1, h2⟩ := (ptsB_testBit h8 p _ (Nat.le_refl _) hv).1 ho
  exact ((cover_ok h8 (k + 1) on m 0 hg (by omega)).1 _ (getD_mem hj)).2.2.2 p h1 h2
theorem pts_same (h : okB on m n = true) : eqS (ptsB (covL on on n) n.toNat (-1) (covL on on n).length) on = true := by
  have h1 := pts_on (ok_same h)
  have h2 := pts_may (ok_same h)
  rw [eqS_iff]
  intro p hp
  rw [Bool.eq_iff_iff]
  exact ⟨withinB_iff.1 h2 p hp, withinB_iff.1 h1 p hp⟩
theorem pts_but (h : okB on m n = true) {k : Nat} (hk : k < (covL on m n).length) : withinB on (ptsB (covL on m n) n.toNat (k : Int) (covL on m n).length) = false := by
  have hv := cov_v h
  obtain ⟨q, rfl, h8, hg⟩ := ok_nat h
  obtain ⟨p, hp, ho, hn⟩ := cover_irr h8 (q + 1) on m 0 hg (by omega) k _ (List.getElem?_eq_getElem hk)
  refine Bool.eq_false_iff.2 fun hw => ?_
  have hp8 : p < 256 := Nat.lt_of_lt_of_le hp (pow_le256 h8)
  obtain ⟨j, hj, hne, h1, h2⟩ := (ptsB_testBit h8 p _ (Nat.le_refl _) hv).1 (withinB_iff.1 hw p hp8 ho)
  refine hn j _ (List.getElem?_eq_getElem hj) (by omega) ?_
  have e : (covL on m (q : Int)).getD j ⟨0, 0⟩ = (covL on m (q : Int))[j] := by simp [hj]
  rw [e] at h2
  exact h2
theorem cov_none (h : okB on m n = true) (hl : (covL on m n).length = 0) : eqS on 0 = true := by
  have h1 := pts_on h
  rw [hl] at h1
  rw [eqS_iff]
  intro p hp
  rw [Nat.zero_testBit]
  refine Bool.eq_false_iff.2 fun ho => ?_
  have := withinB_iff.1 h1 p hp ho
  rw [ptsB, Nat.zero_testBit] at this
  cases this

/-! ### Grown -/
abbrev groL (on m : Nat) (n : Int) : List Cb := grownL m n (covL on m n)
theorem gro_len (h : okB on m n = true) : (groL on m n).length ≤ 19683 := Nat.le_trans (grownTo_len _ _ _ _) (covL_len (of_bounds (okB_iff.1 h).1).2)
theorem gro_prime (h : okB on m n = true) {c : Cb} (hc : c ∈ groL on m n) : primeB c.m c.v m n = true := by
  obtain ⟨j, hj, rfl⟩ := (mem_grownTo _).1 hc
  exact (grow_prime (cov_imp h (getD_mem hj)).1).1
theorem gro_b (h : okB on m n = true) : ∀ c, c ∈ groL on m n → c.m < 256 ∧ c.v < 256 := fun c hc => by
  have := right_lt (prime_right (gro_prime h hc))
  have h2 := two_pow_le (of_bounds (okB_iff.1 h).1).2
  omega
theorem gro_v (h : okB on m n = true) : ∀ c, c ∈ groL on m n → c.v &&& c.m = c.v := fun c hc => (rightB_iff.1 (prime_right (gro_prime h hc))).2.2.2
theorem gro_on (h : okB on m n = true) : withinB on (ptsB (groL on m n) n.toNat (-1) (groL on m n).length) = true := by
  have hv := gro_v h
  have h1 := pts_on h
  have hcv := cov_v h
  have hgp : ∀ j, j < (covL on m n).length → ∃ k, k < (groL on m n).length ∧ (groL on m n).getD k ⟨0, 0⟩ = growS m n ((covL on m n).getD j ⟨0, 0⟩) := fun j hj => mem_getD ((mem_grownTo _).2 ⟨j, hj, rfl⟩)
  have hgr : ∀ j, j < (covL on m n).length → holdsB (growS m n ((covL on m n).getD j ⟨0, 0⟩)) ((covL on m n).getD j ⟨0, 0⟩) = true := fun j hj => (grow_prime (cov_imp h (getD_mem hj)).1).2
  obtain ⟨q, rfl, h8, hg⟩ := ok_nat h
  rw [withinB_iff]
  intro p hp ho
  obtain ⟨j, hj, _, h2, h3⟩ := (ptsB_testBit h8 p _ (Nat.le_refl _) hcv).1 (withinB_iff.1 h1 p hp ho)
  obtain ⟨k, hk, he⟩ := hgp j hj
  refine (ptsB_testBit h8 p _ (Nat.le_refl _) hv).2 ⟨k, hk, by omega, h2, ?_⟩
  have := holds_point (p := p) (show (growS m q ((covL on m q).getD j ⟨0, 0⟩)).v &&& (growS m q ((covL on m q).getD j ⟨0, 0⟩)).m = _ by rw [← he]; exact hv _ (getD_mem hk)) (hgr j hj) h3
  rw [he]
  exact this
theorem gro_may (h : okB on m n = true) : withinB (ptsB (groL on m n) n.toNat (-1) (groL on m n).length) m = true := by
  have hv := gro_v h
  have hp' := fun {c} (hc : c ∈ groL on m n) => gro_prime h hc
  obtain ⟨q, rfl, h8, hg⟩ := ok_nat h
  rw [withinB_iff]
  intro p hp ho
  obtain ⟨j, hj, _, h2, h3⟩ := (ptsB_testBit h8 p _ (Nat.le_refl _) hv).1 ho
  exact (imp_iff.1 (primeB_iff.1 (hp' (getD_mem hj))).1).2 p h2 h3
theorem gro_take (i : Nat) (hi : i ≤ (covL on m n).length) : (groL on m n).take (grownTo m n (covL on m n) i).length = grownTo m n (covL on m n) i := by
  obtain ⟨d, hd⟩ : ∃ d, (covL on m n).length = i + d := ⟨(covL on m n).length - i, by omega⟩
  have hp := grownTo_prefix m n (covL on m n) i d
  have e : groL on m n = grownTo m n (covL on m n) (i + d) := by unfold groL grownL; rw [hd]
  rw [e]
  exact (List.prefix_iff_eq_take.1 hp).symm
theorem gro_le (i : Nat) (hi : i ≤ (covL on m n).length) : (grownTo m n (covL on m n) i).length ≤ (groL on m n).length := by
  have := congrArg List.length (gro_take (on := on) (m := m) (n := n) i hi)
  rw [List.length_take] at this
  omega
/-- What is met. -/
def metB (l : List Cb) (x : Cb) (k : Nat) : Bool := decide (x ∈ l.take k)
theorem met_zero (l : List Cb) (x : Cb) : false = metB l x 0 := by simp [metB]
theorem met_put {l : List Cb} {x : Cb} {k : Nat} (hk : k < l.length) : metB l x (k + 1) = (metB l x k || decide (l.getD k ⟨0, 0⟩ = x)) := by
  unfold metB
  rw [List.take_succ_eq_append_getElem hk]
  have e : l.getD k ⟨0, 0⟩ = l[k] := by simp [hk]
  rw [e, Bool.eq_iff_iff, decide_eq_true_eq, Bool.or_eq_true, decide_eq_true_eq, decide_eq_true_eq, List.mem_append, List.mem_singleton]
  exact ⟨fun h => h.imp id Eq.symm, fun h => h.imp id Eq.symm⟩
theorem met_t {l : List Cb} {x : Cb} {k : Nat} (hk : k < l.length) (h : metB l x k = true) : true = metB l x (k + 1) := by rw [met_put hk, h]; rfl
theorem met_f {l : List Cb} {x : Cb} {k : Nat} (hk : k < l.length) (h : metB l x k = false) : decide (((l.getD (k : Int).toNat ⟨0, 0⟩).m : Int) = (x.m : Int) ∧ ((l.getD (k : Int).toNat ⟨0, 0⟩).v : Int) = (x.v : Int)) = metB l x (k + 1) := by
  rw [met_put hk, h, Bool.false_or, Int.toNat_natCast, Bool.eq_iff_iff, decide_eq_true_eq, decide_eq_true_eq]
  constructor
  · rintro ⟨h1, h2⟩
    cases hc : l.getD k ⟨0, 0⟩
    rw [hc] at h1 h2
    cases x
    simp only [Cb.mk.injEq]
    exact ⟨Int.ofNat_inj.1 h1, Int.ofNat_inj.1 h2⟩
  · intro h; rw [h]; exact ⟨rfl, rfl⟩
theorem gro_met {i : Nat} {x : Cb} (hi : i < (covL on m n).length) : metB (groL on m n) x (grownTo m n (covL on m n) i).length = decide (x ∈ grownTo m n (covL on m n) i) := by
  unfold metB
  rw [gro_take i (by omega)]
/-- A grown cube that is not met comes next. -/
theorem gro_next {i : Nat} (hi : i < (covL on m n).length) (h : metB (groL on m n) (growS m n ((covL on m n).getD i ⟨0, 0⟩)) (grownTo m n (covL on m n) i).length = false) :
    (grownTo m n (covL on m n) (i + 1)).length = (grownTo m n (covL on m n) i).length + 1 ∧ (grownTo m n (covL on m n) i).length < (groL on m n).length ∧ (groL on m n).getD (grownTo m n (covL on m n) i).length ⟨0, 0⟩ = growS m n ((covL on m n).getD i ⟨0, 0⟩) := by
  rw [gro_met hi, decide_eq_false_iff_not] at h
  have e : grownTo m n (covL on m n) (i + 1) = grownTo m n (covL on m n) i ++ [growS m n ((covL on m n).getD i ⟨0, 0⟩)] := insK_new h
  have hl : (grownTo m n (covL on m n) (i + 1)).length = (grownTo m n (covL on m n) i).length + 1 := by rw [e]; simp
  have hle := gro_le (on := on) (m := m) (n := n) (i + 1) (by omega)
  refine ⟨hl, by omega, ?_⟩
  have ht := gro_take (on := on) (m := m) (n := n) (i + 1) (by omega)
  have h2 := congrArg (fun l => l[(grownTo m n (covL on m n) i).length]?) ht
  simp only [hl, List.getElem?_take] at h2
  rw [if_pos (by omega), e] at h2
  simp at h2
  simp [List.getD_eq_getElem?_getD, h2]
theorem gro_same {i : Nat} (hi : i < (covL on m n).length) (h : metB (groL on m n) (growS m n ((covL on m n).getD i ⟨0, 0⟩)) (grownTo m n (covL on m n) i).length = true) : (grownTo m n (covL on m n) (i + 1)).length = (grownTo m n (covL on m n) i).length := by
  rw [gro_met hi, decide_eq_true_eq] at h
  have e : grownTo m n (covL on m n) (i + 1) = grownTo m n (covL on m n) i := insK_old h
  rw [e]
theorem gro_apart (h : okB on m n = true) {i k : Nat} (hi : i < (groL on m n).length) (hk : k < i) (he : (((groL on m n).getD (i : Int).toNat ⟨0, 0⟩).m : Int) = (((groL on m n).getD (k : Int).toNat ⟨0, 0⟩).m : Int) ∧ (((groL on m n).getD (i : Int).toNat ⟨0, 0⟩).v : Int) = (((groL on m n).getD (k : Int).toNat ⟨0, 0⟩).v : Int)) : False := by
  have hn := grownTo_nodup m n (covL on m n) (covL on m n).length
  have hk' : k < (groL on m n).length := by omega
  have e1 : (groL on m n).getD i ⟨0, 0⟩ = (groL on m n).getD k ⟨0, 0⟩ := by
    rw [Int.toNat_natCast, Int.toNat_natCast] at he
    obtain ⟨h1, h2⟩ := he
    cases hc : (groL on m n).getD i ⟨0, 0⟩
    cases hd : (groL on m n).getD k ⟨0, 0⟩
    rw [hc, hd] at h1 h2
    simp only [Cb.mk.injEq]
    exact ⟨Int.ofNat_inj.1 h1, Int.ofNat_inj.1 h2⟩
  have g1 : (groL on m n)[i]? = some ((groL on m n).getD k ⟨0, 0⟩) := by rw [← e1]; simp [hi]
  have g2 : (groL on m n)[k]? = some ((groL on m n).getD k ⟨0, 0⟩) := by simp [hk']
  have := nodup_idx hn g1 g2
  omega
end

theorem bits_flags (s : Nat) : ∀ p, p < 256 → (bitsS (flagsS s)).testBit p = s.testBit p := fun p hp => by
  rw [bitsTo_testBit _ _ (Nat.le_refl _), flagsTo_get hp]; simp [hp]
theorem words_eq {s t : Nat} (h : ∀ p, p < 256 → s.testBit p = t.testBit p) : ((wd s 0 : Nat) : Int) = ((wd t 0 : Nat) : Int) ∧ ((wd s 1 : Nat) : Int) = ((wd t 1 : Nat) : Int) ∧ ((wd s 2 : Nat) : Int) = ((wd t 2 : Nat) : Int) ∧ ((wd s 3 : Nat) : Int) = ((wd t 3 : Nat) : Int) := eqS_int (eqS_iff.2 h)
theorem side_eq {s : Nat} {i : Int} {one : Bool} {X : Nat} (h : (if 0 ≤ i ∧ i < 8 then sideS s i.toNat one else 0) = X) (hi : 0 ≤ i ∧ i < 8) : X = sideS s i.toNat one := by rw [if_pos hi] at h; exact h.symm
theorem side_no {s : Nat} {i : Int} {one : Bool} {X : Nat} (h : (if 0 ≤ i ∧ i < 8 then sideS s i.toNat one else 0) = X) (hi : ¬ (0 ≤ i ∧ i < 8)) : X = 0 := by rw [if_neg hi] at h; exact h.symm
theorem covL_knows : covL 14 14 2 = [⟨3, 2⟩, ⟨1, 1⟩] ∨ (covL 14 14 2).length = 2 := .inr (by decide +kernel)
theorem covL_knows2 : (covL 14 14 2).length = 2 := by decide +kernel
theorem groL_knows2 : (groL 14 14 2).length = 2 := by decide +kernel
theorem ok_knows : okB 14 14 2 = true := by decide +kernel
theorem sideS_knows : sideS 2 0 true = 3 := by decide +kernel

end Go.Proofs.Ytdbcijijhhbkaaa
