/-
  Plain laws of coverings: what chosen rows cover, and what chosen columns solve; more columns, all of them, and strange ones. No program in it.
-/
import Derived.Test.YtdbcijijhhbkaaaCover2
namespace Go.Proofs.Ytdbcijijhhbkaaa
set_option linter.unusedVariables false
set_option linter.unusedSimpArgs false
open Go Go.RowKit

/-- What is asked of a covering: 1: no spec, or no cube; 3: too many rows. -/
def mayM (S : Sp) (l : List Rw) : Int := if rightS S = true ∧ ∀ k, k < l.length → rightB (l.getD k ⟨⟨0, 0⟩, 0⟩).c.m (l.getD k ⟨⟨0, 0⟩, 0⟩).c.v S.n = true then (if 4000 < l.length then 3 else 0) else 1

/-! ### Steps of the walks -/
theorem ah_r0 {a b : List Int} (h : ¬ (a.length : Int) = (b.length : Int)) : Value.bool (decide ((a.length : Int) < (b.length : Int))) = .bool (aheadB a b) := congrArg Value.bool (by
  rw [ah_ne (by omega)]
  by_cases k : a.length < b.length
  · rw [decide_eq_true k, decide_eq_true (by omega)]
  · rw [decide_eq_false k, decide_eq_false (by omega)])
theorem ah_r1 {a b : List Int} {k : Nat} (hl : a.length = b.length) (hk : k < a.length) (h : ∀ q, q < k → a.getD q 0 = b.getD q 0) (hn : ¬ a.getD k 0 = b.getD k 0) : Value.bool (decide (a.getD k 0 < b.getD k 0)) = .bool (aheadB a b) := congrArg Value.bool (by
  rw [ah_eq hl, lex_ne a b k hl hk h hn])
theorem ah_r2 {a b : List Int} {k : Nat} (hl : a.length = b.length) (hk : k = a.length) (h : ∀ q, q < k → a.getD q 0 = b.getD q 0) : Value.bool false = .bool (aheadB a b) := congrArg Value.bool (by
  rw [eq_of_all a b hl (hk ▸ h), ah_irr])
def ptsF (l : List Rw) (n : Int) (k : Nat) : List Nat := (l.take k).map fun x => ptsS x.c.m x.c.v n.toNat
theorem ptsF_len {l : List Rw} {n : Int} {k : Nat} (h : k ≤ l.length) : (ptsF l n k).length = k := by
  unfold ptsF
  rw [List.length_map, List.length_take]; omega
theorem ptsF_snoc {l : List Rw} {n : Int} {k : Nat} (h : k < l.length) : ptsF l n k ++ [ptsS (l.getD k ⟨⟨0, 0⟩, 0⟩).c.m (l.getD k ⟨⟨0, 0⟩, 0⟩).c.v n.toNat] = ptsF l n (k + 1) := by
  unfold ptsF
  rw [List.take_add_one, List.map_append, List.getD_eq_getElem?_getD, List.getElem?_eq_getElem h]; rfl
theorem ptsF_get {l : List Rw} {n : Int} {k : Nat} (h : k < l.length) : (ptsF l n l.length).getD k 0 = ptsS (l.getD k ⟨⟨0, 0⟩, 0⟩).c.m (l.getD k ⟨⟨0, 0⟩, 0⟩).c.v n.toNat := by
  unfold ptsF
  rw [List.take_length, List.getD_eq_getElem?_getD, List.getElem?_map, List.getD_eq_getElem?_getD, List.getElem?_eq_getElem h]; rfl
theorem ask_has {l : List Rw} {n p : Int} {k o : Nat} (h : k < l.length) (hr : rightB (l.getD k ⟨⟨0, 0⟩, 0⟩).c.m (l.getD k ⟨⟨0, 0⟩, 0⟩).c.v n = true) (hp : 0 ≤ p ∧ p.toNat < 2 ^ n.toNat) (hb : (l.getD k ⟨⟨0, 0⟩, 0⟩).o.testBit o = true) : hasB ((ptsF l n l.length).getD k 0) p = cvR l k o p.toNat := by
  obtain ⟨h0, h8, hm, hv⟩ := rightB_iff.1 hr
  have h256 := two_pow_le h8
  rw [ptsF_get h]
  unfold cvR hasC
  rw [hb, Bool.true_and]
  obtain ⟨q, rfl⟩ := Int.eq_ofNat_of_zero_le hp.1
  rw [Int.toNat_natCast] at hp ⊢
  have hq : q < 256 := by omega
  rw [hasB_nat hq, ptsS_testBit (by omega), decide_eq_true hp.2, Bool.true_and, hv]
theorem ask_no {l : List Rw} {p : Nat} {k o : Nat} (hb : ¬ (l.getD k ⟨⟨0, 0⟩, 0⟩).o.testBit o = true) : cvR l k o p = false := by
  unfold cvR
  rw [Bool.eq_false_iff.2 hb]; rfl
theorem ask_t {l : List Rw} {n p : Int} {k o : Nat} (h : k < l.length) (hr : rightB (l.getD k ⟨⟨0, 0⟩, 0⟩).c.m (l.getD k ⟨⟨0, 0⟩, 0⟩).c.v n = true) (hp : 0 ≤ p ∧ p.toNat < 2 ^ n.toNat) (hs : (((l.getD k ⟨⟨0, 0⟩, 0⟩).o / 2 ^ o &&& 1 : Nat) : Int) = 1) (hb : hasB ((ptsF l n l.length).getD k 0) p = true) : rowTo l o p.toNat k ++ [(k : Int)] = rowTo l o p.toNat (k + 1) :=
  rowTo_t ((ask_has h hr hp (shr_bit.1 hs)).symm.trans hb)
theorem ask_f1 {l : List Rw} {n p : Int} {k o : Nat} (h : k < l.length) (hr : rightB (l.getD k ⟨⟨0, 0⟩, 0⟩).c.m (l.getD k ⟨⟨0, 0⟩, 0⟩).c.v n = true) (hp : 0 ≤ p ∧ p.toNat < 2 ^ n.toNat) (hs : (((l.getD k ⟨⟨0, 0⟩, 0⟩).o / 2 ^ o &&& 1 : Nat) : Int) = 1) (hb : hasB ((ptsF l n l.length).getD k 0) p = false) : rowTo l o p.toNat k = rowTo l o p.toNat (k + 1) :=
  rowTo_f ((ask_has h hr hp (shr_bit.1 hs)).symm.trans hb)
theorem ask_f2 {l : List Rw} {p : Nat} {k o : Nat} (hs : ¬ (((l.getD k ⟨⟨0, 0⟩, 0⟩).o / 2 ^ o &&& 1 : Nat) : Int) = 1) : rowTo l o p k = rowTo l o p (k + 1) :=
  rowTo_f (ask_no (fun h => hs (shr_bit.2 h)))
theorem row_len {l : List Rw} {x : List Int} (h : RowOf l x) : x.length ≤ l.length := by
  obtain ⟨o, p, rfl⟩ := h
  exact rowTo_len _ _ _ _
theorem sort_len {l : List Rw} {ks : List (List Int)} (h : ∀ x, x ∈ ks → RowOf l x) (j : Nat) : ((sortM ks).getD j []).length ≤ l.length := by
  by_cases hj : j < (sortM ks).length
  · exact row_len (h _ (mem_sortM.1 (getD_mem hj)))
  · rw [List.getD_eq_getElem?_getD, List.getElem?_eq_none (by omega)]; simp
theorem insK_same {ks : List (List Int)} {r : List Int} (h : r ∈ ks) : insK ks r = ks := if_pos h
theorem mPts_of {S : Sp} {l : List Rw} {o k : Nat} {pts : List Int} {x : List Int} (h : x ∈ mPts l o pts (mOuts S l o) k) : RowOf l x := by
  rcases (mPts_mem k).1 h with h | ⟨q, _, e⟩
  · exact mOuts_of h
  · exact ⟨_, _, e⟩
theorem drop_all {α : Type} (L : List α) (i : Nat) : (L.drop i).take (L.length - i) = L.drop i := List.take_of_length_le (by simp)
theorem on_lt {S : Sp} {o p : Nat} (hr : rightS S = true) (ho : o < S.on.length) (hb : (S.on.getD o 0).testBit p = true) (hp : p < 256) : p < 2 ^ S.n.toNat := by
  obtain ⟨w1, w2⟩ := (rightS_iff.1 hr).2.2.2.2.2 o ho
  have := withinB_iff.1 w2 p hp (withinB_iff.1 w1 p hp hb)
  rw [allS_testBit] at this
  simpa using this
theorem mPts_lim {S : Sp} {l : List Rw} {o k : Nat} (ho : o < 4) (hk : k ≤ (listS (S.on.getD o 0)).length) : (mPts l o (listS (S.on.getD o 0)) (mOuts S l o) k).length ≤ 2000 := by
  have h1 := mPts_len (l := l) (o := o) (pts := listS (S.on.getD o 0)) (base := mOuts S l o) k
  have h2 := mOuts_len S l o
  have h3 := listS_len (S.on.getD o 0)
  omega
theorem may_1 {S : Sp} {l : List Rw} (h : ¬ rightS S = true) : mayM S l = 1 := if_neg fun k => h k.1
theorem may_2 {S : Sp} {l : List Rw} {k : Nat} (hk : k < l.length) (h : ¬ rightB (l.getD k ⟨⟨0, 0⟩, 0⟩).c.m (l.getD k ⟨⟨0, 0⟩, 0⟩).c.v S.n = true) : mayM S l = 1 := if_neg fun q => h (q.2 k hk)
theorem may_3 {S : Sp} {l : List Rw} (h : rightS S = true) (h2 : ∀ k, k < l.length → rightB (l.getD k ⟨⟨0, 0⟩, 0⟩).c.m (l.getD k ⟨⟨0, 0⟩, 0⟩).c.v S.n = true) (h3 : 4000 < l.length) : mayM S l = 3 := by
  unfold mayM; rw [if_pos ⟨h, h2⟩, if_pos h3]
theorem may_0 {S : Sp} {l : List Rw} (h : rightS S = true) (h2 : ∀ k, k < l.length → rightB (l.getD k ⟨⟨0, 0⟩, 0⟩).c.m (l.getD k ⟨⟨0, 0⟩, 0⟩).c.v S.n = true) (h3 : ¬ 4000 < l.length) : mayM S l = 0 := by
  unfold mayM; rw [if_pos ⟨h, h2⟩, if_neg h3]

def chR (l : List Rw) (bs : List Bool) : Nat → List Rw
  | 0 => []
  | k + 1 => if bs.getD k false = true then chR l bs k ++ [l.getD k ⟨⟨0, 0⟩, 0⟩] else chR l bs k
def chC (bs : List Bool) : Nat → List Int
  | 0 => []
  | k + 1 => if bs.getD k false = true then chC bs k ++ [(k : Int)] else chC bs k
theorem chR_t {l : List Rw} {bs : List Bool} {k : Nat} (h : bs.getD k false = true) : chR l bs k ++ [l.getD k ⟨⟨0, 0⟩, 0⟩] = chR l bs (k + 1) := by rw [chR, if_pos h]
theorem chR_f {l : List Rw} {bs : List Bool} {k : Nat} (h : bs.getD k false = false) : chR l bs k = chR l bs (k + 1) := by rw [chR, if_neg (by rw [h]; decide)]
theorem chC_t {bs : List Bool} {k : Nat} (h : bs.getD k false = true) : chC bs k ++ [(k : Int)] = chC bs (k + 1) := by rw [chC, if_pos h]
theorem chC_f {bs : List Bool} {k : Nat} (h : bs.getD k false = false) : chC bs k = chC bs (k + 1) := by rw [chC, if_neg (by rw [h]; decide)]
theorem mem_chR {l : List Rw} {bs : List Bool} {x : Rw} : ∀ k, x ∈ chR l bs k ↔ ∃ c, c < k ∧ bs.getD c false = true ∧ x = l.getD c ⟨⟨0, 0⟩, 0⟩
  | 0 => by simp [chR]
  | k + 1 => by
    rw [chR]
    by_cases h : bs.getD k false = true
    · rw [if_pos h, List.mem_append, mem_chR k, List.mem_singleton]
      constructor
      · rintro (⟨c, h1, h2⟩ | rfl)
        · exact ⟨c, by omega, h2⟩
        · exact ⟨k, by omega, h, rfl⟩
      · rintro ⟨c, h1, h2, h3⟩
        by_cases e : c = k
        · subst e; exact .inr h3
        · exact .inl ⟨c, by omega, h2, h3⟩
    · rw [if_neg h, mem_chR k]
      constructor
      · rintro ⟨c, h1, h2⟩; exact ⟨c, by omega, h2⟩
      · rintro ⟨c, h1, h2, h3⟩
        have e : c ≠ k := fun e => h (e ▸ h2)
        exact ⟨c, by omega, h2, h3⟩
theorem mem_chC {bs : List Bool} {x : Int} : ∀ k, x ∈ chC bs k ↔ ∃ c : Nat, c < k ∧ bs.getD c false = true ∧ x = (c : Int)
  | 0 => by simp [chC]
  | k + 1 => by
    rw [chC]
    by_cases h : bs.getD k false = true
    · rw [if_pos h, List.mem_append, mem_chC k, List.mem_singleton]
      constructor
      · rintro (⟨c, h1, h2⟩ | rfl)
        · exact ⟨c, by omega, h2⟩
        · exact ⟨k, by omega, h, rfl⟩
      · rintro ⟨c, h1, h2, h3⟩
        by_cases e : c = k
        · subst e; exact .inr h3
        · exact .inl ⟨c, by omega, h2, h3⟩
    · rw [if_neg h, mem_chC k]
      constructor
      · rintro ⟨c, h1, h2⟩; exact ⟨c, by omega, h2⟩
      · rintro ⟨c, h1, h2, h3⟩
        have e : c ≠ k := fun e => h (e ▸ h2)
        exact ⟨c, by omega, h2, h3⟩
theorem chR_len (l : List Rw) (bs : List Bool) : ∀ k, (chR l bs k).length ≤ k
  | 0 => Nat.le_refl _
  | k + 1 => by
    have := chR_len l bs k
    rw [chR]
    split
    · rw [List.length_append, List.length_singleton]; omega
    · omega
theorem chC_len (bs : List Bool) : ∀ k, (chC bs k).length ≤ k
  | 0 => Nat.le_refl _
  | k + 1 => by
    have := chC_len bs k
    rw [chC]
    split
    · rw [List.length_append, List.length_singleton]; omega
    · omega
theorem chR_b {l : List Rw} (h : RowB l) (bs : List Bool) {k : Nat} (hk : k ≤ l.length) : RowB (chR l bs k) := fun x hx => by
  obtain ⟨c, h1, _, rfl⟩ := (mem_chR k).1 hx
  exact h.get (by omega)

theorem solves_mem {L : List (List Int)} {cols : List Int} : solvesB L cols = true ↔ ∀ r, r ∈ L → ∃ c, c ∈ r ∧ c ∈ cols := by
  rw [solvesB_iff]
  constructor
  · intro h r hr
    obtain ⟨k, hk, rfl⟩ := mem_getD (d := []) hr
    exact h k hk
  · exact fun h i hi => h _ (getD_mem hi)
theorem cvB_ch {l : List Rw} {bs : List Bool} {k p o : Nat} : cvB (chR l bs k) p o = true ↔ ∃ c, c < k ∧ bs.getD c false = true ∧ cvR l c o p = true := by
  unfold cvB
  rw [List.any_eq_true]
  constructor
  · rintro ⟨x, hx, h⟩
    obtain ⟨c, h1, h2, rfl⟩ := (mem_chR k).1 hx
    exact ⟨c, h1, h2, h⟩
  · rintro ⟨c, h1, h2, h3⟩
    exact ⟨_, (mem_chR k).2 ⟨c, h1, h2, rfl⟩, h3⟩
theorem means {S : Sp} {l : List Rw} {bs : List Bool} {k : Nat} (hr : rightS S = true) (hw : ∀ q, q < l.length → inR S (l.getD q ⟨⟨0, 0⟩, 0⟩) = true) (hl : l.length ≤ 4000) (hk : k ≤ l.length) :
    (rightM (l.length : Int) (rowsA S l) && solvesB (rowsA S l) (chC bs k)) = covB S (chR l bs k) := by
  rw [rows_right hl, Bool.true_and]
  obtain ⟨h0, h8, h1, h4, h5, hin⟩ := rightS_iff.1 hr
  have hp := two_pow_le h8
  have hm : mayL S (chR l bs k) = true := by
    unfold mayL
    rw [List.all_eq_true]
    intro x hx
    obtain ⟨c, h1, _, rfl⟩ := (mem_chR k).1 hx
    have hi := hw c (by omega)
    exact okR_iff.2 ⟨inR_right hi, (inR_iff.1 hi).2.1, by rw [h5]; exact (inR_lt hi).1⟩
  have hon : ∀ o, o < S.on.length → ∀ p, (onP S o).testBit p = true → p < 256 → p < 2 ^ S.n.toNat := fun o ho p hb hp2 => by
    obtain ⟨w1, w2⟩ := hin o ho
    have := withinB_iff.1 w2 p hp2 (withinB_iff.1 w1 p hp2 hb)
    rw [allS_testBit] at this
    simpa using this
  rw [Bool.eq_iff_iff, solves_mem, covB_iff]
  constructor
  · intro h
    refine ⟨hr, hm, fun o ho => (covO_iff hr hm ho).2 fun p hpn => ⟨fun hb => ?_, fun hc => ?_⟩⟩
    · have hmem : rowC l o p ∈ rowsA S l := mem_sortM.2 ((mOuts_mem _).2 (by
        obtain ⟨j, hj, hjp⟩ := mem_getD (d := (0 : Int)) (mem_listS.2 ⟨p, by omega, hb, rfl⟩ : (p : Int) ∈ listS (onP S o))
        refine ⟨o, ho, j, hj, ?_⟩
        unfold onP at hjp
        rw [hjp, Int.toNat_natCast]))
      obtain ⟨c, hc1, hc2⟩ := h _ hmem
      obtain ⟨c, rfl, g1, g2⟩ := mem_rowTo.1 hc1
      obtain ⟨c', g3, g4, g5⟩ := (mem_chC k).1 hc2
      obtain rfl : c = c' := by omega
      exact cvB_ch.2 ⟨c, g3, g4, g2⟩
    · obtain ⟨c, g1, g2, g3⟩ := cvB_ch.1 hc
      have hi := hw c (by omega)
      unfold cvR at g3
      rw [Bool.and_eq_true] at g3
      obtain ⟨k1, k2⟩ := (inR_iff.1 hi).2.2 o g3.1
      have hv := (rightB_iff.1 (inR_right hi)).2.2.2
      refine (imp_iff.1 k2).2 p hpn ?_
      have := of_decide_eq_true g3.2
      rw [hv] at this
      exact this
  · rintro ⟨_, _, h⟩ r hr2
    obtain ⟨o, ho, j, hj, rfl⟩ := (mOuts_mem _).1 (mem_sortM.1 hr2)
    obtain ⟨p, hp2, hb, e⟩ := listS_get hj
    rw [e, Int.toNat_natCast]
    have hpn := hon o ho p hb hp2
    obtain ⟨c, g1, g2, g3⟩ := cvB_ch.1 (((covO_iff hr hm ho).1 (h o ho) p hpn).1 hb)
    exact ⟨(c : Int), mem_rowTo.2 ⟨c, rfl, by omega, g3⟩, (mem_chC k).2 ⟨c, g1, g2, rfl⟩⟩

/-! ### More columns, all of them, strange ones -/
theorem more_sol {L : List (List Int)} {a b : List Int} (h : solvesB L a = true) : solvesB L (a ++ b) = true := solves_mem.2 fun r hr => by
  obtain ⟨c, h1, h2⟩ := solves_mem.1 h r hr
  exact ⟨c, h1, List.mem_append_left _ h2⟩
def upL (n : Nat) : List Int := (List.range n).map fun k : Nat => (k : Int)
theorem upL_snoc (k : Nat) : upL k ++ [(k : Int)] = upL (k + 1) := by
  unfold upL
  rw [List.range_succ, List.map_append]; rfl
theorem upL_len (k : Nat) : (upL k).length = k := by simp [upL]
theorem mem_upL {k : Nat} {x : Int} : x ∈ upL k ↔ 0 ≤ x ∧ x < k := by
  unfold upL
  rw [List.mem_map]
  constructor
  · rintro ⟨c, h, rfl⟩
    have := List.mem_range.1 h
    omega
  · intro h
    exact ⟨x.toNat, List.mem_range.2 (by omega), by omega⟩
/-- Is no row of the first k empty? -/
def fullTo (L : List (List Int)) (k : Nat) : Bool := (List.range k).all fun i => decide (0 < (L.getD i []).length)
theorem full_put (L : List (List Int)) (k : Nat) : fullTo L (k + 1) = (fullTo L k && decide (0 < (L.getD k []).length)) := by
  unfold fullTo
  rw [List.range_succ, List.all_append]
  simp
theorem full_iff {L : List (List Int)} {k : Nat} : fullTo L k = true ↔ ∀ i, i < k → 0 < (L.getD i []).length := by
  unfold fullTo
  rw [List.all_eq_true]
  exact ⟨fun h i hi => by simpa using h i (List.mem_range.2 hi), fun h i hi => by simpa using h i (List.mem_range.1 hi)⟩
theorem all_sol {n : Int} {L : List (List Int)} (h : rightM n L = true) : solvesB L (upL n.toNat) = fullTo L L.length := by
  rw [Bool.eq_iff_iff, solvesB_iff, full_iff]
  constructor
  · intro g i hi
    obtain ⟨c, h1, _⟩ := g i hi
    exact List.length_pos_of_mem h1
  · intro g i hi
    have hp := g i hi
    have h1 := rowOk_iff.1 ((rightM_iff.1 h).2.2 i hi) 0 hp
    exact ⟨_, getD_mem hp, mem_upL.2 ⟨h1.1, by have := (rightM_iff.1 h).1; omega⟩⟩
theorem strange_sol {n : Int} {L : List (List Int)} {cols : List Int} (h : rightM n L = true) : solvesB L (cols ++ [-1, n]) = solvesB L cols := by
  rw [Bool.eq_iff_iff, solvesB_iff, solvesB_iff]
  constructor
  · intro g i hi
    obtain ⟨c, h1, h2⟩ := g i hi
    obtain ⟨k, hk, rfl⟩ := mem_getD (d := 0) h1
    have h3 := rowOk_iff.1 ((rightM_iff.1 h).2.2 i hi) k hk
    refine ⟨_, h1, ?_⟩
    simp only [List.mem_append, List.mem_cons, List.not_mem_nil, or_false] at h2
    rcases h2 with h2 | h2 | h2
    · exact h2
    · omega
    · omega
  · intro g i hi
    obtain ⟨c, h1, h2⟩ := g i hi
    exact ⟨c, h1, List.mem_append_left _ h2⟩

end Go.Proofs.Ytdbcijijhhbkaaa
