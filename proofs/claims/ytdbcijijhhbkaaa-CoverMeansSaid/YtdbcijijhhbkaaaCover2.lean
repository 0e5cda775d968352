/-
  Plain words for coverings of a spec: which rows there are, how they stand, the document's way of putting them in order. No program in it.
-/
import Derived.Test.YtdbcijijhhbkaaaCover
import Derived.Test.YtdbcijijhhbkaaaWord
import Derived.Test.YtdbcijijhhbkaaaCov
namespace Go.Proofs.Ytdbcijijhhbkaaa
set_option linter.unusedVariables false
set_option linter.unusedSimpArgs false
open Go Go.RowKit

/-! ### The order of rows -/
def lexB : List Int → List Int → Bool
  | a :: as, b :: bs => if a = b then lexB as bs else decide (a < b)
  | _, _ => false
theorem lex_irr : ∀ a : List Int, lexB a a = false
  | [] => rfl
  | a :: as => by rw [lexB, if_pos rfl]; exact lex_irr as
theorem lex_trans : ∀ a b c : List Int, lexB a b = true → lexB b c = true → lexB a c = true
  | [], b, c, h, _ => by cases b <;> simp [lexB] at h
  | a :: as, [], c, h, _ => by simp [lexB] at h
  | a :: as, b :: bs, [], _, h => by simp [lexB] at h
  | a :: as, b :: bs, c :: cs, h1, h2 => by
    rw [lexB] at h1 h2 ⊢
    by_cases e1 : a = b
    · subst e1
      rw [if_pos rfl] at h1
      by_cases e2 : a = c
      · subst e2
        rw [if_pos rfl] at h2 ⊢
        exact lex_trans as bs cs h1 h2
      · rw [if_neg e2] at h2 ⊢; exact h2
    · rw [if_neg e1, decide_eq_true_eq] at h1
      by_cases e2 : b = c
      · subst e2
        rw [if_neg e1, decide_eq_true_eq]; exact h1
      · rw [if_neg e2, decide_eq_true_eq] at h2
        rw [if_neg (by omega), decide_eq_true_eq]; omega
theorem lex_total : ∀ a b : List Int, a.length = b.length → a ≠ b → lexB a b = true ∨ lexB b a = true
  | [], [], _, h => absurd rfl h
  | [], b :: bs, h, _ => by simp at h
  | a :: as, [], h, _ => by simp at h
  | a :: as, b :: bs, h, hne => by
    rw [lexB, lexB]
    by_cases e : a = b
    · subst e
      rw [if_pos rfl, if_pos rfl]
      exact lex_total as bs (by simpa using h) (fun e => hne (by rw [e]))
    · rw [if_neg e, if_neg (fun h => e h.symm), decide_eq_true_eq, decide_eq_true_eq]; omega
theorem lex_ne : ∀ (a b : List Int) (k : Nat), a.length = b.length → k < a.length → (∀ q, q < k → a.getD q 0 = b.getD q 0) → a.getD k 0 ≠ b.getD k 0 → lexB a b = decide (a.getD k 0 < b.getD k 0)
  | [], _, k, _, h, _, _ => by simp at h
  | a :: as, [], k, h, _, _, _ => by simp at h
  | a :: as, b :: bs, 0, h, h1, h2, h3 => by
    rw [lexB, if_neg (by simpa using h3)]; rfl
  | a :: as, b :: bs, k + 1, h, h1, h2, h3 => by
    have e : a = b := by simpa using h2 0 (by omega)
    rw [lexB, if_pos e, lex_ne as bs k (by simpa using h) (by simpa using h1) (fun q hq => by simpa using h2 (q + 1) (by omega)) (by simpa using h3)]
    simp
theorem eq_of_all : ∀ (a b : List Int), a.length = b.length → (∀ q, q < a.length → a.getD q 0 = b.getD q 0) → a = b
  | [], [], _, _ => rfl
  | [], b :: bs, h, _ => by simp at h
  | a :: as, [], h, _ => by simp at h
  | a :: as, b :: bs, h, h1 => by
    have e : a = b := by simpa using h1 0 (by simp)
    rw [e, eq_of_all as bs (by simpa using h) (fun q hq => by simpa using h1 (q + 1) (by simpa using hq))]

def aheadB (a b : List Int) : Bool := decide (a.length < b.length) || (decide (a.length = b.length) && lexB a b)
theorem ah_lt {a b : List Int} (h : a.length < b.length) : aheadB a b = true := by unfold aheadB; rw [decide_eq_true h]; rfl
theorem ah_gt {a b : List Int} (h : b.length < a.length) : aheadB a b = false := by
  unfold aheadB; rw [decide_eq_false (show ¬ a.length < b.length by omega), decide_eq_false (show ¬ a.length = b.length by omega)]; rfl
theorem ah_eq {a b : List Int} (h : a.length = b.length) : aheadB a b = lexB a b := by
  unfold aheadB; rw [decide_eq_false (show ¬ a.length < b.length by omega), decide_eq_true h]; rfl
theorem ah_ne {a b : List Int} (h : a.length ≠ b.length) : aheadB a b = decide (a.length < b.length) := by
  unfold aheadB; rw [decide_eq_false h, Bool.false_and, Bool.or_false]
theorem ah_irr (a : List Int) : aheadB a a = false := by rw [ah_eq rfl, lex_irr]
theorem ah_trans {a b c : List Int} (h1 : aheadB a b = true) (h2 : aheadB b c = true) : aheadB a c = true := by
  rcases Nat.lt_trichotomy a.length b.length with h | h | h
  · rcases Nat.lt_trichotomy b.length c.length with k | k | k
    · exact ah_lt (by omega)
    · exact ah_lt (by omega)
    · rw [ah_gt k] at h2; cases h2
  · rcases Nat.lt_trichotomy b.length c.length with k | k | k
    · exact ah_lt (by omega)
    · rw [ah_eq h] at h1; rw [ah_eq k] at h2; rw [ah_eq (by omega)]; exact lex_trans _ _ _ h1 h2
    · rw [ah_gt k] at h2; cases h2
  · rw [ah_gt h] at h1; cases h1
theorem ah_total {a b : List Int} (h : a ≠ b) : aheadB a b = true ∨ aheadB b a = true := by
  rcases Nat.lt_trichotomy a.length b.length with k | k | k
  · exact .inl (ah_lt k)
  · rw [ah_eq k, ah_eq k.symm]; exact lex_total _ _ k h
  · exact .inr (ah_lt k)
theorem ah_asymm {a b : List Int} (h : aheadB a b = true) : aheadB b a = false := Bool.eq_false_iff.2 fun k => by
  have := ah_trans h k
  rw [ah_irr] at this; cases this

/-! ### Rows put where they stand -/
def insS : List (List Int) → List Int → List (List Int)
  | [], r => [r]
  | x :: xs, r => if aheadB x r then x :: insS xs r else r :: x :: xs
theorem ins_at : ∀ (L : List (List Int)) (r : List Int) (i : Nat), i ≤ L.length → (∀ q, q < i → aheadB (L.getD q []) r = true) → (i < L.length → aheadB (L.getD i []) r = false) → L.take i ++ ([r] ++ L.drop i) = insS L r
  | [], r, i, h, _, _ => by
    obtain rfl : i = 0 := by simpa using h
    rfl
  | x :: xs, r, 0, _, _, h => by
    have h0 : aheadB x r = false := by simpa using h (by simp)
    rw [insS, h0]; rfl
  | x :: xs, r, i + 1, hi, h1, h2 => by
    have h0 : aheadB x r = true := by simpa using h1 0 (by omega)
    rw [insS, if_pos h0, ← ins_at xs r i (by simpa using hi) (fun q hq => by simpa using h1 (q + 1) (by omega)) (fun h => by simpa using h2 (by simpa using h))]
    rfl
theorem insS_len (L : List (List Int)) (r : List Int) : (insS L r).length = L.length + 1 := by
  induction L with
  | nil => rfl
  | cons x xs ih =>
    rw [insS]
    split
    · rw [List.length_cons, ih]; rfl
    · rfl
theorem mem_insS {L : List (List Int)} {r x : List Int} : x ∈ insS L r ↔ x ∈ L ∨ x = r := by
  induction L with
  | nil => simp [insS]
  | cons y ys ih =>
    rw [insS]
    split
    · rw [List.mem_cons, ih, List.mem_cons, or_assoc]
    · simp only [List.mem_cons]
      constructor
      · rintro (h | h | h)
        · exact .inr h
        · exact .inl (.inl h)
        · exact .inl (.inr h)
      · rintro ((h | h) | h)
        · exact .inr (.inl h)
        · exact .inr (.inr h)
        · exact .inl h
def Up (L : List (List Int)) : Prop := L.Pairwise fun a b => aheadB a b = true
theorem up_insS {L : List (List Int)} {r : List Int} (h : Up L) (hr : r ∉ L) : Up (insS L r) := by
  induction L with
  | nil => exact List.pairwise_singleton _ _
  | cons y ys ih =>
    obtain ⟨h1, h2⟩ := List.pairwise_cons.1 h
    rw [insS]
    split
    · rename_i hy
      refine List.pairwise_cons.2 ⟨fun z hz => ?_, ih h2 (fun k => hr (List.mem_cons_of_mem _ k))⟩
      rcases mem_insS.1 hz with hz | rfl
      · exact h1 z hz
      · exact hy
    · rename_i hy
      have hry : aheadB r y = true := by
        rcases ah_total (a := r) (b := y) (fun e => hr (e ▸ List.mem_cons_self ..)) with k | k
        · exact k
        · exact absurd k hy
      refine List.pairwise_cons.2 ⟨fun z hz => ?_, h⟩
      rcases List.mem_cons.1 hz with rfl | hz
      · exact hry
      · exact ah_trans hry (h1 z hz)
def sortM (ks : List (List Int)) : List (List Int) := ks.foldl insS []
theorem sortM_put (ks : List (List Int)) (r : List Int) : sortM (insK ks r) = if r ∈ ks then sortM ks else insS (sortM ks) r := by
  unfold insK
  split
  · rfl
  · unfold sortM; rw [List.foldl_append]; rfl
theorem fold_mem {x : List Int} : ∀ (ks b : List (List Int)), x ∈ ks.foldl insS b ↔ x ∈ b ∨ x ∈ ks
  | [], b => by simp
  | k :: ks, b => by
    rw [List.foldl_cons, fold_mem ks, mem_insS, List.mem_cons, or_assoc]
theorem mem_sortM {ks : List (List Int)} {x : List Int} : x ∈ sortM ks ↔ x ∈ ks := by
  unfold sortM; rw [fold_mem]; simp
theorem fold_len : ∀ (ks b : List (List Int)), (ks.foldl insS b).length = b.length + ks.length
  | [], b => rfl
  | k :: ks, b => by rw [List.foldl_cons, fold_len ks, insS_len, List.length_cons]; omega
theorem sortM_len (ks : List (List Int)) : (sortM ks).length = ks.length := by unfold sortM; rw [fold_len]; simp
theorem fold_up : ∀ (ks b : List (List Int)), Up b → ks.Nodup → (∀ x, x ∈ ks → x ∉ b) → Up (ks.foldl insS b)
  | [], b, h, _, _ => h
  | k :: ks, b, h, hn, hd => by
    obtain ⟨n1, n2⟩ := List.nodup_cons.1 hn
    refine fold_up ks _ (up_insS h (hd k (List.mem_cons_self ..))) n2 fun x hx hm => ?_
    rcases mem_insS.1 hm with hm | rfl
    · exact hd x (List.mem_cons_of_mem _ hx) hm
    · exact n1 hx
theorem up_sortM {ks : List (List Int)} (h : ks.Nodup) : Up (sortM ks) := fold_up ks [] List.Pairwise.nil h (fun x _ h => by cases h)
theorem up_get {L : List (List Int)} (h : Up L) {i j : Nat} (hij : i < j) (hj : j < L.length) : aheadB (L.getD i []) (L.getD j []) = true := by
  have := List.pairwise_iff_getElem.1 h i j (by omega) hj hij
  rw [List.getD_eq_getElem?_getD, List.getD_eq_getElem?_getD, List.getElem?_eq_getElem (by omega), List.getElem?_eq_getElem hj]
  exact this
/-- Where the loop from behind stops, the row is put. -/
theorem put_at {ks : List (List Int)} {r : List Int} {i : Nat} (hn : ks.Nodup) (hr : r ∉ ks) (hi : i ≤ (sortM ks).length) (h1 : ∀ q, i ≤ q → q < (sortM ks).length → aheadB r ((sortM ks).getD q []) = true) (h2 : 0 < i → aheadB r ((sortM ks).getD (i - 1) []) = false) :
    (sortM ks).take i ++ ([r] ++ (sortM ks).drop i) = sortM (insK ks r) := by
  rw [sortM_put, if_neg hr]
  refine ins_at _ _ _ hi (fun q hq => ?_) (fun h => ah_asymm (h1 i (Nat.le_refl _) h))
  have hm : (sortM ks).getD (i - 1) [] ∈ ks := mem_sortM.1 (getD_mem (by omega))
  have hp : aheadB ((sortM ks).getD (i - 1) []) r = true := by
    rcases ah_total (a := (sortM ks).getD (i - 1) []) (b := r) (fun e => hr (e ▸ hm)) with k | k
    · exact k
    · rw [h2 (by omega)] at k; cases k
  by_cases e : q = i - 1
  · subst e; exact hp
  · exact ah_trans (up_get (up_sortM hn) (show q < i - 1 by omega) (by omega)) hp

/-! ### The document's way: the least of those behind -/
def behB (S : List (List Int)) (m : Nat) (x : List Int) : Bool := decide (m = 0) || aheadB (S.getD (m - 1) []) x
def BestAt (S all : List (List Int)) (m k : Nat) (b : Int) : Prop := (b = -1 ∧ ∀ q, q < k → behB S m (all.getD q []) = false) ∨ ∃ c : Nat, b = (c : Int) ∧ c < k ∧ behB S m (all.getD c []) = true ∧ ∀ q, q < k → behB S m (all.getD q []) = true → aheadB (all.getD q []) (all.getD c []) = false
theorem best_zero (S all : List (List Int)) (m : Nat) : BestAt S all m 0 (-1) := .inl ⟨rfl, upTo_zero⟩
theorem best_no {S all : List (List Int)} {m k : Nat} {b : Int} (h : BestAt S all m k b) (hb : behB S m (all.getD k []) = false) : BestAt S all m (k + 1) b := by
  rcases h with ⟨h1, h2⟩ | ⟨c, h1, h2, h3, h4⟩
  · exact .inl ⟨h1, upTo_succ h2 hb⟩
  · exact .inr ⟨c, h1, by omega, h3, upTo_succ h4 (fun h => by rw [hb] at h; cases h)⟩
theorem best_first {S all : List (List Int)} {m k : Nat} {b : Int} (h : BestAt S all m k b) (h0 : b < 0) (hb : behB S m (all.getD k []) = true) : BestAt S all m (k + 1) (k : Int) := by
  rcases h with ⟨h1, h2⟩ | ⟨c, h1, h2, h3, h4⟩
  · refine .inr ⟨k, rfl, by omega, hb, fun q hq hbq => ?_⟩
    by_cases e : q = k
    · subst e; exact ah_irr _
    · rw [h2 q (by omega)] at hbq; cases hbq
  · omega
theorem best_less {S all : List (List Int)} {m k : Nat} {b : Int} (h : BestAt S all m k b) (h0 : ¬ b < 0) (hb : behB S m (all.getD k []) = true) (ha : aheadB (all.getD k []) (all.getD b.toNat []) = true) : BestAt S all m (k + 1) (k : Int) := by
  rcases h with ⟨h1, h2⟩ | ⟨c, h1, h2, h3, h4⟩
  · omega
  · subst h1
    rw [Int.toNat_natCast] at ha
    refine .inr ⟨k, rfl, by omega, hb, fun q hq hbq => ?_⟩
    by_cases e : q = k
    · subst e; exact ah_irr _
    · refine Bool.eq_false_iff.2 fun hq2 => ?_
      have := ah_trans hq2 ha
      rw [h4 q (by omega) hbq] at this; cases this
theorem best_keep {S all : List (List Int)} {m k : Nat} {b : Int} (h : BestAt S all m k b) (h0 : ¬ b < 0) (ha : aheadB (all.getD k []) (all.getD b.toNat []) = false) : BestAt S all m (k + 1) b := by
  rcases h with ⟨h1, h2⟩ | ⟨c, h1, h2, h3, h4⟩
  · omega
  · subst h1
    rw [Int.toNat_natCast] at ha
    exact .inr ⟨c, rfl, by omega, h3, upTo_succ h4 (fun _ => ha)⟩
theorem best_end {all : List (List Int)} {m k : Nat} {b : Int} (hn : all.Nodup) (hm : m < all.length) (hk : k = all.length) (h : BestAt (sortM all) all m k b) : 0 ≤ b ∧ b < all.length ∧ all.getD b.toNat [] = (sortM all).getD m [] := by
  subst hk
  have hl := sortM_len all
  have hu := up_sortM hn
  have hmem : (sortM all).getD m [] ∈ all := mem_sortM.1 (getD_mem (by omega))
  obtain ⟨j, hj, hjm⟩ := mem_getD (d := []) hmem
  have hbm : behB (sortM all) m (all.getD j []) = true := by
    rw [hjm]
    unfold behB
    by_cases e : m = 0
    · rw [decide_eq_true e]; rfl
    · rw [up_get hu (show m - 1 < m by omega) (by omega), Bool.or_true]
  rcases h with ⟨h1, h2⟩ | ⟨c, h1, h2, h3, h4⟩
  · rw [h2 j hj] at hbm; cases hbm
  · subst h1
    refine ⟨by omega, by omega, ?_⟩
    rw [Int.toNat_natCast]
    have hcm : all.getD c [] ∈ sortM all := mem_sortM.2 (getD_mem h2)
    obtain ⟨i, hi, him⟩ := mem_getD (d := []) hcm
    have h5 := h4 j hj hbm
    rw [hjm, ← him] at h5
    rcases Nat.lt_trichotomy i m with k | k | k
    · exfalso
      unfold behB at h3
      rw [decide_eq_false (show ¬ m = 0 by omega), Bool.false_or, ← him] at h3
      by_cases e : i = m - 1
      · subst e; rw [ah_irr] at h3; cases h3
      · have := ah_asymm (up_get hu (show i < m - 1 by omega) (by omega))
        rw [h3] at this; cases this
    · rw [← him, k]
    · rw [up_get hu k hi] at h5; cases h5
theorem take_put {S : List (List Int)} {m : Nat} (h : m < S.length) : S.take m ++ [S.getD m []] = S.take (m + 1) := by
  rw [List.take_add_one, List.getD_eq_getElem?_getD, List.getElem?_eq_getElem h]; rfl

/-! ### The rows of a spec and rows -/
def cvR (l : List Rw) (c o p : Nat) : Bool := (l.getD c ⟨⟨0, 0⟩, 0⟩).o.testBit o && hasC (l.getD c ⟨⟨0, 0⟩, 0⟩).c.m (l.getD c ⟨⟨0, 0⟩, 0⟩).c.v p
def rowTo (l : List Rw) (o p k : Nat) : List Int := ((List.range k).filter fun c => cvR l c o p).map fun c : Nat => (c : Int)
def rowC (l : List Rw) (o p : Nat) : List Int := rowTo l o p l.length
theorem rowTo_succ (l : List Rw) (o p k : Nat) : rowTo l o p (k + 1) = if cvR l k o p then rowTo l o p k ++ [(k : Int)] else rowTo l o p k := by
  unfold rowTo
  rw [List.range_succ, List.filter_append, List.map_append]
  by_cases h : cvR l k o p = true
  · simp [h]
  · simp [h]
theorem rowTo_t {l : List Rw} {o p k : Nat} (h : cvR l k o p = true) : rowTo l o p k ++ [(k : Int)] = rowTo l o p (k + 1) := by rw [rowTo_succ, if_pos h]
theorem rowTo_f {l : List Rw} {o p k : Nat} (h : cvR l k o p = false) : rowTo l o p k = rowTo l o p (k + 1) := by rw [rowTo_succ, if_neg (by rw [h]; decide)]
theorem mem_rowTo {l : List Rw} {o p k : Nat} {x : Int} : x ∈ rowTo l o p k ↔ ∃ c : Nat, x = c ∧ c < k ∧ cvR l c o p = true := by
  unfold rowTo
  simp only [List.mem_map, List.mem_filter, List.mem_range]
  constructor
  · rintro ⟨c, ⟨h1, h2⟩, rfl⟩; exact ⟨c, rfl, h1, h2⟩
  · rintro ⟨c, rfl, h1, h2⟩; exact ⟨c, ⟨h1, h2⟩, rfl⟩
theorem rowTo_len (l : List Rw) (o p k : Nat) : (rowTo l o p k).length ≤ k := by
  unfold rowTo
  rw [List.length_map]
  exact Nat.le_trans (List.length_filter_le _ _) (by simp)
theorem rowTo_up (l : List Rw) (o p k : Nat) : (rowTo l o p k).Pairwise fun a b => a < b := by
  unfold rowTo
  rw [List.pairwise_map]
  refine List.Pairwise.filter _ ?_
  exact List.pairwise_lt_range.imp (fun h => by omega)
theorem rowOk_of {n : Int} {L : List Int} (h : L.Pairwise fun a b => a < b) (hb : ∀ x, x ∈ L → 0 ≤ x ∧ x < n) : rowOk n L = true := rowOk_iff.2 fun k hk => by
  obtain ⟨h1, h2⟩ := hb _ (getD_mem (d := 0) hk)
  refine ⟨h1, h2, fun hp => ?_⟩
  have := List.pairwise_iff_getElem.1 h (k - 1) k (by omega) hk (by omega)
  rw [List.getD_eq_getElem?_getD, List.getD_eq_getElem?_getD, List.getElem?_eq_getElem (by omega), List.getElem?_eq_getElem hk]
  exact this
theorem rowC_ok (l : List Rw) (o p : Nat) : rowOk (l.length : Int) (rowC l o p) = true := rowOk_of (rowTo_up l o p _) fun x hx => by
  obtain ⟨c, rfl, h1, _⟩ := mem_rowTo.1 hx
  omega
def mPts (l : List Rw) (o : Nat) (pts : List Int) (base : List (List Int)) : Nat → List (List Int)
  | 0 => base
  | k + 1 => insK (mPts l o pts base k) (rowC l o (pts.getD k 0).toNat)
def mOuts (S : Sp) (l : List Rw) : Nat → List (List Int)
  | 0 => []
  | o + 1 => mPts l o (listS (S.on.getD o 0)) (mOuts S l o) (listS (S.on.getD o 0)).length
def metA (S : Sp) (l : List Rw) : List (List Int) := mOuts S l S.on.length
def rowsA (S : Sp) (l : List Rw) : List (List Int) := sortM (metA S l)
theorem mPts_mem {l : List Rw} {o : Nat} {pts : List Int} {base : List (List Int)} {x : List Int} : ∀ k, x ∈ mPts l o pts base k ↔ x ∈ base ∨ ∃ q, q < k ∧ x = rowC l o (pts.getD q 0).toNat
  | 0 => by simp [mPts]
  | k + 1 => by
    rw [mPts, mem_insK, mPts_mem k]
    constructor
    · rintro ((h | ⟨q, h1, h2⟩) | h)
      · exact .inl h
      · exact .inr ⟨q, by omega, h2⟩
      · exact .inr ⟨k, by omega, h⟩
    · rintro (h | ⟨q, h1, h2⟩)
      · exact .inl (.inl h)
      · by_cases e : q = k
        · subst e; exact .inr h2
        · exact .inl (.inr ⟨q, by omega, h2⟩)
theorem mOuts_mem {S : Sp} {l : List Rw} {x : List Int} : ∀ o, x ∈ mOuts S l o ↔ ∃ q, q < o ∧ ∃ j, j < (listS (S.on.getD q 0)).length ∧ x = rowC l q ((listS (S.on.getD q 0)).getD j 0).toNat
  | 0 => by simp [mOuts]
  | o + 1 => by
    rw [mOuts, mPts_mem, mOuts_mem o]
    constructor
    · rintro (⟨q, h1, h2⟩ | ⟨j, h1, h2⟩)
      · exact ⟨q, by omega, h2⟩
      · exact ⟨o, by omega, j, h1, h2⟩
    · rintro ⟨q, h1, h2⟩
      by_cases e : q = o
      · subst e; exact .inr h2
      · exact .inl ⟨q, by omega, h2⟩
theorem mPts_nodup {l : List Rw} {o : Nat} {pts : List Int} {base : List (List Int)} (h : base.Nodup) : ∀ k, (mPts l o pts base k).Nodup
  | 0 => h
  | k + 1 => nodup_insK (mPts_nodup h k) _
theorem mOuts_nodup (S : Sp) (l : List Rw) : ∀ o, (mOuts S l o).Nodup
  | 0 => List.nodup_nil
  | o + 1 => mPts_nodup (mOuts_nodup S l o) _
theorem mPts_len {l : List Rw} {o : Nat} {pts : List Int} {base : List (List Int)} : ∀ k, (mPts l o pts base k).length ≤ base.length + k
  | 0 => Nat.le_refl _
  | k + 1 => by
    have := insK_len (mPts l o pts base k) (rowC l o (pts.getD k 0).toNat)
    have := mPts_len (l := l) (o := o) (pts := pts) (base := base) k
    rw [mPts]; omega
theorem mOuts_len (S : Sp) (l : List Rw) : ∀ o, (mOuts S l o).length ≤ 256 * o
  | 0 => Nat.le_refl _
  | o + 1 => by
    have h1 := mPts_len (l := l) (o := o) (pts := listS (S.on.getD o 0)) (base := mOuts S l o) (listS (S.on.getD o 0)).length
    have h2 := mOuts_len S l o
    have h3 := listS_len (S.on.getD o 0)
    rw [mOuts]; omega
/-- All that is met is a row of some point. -/
def RowOf (l : List Rw) (x : List Int) : Prop := ∃ o p, x = rowC l o p
theorem mOuts_of {S : Sp} {l : List Rw} {o : Nat} {x : List Int} (h : x ∈ mOuts S l o) : RowOf l x := by
  obtain ⟨q, _, j, _, e⟩ := (mOuts_mem o).1 h
  exact ⟨_, _, e⟩
theorem rows_right {S : Sp} {l : List Rw} (h : l.length ≤ 4000) : rightM (l.length : Int) (rowsA S l) = true := rightM_iff.2 ⟨by omega, by omega, fun i hi => by
  obtain ⟨o, p, e⟩ := mOuts_of (mem_sortM.1 (getD_mem (d := []) hi))
  rw [show (rowsA S l).getD i [] = rowC l o p from e]
  exact rowC_ok l o p⟩

/-! ### Their words -/
def wordI (row : List Int) : List Int := row.flatMap fun c => [c / 256 % 256, c % 256]
def wordL (row : List Int) : List UInt8 := bytesL (wordI row)
theorem wordI_snoc (row : List Int) (k : Nat) (hk : k < row.length) : wordI (row.take k) ++ [row.getD k 0 / 256 % 256, row.getD k 0 % 256] = wordI (row.take (k + 1)) := by
  unfold wordI
  rw [List.take_add_one, List.flatMap_append, List.getD_eq_getElem?_getD, List.getElem?_eq_getElem hk]
  simp
theorem wordI_len (row : List Int) : (wordI row).length = 2 * row.length := by
  unfold wordI
  induction row with
  | nil => rfl
  | cons a l ih => rw [List.flatMap_cons, List.length_append, ih]; simp; omega
theorem byte_inj {x y : Int} (hx : 0 ≤ x ∧ x < 256) (hy : 0 ≤ y ∧ y < 256) (h : UInt8.ofNat x.toNat = UInt8.ofNat y.toNat) : x = y := by
  have h2 := congrArg UInt8.toNat h
  rw [UInt8.toNat_ofNat', UInt8.toNat_ofNat', Nat.mod_eq_of_lt (by omega), Nat.mod_eq_of_lt (by omega)] at h2
  omega
theorem wordL_inj : ∀ (a b : List Int), (∀ x, x ∈ a → 0 ≤ x ∧ x < 65536) → (∀ x, x ∈ b → 0 ≤ x ∧ x < 65536) → wordL a = wordL b → a = b
  | [], [], _, _, _ => rfl
  | [], b :: bs, _, _, h => by simp [wordL, wordI, bytesL] at h
  | a :: as, [], _, _, h => by simp [wordL, wordI, bytesL] at h
  | a :: as, b :: bs, ha, hb, h => by
    have h0 := ha a (List.mem_cons_self ..)
    have h1 := hb b (List.mem_cons_self ..)
    have hh : UInt8.ofNat (a / 256 % 256).toNat = UInt8.ofNat (b / 256 % 256).toNat ∧ UInt8.ofNat (a % 256).toNat = UInt8.ofNat (b % 256).toNat ∧ wordL as = wordL bs := by
      simpa [wordL, wordI, bytesL, List.flatMap_cons] using h
    have e1 := byte_inj ⟨by omega, by omega⟩ ⟨by omega, by omega⟩ hh.1
    have e2 := byte_inj ⟨by omega, by omega⟩ ⟨by omega, by omega⟩ hh.2.1
    rw [wordL_inj as bs (fun x hx => ha x (List.mem_cons_of_mem _ hx)) (fun x hx => hb x (List.mem_cons_of_mem _ hx)) hh.2.2, show a = b by omega]
theorem RowOf.small {l : List Rw} {x : List Int} (h : RowOf l x) (hl : l.length ≤ 4000) : ∀ c, c ∈ x → 0 ≤ c ∧ c < 65536 := fun c hc => by
  obtain ⟨o, p, rfl⟩ := h
  obtain ⟨c, rfl, h1, _⟩ := mem_rowTo.1 hc
  omega
theorem word_mem {l : List Rw} {ks : List (List Int)} {r : List Int} (hl : l.length ≤ 4000) (hk : ∀ x, x ∈ ks → RowOf l x) (hr : RowOf l r) : wordL r ∈ ks.map wordL ↔ r ∈ ks := by
  rw [List.mem_map]
  constructor
  · rintro ⟨x, hx, e⟩
    rw [← wordL_inj x r ((hk x hx).small hl) (hr.small hl) e]; exact hx
  · exact fun h => ⟨r, h, rfl⟩
theorem word_ins {l : List Rw} {ks : List (List Int)} {r : List Int} (hl : l.length ≤ 4000) (hk : ∀ x, x ∈ ks → RowOf l x) (hr : RowOf l r) : insK (ks.map wordL) (wordL r) = (insK ks r).map wordL := by
  unfold insK
  by_cases h : r ∈ ks
  · rw [if_pos h, if_pos ((word_mem hl hk hr).2 h)]
  · rw [if_neg h, if_neg (fun k => h ((word_mem hl hk hr).1 k)), List.map_append]; rfl

end Go.Proofs.Ytdbcijijhhbkaaa
