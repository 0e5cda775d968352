/-
  Plain words for coverings: rows of columns, which are right, what solves them. No program in it.
-/
import Derived.Test.YtdbcijijhhbkaaaLists
namespace Go.Proofs.Ytdbcijijhhbkaaa
set_option linter.unusedVariables false
set_option linter.unusedSimpArgs false
open Go Go.RowKit

def rowOk (cols : Int) (l : List Int) : Bool := (List.range l.length).all fun k => decide (0 ≤ l.getD k 0) && (decide (l.getD k 0 < cols) && decide (0 < k → l.getD (k - 1) 0 < l.getD k 0))
theorem rowOk_iff {cols : Int} {l : List Int} : rowOk cols l = true ↔ ∀ k, k < l.length → 0 ≤ l.getD k 0 ∧ l.getD k 0 < cols ∧ (0 < k → l.getD (k - 1) 0 < l.getD k 0) := by
  unfold rowOk
  rw [List.all_eq_true]
  constructor
  · intro h k hk
    have := h k (List.mem_range.2 hk)
    simp only [Bool.and_eq_true, decide_eq_true_eq] at this
    exact ⟨this.1, this.2.1, this.2.2⟩
  · intro h k hk
    obtain ⟨h1, h2, h3⟩ := h k (List.mem_range.1 hk)
    simp only [Bool.and_eq_true, decide_eq_true_eq]
    exact ⟨h1, h2, h3⟩
def rightM (cols : Int) (L : List (List Int)) : Bool := decide (0 ≤ cols) && (decide (cols ≤ 4000) && L.all (rowOk cols))
theorem rightM_iff {cols : Int} {L : List (List Int)} : rightM cols L = true ↔ 0 ≤ cols ∧ cols ≤ 4000 ∧ ∀ i, i < L.length → rowOk cols (L.getD i []) = true := by
  unfold rightM
  rw [Bool.and_eq_true, Bool.and_eq_true, decide_eq_true_eq, decide_eq_true_eq, List.all_eq_true]
  constructor
  · rintro ⟨h1, h2, h3⟩; exact ⟨h1, h2, fun i hi => h3 _ (getD_mem hi)⟩
  · rintro ⟨h1, h2, h3⟩
    refine ⟨h1, h2, fun x hx => ?_⟩
    obtain ⟨k, hk, rfl⟩ := mem_getD (d := []) hx
    exact h3 k hk
/-- The column ahead of the k-th, or below all. -/
def lastOf (l : List Int) : Nat → Int
  | 0 => -1
  | k + 1 => l.getD k 0
theorem lastOf_zero (l : List Int) : lastOf l 0 = -1 := rfl
theorem lastOf_succ (l : List Int) (k : Nat) : lastOf l (k + 1) = l.getD k 0 := rfl
theorem rm_no {cols : Int} {L : List (List Int)} {i k : Nat} (hi : i < L.length) (hk : k < (L.getD i []).length) (hb : ∀ q, q < k → 0 ≤ (L.getD i []).getD q 0) (h : (L.getD i []).getD k 0 ≤ lastOf (L.getD i []) k ∨ cols ≤ (L.getD i []).getD k 0) : Value.bool false = .bool (rightM cols L) := vb_f fun hr => by
  obtain ⟨h1, h2, h3⟩ := rowOk_iff.1 ((rightM_iff.1 hr).2.2 i hi) k hk
  rcases h with h | h
  · cases k with
    | zero => rw [lastOf_zero] at h; omega
    | succ k =>
      have := h3 (by omega)
      rw [lastOf_succ] at h
      simp only [Nat.add_sub_cancel] at this
      omega
  · omega
theorem ro_step {cols : Int} {l : List Int} {k : Nat} (h : ∀ q, q < k → 0 ≤ l.getD q 0 ∧ l.getD q 0 < cols ∧ (0 < q → l.getD (q - 1) 0 < l.getD q 0)) (h1 : ¬ l.getD k 0 ≤ lastOf l k) (h2 : ¬ cols ≤ l.getD k 0) :
    ∀ q, q < k + 1 → 0 ≤ l.getD q 0 ∧ l.getD q 0 < cols ∧ (0 < q → l.getD (q - 1) 0 < l.getD q 0) := upTo_succ h (by
  cases k with
  | zero => rw [lastOf_zero] at h1; exact ⟨by omega, by omega, fun h => by omega⟩
  | succ k =>
    have := h k (by omega)
    rw [lastOf_succ] at h1
    exact ⟨by omega, by omega, fun _ => by simp only [Nat.add_sub_cancel]; omega⟩)
theorem rm_1 {cols : Int} {L : List (List Int)} (h0 : 0 ≤ cols) (h : ∀ i, i < L.length → rowOk cols (L.getD i []) = true) : Value.bool (decide (cols ≤ 4000)) = .bool (rightM cols L) := congrArg Value.bool (by
  rw [Bool.eq_iff_iff, rightM_iff, decide_eq_true_eq]
  exact ⟨fun hc => ⟨h0, hc, h⟩, fun hc => hc.2.1⟩)
theorem rm_0 {cols : Int} {L : List (List Int)} (h0 : ¬ 0 ≤ cols) : Value.bool false = .bool (rightM cols L) := vb_f fun h => h0 (rightM_iff.1 h).1
def solvesB (L : List (List Int)) (cols : List Int) : Bool := L.all fun l => l.any fun c => decide (c ∈ cols)
theorem solvesB_iff {L : List (List Int)} {cols : List Int} : solvesB L cols = true ↔ ∀ i, i < L.length → ∃ c, c ∈ L.getD i [] ∧ c ∈ cols := by
  unfold solvesB
  rw [List.all_eq_true]
  constructor
  · intro h i hi
    have := h _ (getD_mem (d := []) hi)
    rw [List.any_eq_true] at this
    obtain ⟨c, h1, h2⟩ := this
    exact ⟨c, h1, of_decide_eq_true h2⟩
  · intro h l hl
    obtain ⟨k, hk, rfl⟩ := mem_getD (d := []) hl
    obtain ⟨c, h1, h2⟩ := h k hk
    rw [List.any_eq_true]
    exact ⟨c, h1, decide_eq_true h2⟩

theorem so_f {L : List (List Int)} {cols : List Int} {i : Nat} (hi : i < L.length) (h : ∀ c, c ∈ L.getD i [] → c ∉ cols) : solvesB L cols = false := Bool.eq_false_iff.2 fun hs => by
  obtain ⟨c, h1, h2⟩ := solvesB_iff.1 hs i hi
  exact h c h1 h2

/-- The first k columns, each once. -/
def keysTo (l : List Int) : Nat → List Int
  | 0 => []
  | k + 1 => insK (keysTo l k) (l.getD k 0)
theorem mem_keysTo {l : List Int} {c : Int} : ∀ k, k ≤ l.length → (c ∈ keysTo l k ↔ c ∈ l.take k)
  | 0, _ => by simp [keysTo]
  | k + 1, hk => by
    rw [keysTo, mem_insK, mem_keysTo k (by omega), List.take_add_one, List.mem_append, List.getD_eq_getElem?_getD, List.getElem?_eq_getElem (show k < l.length by omega)]
    simp [eq_comm]
theorem mem_keys {l : List Int} {c : Int} : c ∈ keysTo l l.length ↔ c ∈ l := by rw [mem_keysTo _ (Nat.le_refl _), List.take_length]
/-- Is one of the first k columns of a row chosen? -/
def anyTo (l cols : List Int) (k : Nat) : Bool := (l.take k).any fun c => decide (c ∈ cols)
theorem any_put {l cols : List Int} {k : Nat} (hk : k < l.length) : anyTo l cols (k + 1) = (anyTo l cols k || decide (l.getD k 0 ∈ cols)) := by
  unfold anyTo
  rw [List.take_add_one, List.any_append, List.getD_eq_getElem?_getD, List.getElem?_eq_getElem hk]
  simp
theorem any_zero (l cols : List Int) : false = anyTo l cols 0 := rfl
theorem any_t {l cols : List Int} {k : Nat} (hk : k < l.length) (h : anyTo l cols k = true) : true = anyTo l cols (k + 1) := by rw [any_put hk, h]; rfl
theorem any_f {l cols : List Int} {k : Nat} (hk : k < l.length) (h : anyTo l cols k = false) : (getL (allT (keysTo cols cols.length)) (l.getD k 0)).getD false = anyTo l cols (k + 1) := by
  rw [any_put hk, h, Bool.false_or, allT_get, Bool.eq_iff_iff, decide_eq_true_eq, decide_eq_true_eq, mem_keys]
theorem any_end {l cols : List Int} {b : Bool} {k : Nat} (hk : k = l.length) (h : anyTo l cols k = b) : (l.any fun c => decide (c ∈ cols)) = b := by
  rw [← h, hk]
  unfold anyTo
  rw [List.take_length]
theorem solvesB_all {L : List (List Int)} {cols : List Int} (h : ∀ i, i < L.length → ((L.getD i []).any fun c => decide (c ∈ cols)) = true) : solvesB L cols = true := by
  unfold solvesB
  rw [List.all_eq_true]
  intro l hl
  obtain ⟨k, hk, rfl⟩ := mem_getD (d := []) hl
  exact h k hk
theorem solvesB_no {L : List (List Int)} {cols : List Int} {i : Nat} (hi : i < L.length) (h : ((L.getD i []).any fun c => decide (c ∈ cols)) = false) : solvesB L cols = false := Bool.eq_false_iff.2 fun hs => by
  unfold solvesB at hs
  rw [List.all_eq_true.1 hs _ (getD_mem hi)] at h
  cases h

end Go.Proofs.Ytdbcijijhhbkaaa
