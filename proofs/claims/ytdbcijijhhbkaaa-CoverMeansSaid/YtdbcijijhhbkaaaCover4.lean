/-
  Steps of the walks of the document's coverings, and of the laws. No program in it.
-/
import Derived.Test.YtdbcijijhhbkaaaCover3
namespace Go.Proofs.Ytdbcijijhhbkaaa
set_option linter.unusedVariables false
set_option linter.unusedSimpArgs false
open Go Go.RowKit

theorem rm_f {cols : Int} {L : List (List Int)} {i k : Nat} (hi : i < L.length) (hk : k < (L.getD i []).length) (h : ¬ (0 ≤ (L.getD i []).getD k 0 ∧ (L.getD i []).getD k 0 < cols ∧ (0 < k → (L.getD i []).getD (k - 1) 0 < (L.getD i []).getD k 0))) : Value.bool false = .bool (rightM cols L) := vb_f fun hr => h (rowOk_iff.1 ((rightM_iff.1 hr).2.2 i hi) k hk)
theorem rm_c {cols : Int} {L : List (List Int)} (h : ¬ (0 ≤ cols ∧ cols ≤ 4000)) : Value.bool false = .bool (rightM cols L) := vb_f fun hr => h ⟨(rightM_iff.1 hr).1, (rightM_iff.1 hr).2.1⟩
theorem eq_all {α : Type} (d : α) (a b : List α) (hl : a.length = b.length) (h : ∀ q, q < a.length → a.getD q d = b.getD q d) : a = b := by
  refine List.ext_getElem? fun i => ?_
  by_cases hi : i < a.length
  · have := h i hi
    rw [List.getD_eq_getElem?_getD, List.getD_eq_getElem?_getD, List.getElem?_eq_getElem hi, List.getElem?_eq_getElem (show i < b.length by omega)] at this
    rw [List.getElem?_eq_getElem hi, List.getElem?_eq_getElem (show i < b.length by omega)]
    exact congrArg some this
  · rw [List.getElem?_eq_none (by omega), List.getElem?_eq_none (by omega)]
theorem sm_0 {α : Type} [DecidableEq α] {a b : List α} (h : ¬ (a.length : Int) = (b.length : Int)) : Value.bool false = .bool (decide (a = b)) := vb_f fun k => h (by rw [of_decide_eq_true k])
theorem sm_1 {α : Type} [DecidableEq α] {a b : List α} {k : Nat} {d : α} (h : ¬ a.getD k d = b.getD k d) : Value.bool false = .bool (decide (a = b)) := vb_f fun q => h (by rw [of_decide_eq_true q])
theorem sm_2 {α : Type} [DecidableEq α] {a b : List α} {k : Nat} {d : α} (hl : a.length = b.length) (hk : k = a.length) (h : ∀ q, q < k → a.getD q d = b.getD q d) : Value.bool true = .bool (decide (a = b)) := vb_t (decide_eq_true (eq_all d a b hl (hk ▸ h)))

/-! ### What solves, column by column -/
def anyEq (x : Int) (cols : List Int) (c : Nat) : Bool := (cols.take c).any fun y => decide (x = y)
theorem anyEq_put {x : Int} {cols : List Int} {c : Nat} (h : c < cols.length) : anyEq x cols (c + 1) = (anyEq x cols c || decide (x = cols.getD c 0)) := by
  unfold anyEq
  rw [List.take_add_one, List.any_append, List.getD_eq_getElem?_getD, List.getElem?_eq_getElem h]
  simp
theorem sv_zero (A : Bool) (x : Int) (cols : List Int) : A = (A || anyEq x cols 0) := by simp [anyEq]
theorem sv_t {A : Bool} {x : Int} {cols : List Int} {c : Nat} (h : c < cols.length) (k : (A || anyEq x cols c) = true) : true = (A || anyEq x cols (c + 1)) := by
  rw [anyEq_put h, ← Bool.or_assoc, k]; rfl
theorem sv_f {A : Bool} {x : Int} {cols : List Int} {c : Nat} (h : c < cols.length) (k : (A || anyEq x cols c) = false) : decide (x = cols.getD c 0) = (A || anyEq x cols (c + 1)) := by
  rw [anyEq_put h, ← Bool.or_assoc, k]; rfl
theorem sv_end {l cols : List Int} {k c : Nat} (hk : k < l.length) (hc : c = cols.length) : (anyTo l cols k || anyEq (l.getD k 0) cols c) = anyTo l cols (k + 1) := by
  rw [any_put hk, hc]
  unfold anyEq
  rw [List.take_length]
  congr 1
  rw [Bool.eq_iff_iff, List.any_eq_true, decide_eq_true_eq]
  exact ⟨fun ⟨y, h1, h2⟩ => by rw [of_decide_eq_true h2]; exact h1, fun h => ⟨_, h, decide_eq_true rfl⟩⟩

/-! ### The document's rows -/
theorem cv_tt {l : List Rw} {c o p : Nat} (h1 : (l.getD c ⟨⟨0, 0⟩, 0⟩).o.testBit o = true) (h2 : hasC (l.getD c ⟨⟨0, 0⟩, 0⟩).c.m (l.getD c ⟨⟨0, 0⟩, 0⟩).c.v p = true) : cvR l c o p = true := by
  unfold cvR; rw [h1, h2]; rfl
theorem cv_tf {l : List Rw} {c o p : Nat} (h1 : (l.getD c ⟨⟨0, 0⟩, 0⟩).o.testBit o = true) (h2 : hasC (l.getD c ⟨⟨0, 0⟩, 0⟩).c.m (l.getD c ⟨⟨0, 0⟩, 0⟩).c.v p = false) : cvR l c o p = false := by
  unfold cvR; rw [h1, h2]; rfl
theorem cv_ff {l : List Rw} {c o p : Nat} (h1 : (l.getD c ⟨⟨0, 0⟩, 0⟩).o.testBit o = false) : cvR l c o p = false := by
  unfold cvR; rw [h1]; rfl
def mtB (ks : List (List Int)) (r : List Int) (j : Nat) : Bool := (ks.take j).any fun x => decide (x = r)
theorem mt_zero (ks : List (List Int)) (r : List Int) : false = mtB ks r 0 := rfl
theorem mt_put {ks : List (List Int)} {r : List Int} {j : Nat} (h : j < ks.length) : mtB ks r (j + 1) = (mtB ks r j || decide (ks.getD j [] = r)) := by
  unfold mtB
  rw [List.take_add_one, List.any_append, List.getD_eq_getElem?_getD, List.getElem?_eq_getElem h]
  simp
theorem mt_t {ks : List (List Int)} {r : List Int} {j : Nat} (h : j < ks.length) (k : mtB ks r j = true) : true = mtB ks r (j + 1) := by rw [mt_put h, k]; rfl
theorem mt_f {ks : List (List Int)} {r : List Int} {j : Nat} (h : j < ks.length) (k : mtB ks r j = false) : decide (ks.getD j [] = r) = mtB ks r (j + 1) := by rw [mt_put h, k]; rfl
theorem mt_end {ks : List (List Int)} {r : List Int} {j : Nat} (h : j = ks.length) : mtB ks r j = true ↔ r ∈ ks := by
  unfold mtB
  rw [h, List.take_length, List.any_eq_true]
  exact ⟨fun ⟨x, h1, h2⟩ => of_decide_eq_true h2 ▸ h1, fun h => ⟨r, h, decide_eq_true rfl⟩⟩
theorem mt_new {ks : List (List Int)} {r : List Int} {j : Nat} (h : j = ks.length) (k : mtB ks r j = false) : insK ks r = ks ++ [r] := if_neg fun q => by
  rw [(mt_end h).2 q] at k; cases k
theorem mt_old {ks : List (List Int)} {r : List Int} {j : Nat} (h : j = ks.length) (k : mtB ks r j = true) : insK ks r = ks := if_pos ((mt_end h).1 k)
theorem LL.last {w : World} {vos : List Value} {A : List (List Int)} {m : Nat} (h : LL w vos (A.take m)) (hm : m ≤ A.length) (h0 : 0 < m) : SlT encI 1 w (vos.getD ((vos.length : Int) - 1).toNat undef) (A.getD (m - 1) []) := by
  have hl := h.len
  rw [List.length_take, Nat.min_eq_left hm] at hl
  have g := h.get (m - 1) (by rw [List.length_take]; omega)
  have e : (A.take m).getD (m - 1) [] = A.getD (m - 1) [] := by
    rw [List.getD_eq_getElem?_getD, List.getElem?_take, if_pos (by omega), List.getD_eq_getElem?_getD]
  rw [e] at g
  rw [show ((vos.length : Int) - 1).toNat = m - 1 by omega]
  exact g
theorem best_lt {A all : List (List Int)} {m k : Nat} {b : Int} (h : BestAt A all m k b) : b < (k : Int) := by
  rcases h with ⟨h, _⟩ | ⟨c, h1, h2, _⟩ <;> omega
theorem beh_0 {A : List (List Int)} {m : Nat} {x : List Int} (h : m = 0) : behB A m x = true := by
  unfold behB; rw [decide_eq_true h]; rfl
theorem beh_1 {A : List (List Int)} {m : Nat} {x : List Int} (h : aheadB (A.getD (m - 1) []) x = true) : behB A m x = true := by
  unfold behB; rw [h, Bool.or_true]
theorem beh_f {A : List (List Int)} {m : Nat} {x : List Int} (h0 : ¬ m = 0) (h : aheadB (A.getD (m - 1) []) x = false) : behB A m x = false := by
  unfold behB; rw [h, decide_eq_false h0]; rfl
theorem met_len {S : Sp} {l : List Rw} (o q : Nat) : ((mOuts S l o).getD q []).length ≤ l.length := by
  by_cases hq : q < (mOuts S l o).length
  · exact row_len (mOuts_of (getD_mem hq))
  · rw [List.getD_eq_getElem?_getD, List.getElem?_eq_none (by omega)]; simp
theorem mpt_len {S : Sp} {l : List Rw} {pts : List Int} (o k q : Nat) : ((mPts l o pts (mOuts S l o) k).getD q []).length ≤ l.length := by
  by_cases hq : q < (mPts l o pts (mOuts S l o) k).length
  · exact row_len (mPts_of (getD_mem hq))
  · rw [List.getD_eq_getElem?_getD, List.getElem?_eq_none (by omega)]; simp
theorem rows_len {S : Sp} {l : List Rw} (j : Nat) : ((rowsA S l).getD j []).length ≤ l.length := sort_len (fun _ h => mOuts_of h) j
theorem rowsA_len (S : Sp) (l : List Rw) : (rowsA S l).length = (mOuts S l S.on.length).length := sortM_len _
theorem rows_lim {S : Sp} {l : List Rw} (hr : rightS S = true) : (mOuts S l S.on.length).length ≤ 1024 := by
  have h := mOuts_len S l S.on.length
  have := (rightS_iff.1 hr).2.2.2.1
  omega

theorem los_app {v v1 : Value} {w : World} {M : Nat} (h : ∀ j, v.ownBlock = some j → M ≤ j) (hM : M ≤ w.heap.size) (hob : v1.ownBlock = v.ownBlock ∨ v1.ownBlock = some w.heap.size) : ∀ j, v1.ownBlock = some j → M ≤ j := fun j e => by
  rcases hob with q | q
  · exact h j (q ▸ e)
  · rw [q] at e
    cases e
    exact hM
/-! ### What a covering's making comes to -/
theorem make_res {T T2 : TypeId} {N : Nat} {w' : World} {v : Value} {S : Sp} {l : List Rw}
    (h : if mayM S l = 0 then ∃ rv vs, v = .tuple #[.agg #[.int .i64 (l.length : Int), rv], .int .i64 0] ∧ OwT encV 1 T w' N rv vs ∧ LO T2 N w' vs (rowsA S l) else v = .tuple #[.agg #[.int .i64 0, .slice none 0 0], .int .i64 (mayM S l)]) :
    ∃ (n : Int) (rv : Value) (vs : List Value) (L : List (List Int)) (er : Int), v = .tuple #[.agg #[.int .i64 n, rv], .int .i64 er] ∧ OwT encV 1 T w' N rv vs ∧ LO T2 N w' vs L ∧ ((mayM S l = 0 ∧ n = (l.length : Int) ∧ L = rowsA S l ∧ er = 0) ∨ (mayM S l ≠ 0 ∧ n = 0 ∧ L = [] ∧ er = mayM S l)) := by
  by_cases hm : mayM S l = 0
  · rw [if_pos hm] at h
    obtain ⟨rv, vs, h1, h2, h3⟩ := h
    exact ⟨_, _, _, _, _, h1, h2, h3, .inl ⟨hm, rfl, rfl, rfl⟩⟩
  · rw [if_neg hm] at h
    exact ⟨_, _, _, _, _, h, OwT.nil, LO.nil, .inr ⟨hm, rfl, rfl, rfl⟩⟩
theorem LL.two {w : World} {v0 v1 : Value} {l0 l1 : List Int} (h0 : SlT encI 1 w v0 l0) (h1 : SlT encI 1 w v1 l1) : LL w [v0, v1] [l0, l1] := ((LL.nil w).snoc h0).snoc h1

def greatTo (L : List (List Int)) (k : Nat) : Bool := (L.take k).any fun r => decide (100 < r.length)
def greatM (L : List (List Int)) : Bool := greatTo L L.length || decide (100 < L.length)
theorem gt_put {L : List (List Int)} {k : Nat} (h : k < L.length) : greatTo L (k + 1) = (greatTo L k || decide (100 < (L.getD k []).length)) := by
  unfold greatTo
  rw [List.take_add_one, List.any_append, List.getD_eq_getElem?_getD, List.getElem?_eq_getElem h]
  simp
theorem gt_no {L : List (List Int)} {k : Nat} (h : k < L.length) (h1 : greatTo L k = false) (h2 : ¬ ((100 : Int) < ((L.getD k []).length : Int))) : greatTo L (k + 1) = false := by
  rw [gt_put h, h1, decide_eq_false (by omega)]; rfl
theorem gt_mono {L : List (List Int)} {k : Nat} (h : greatTo L k = true) : greatTo L L.length = true := by
  unfold greatTo at *
  rw [List.take_length]
  obtain ⟨r, h1, h2⟩ := List.any_eq_true.1 h
  exact List.any_eq_true.2 ⟨r, List.mem_of_mem_take h1, h2⟩
theorem gm_t {L : List (List Int)} {k : Nat} (h : k < L.length) (h2 : (100 : Int) < ((L.getD k []).length : Int)) : Value.bool true = .bool (greatM L) := vb_t (by
  unfold greatM
  rw [gt_mono (k := k + 1) (by rw [gt_put h, decide_eq_true (by omega), Bool.or_true])]; rfl)
theorem gm_e {L : List (List Int)} {k n : Nat} (h : k = L.length) (hn : n = L.length) (h1 : greatTo L k = false) : Value.bool (decide ((100 : Int) < (n : Int))) = .bool (greatM L) := congrArg Value.bool (by
  subst h hn
  unfold greatM
  rw [h1, Bool.false_or]
  by_cases g : 100 < L.length
  · rw [decide_eq_true g, decide_eq_true (by omega)]
  · rw [decide_eq_false g, decide_eq_false (by omega)])
theorem gm_no {L : List (List Int)} (h : greatM L = false) : L.length ≤ 1000000 ∧ ∀ i, (L.getD i []).length ≤ 1000000 := by
  unfold greatM at h
  rw [Bool.or_eq_false_iff] at h
  have h2 := of_decide_eq_false h.2
  refine ⟨by omega, fun i => ?_⟩
  by_cases hi : i < L.length
  · have h1 := h.1
    unfold greatTo at h1
    rw [List.take_length, List.any_eq_false] at h1
    have := h1 _ (getD_mem (d := []) hi)
    simp only [decide_eq_true_eq] at this
    omega
  · rw [List.getD_eq_getElem?_getD, List.getElem?_eq_none (by omega)]; simp
def great13 (S : Sp) (l : List Rw) : Bool := decide (20 < S.on.length) || (decide (20 < S.may.length) || decide (60 < l.length))
theorem g13_1 {S : Sp} {l : List Rw} (h : (20 : Int) < (S.on.length : Int)) : true = great13 S l := by unfold great13; rw [decide_eq_true (by omega)]; rfl
theorem g13_2 {S : Sp} {l : List Rw} (h : (20 : Int) < (S.may.length : Int)) : true = great13 S l := by unfold great13; rw [decide_eq_true (show 20 < S.may.length by omega)]; simp
theorem g13_3 {S : Sp} {l : List Rw} (h : ¬ (20 : Int) < (S.on.length : Int)) (h2 : ¬ (20 : Int) < (S.may.length : Int)) : decide ((60 : Int) < (l.length : Int)) = great13 S l := by
  unfold great13
  rw [decide_eq_false (show ¬ 20 < S.on.length by omega), decide_eq_false (show ¬ 20 < S.may.length by omega), Bool.false_or, Bool.false_or]
  by_cases g : 60 < l.length
  · rw [decide_eq_true g, decide_eq_true (by omega)]
  · rw [decide_eq_false g, decide_eq_false (by omega)]
theorem g13_no {S : Sp} {l : List Rw} (h : great13 S l = false) : S.on.length ≤ 20 ∧ S.may.length ≤ 20 ∧ l.length ≤ 60 := by
  unfold great13 at h
  simp only [Bool.or_eq_false_iff, decide_eq_false_iff_not] at h
  omega
theorem km_lim (i : Nat) : (([[1], [0, 1]] : List (List Int)).getD i []).length ≤ 1000000 := by
  match i with
  | 0 => decide
  | 1 => decide
  | i + 2 => exact Nat.zero_le _
theorem may_right {S : Sp} {l : List Rw} (h : mayM S l = 0) : rightS S = true := by
  by_cases hr : rightS S = true
  · exact hr
  · rw [may_1 hr] at h; cases h
def KM : Sp := ⟨1, [3], [3]⟩
def KR : List Rw := [⟨⟨1, 1⟩, 1⟩, ⟨⟨0, 0⟩, 1⟩]
theorem km_may : mayM KM KR = 0 := by decide +kernel
theorem km_rows : rowsA KM KR = [[1], [0, 1]] := by decide +kernel
theorem kr_b : RowB KR := by
  intro x hx
  simp only [KR, List.mem_cons, List.not_mem_nil, or_false] at hx
  rcases hx with rfl | rfl <;> decide
theorem full_t {L : List (List Int)} {i : Nat} (h : fullTo L i = true) : decide ((0 : Int) < ((L.getD i []).length : Int)) = fullTo L (i + 1) := by
  rw [full_put, h, Bool.true_and]
  by_cases g : 0 < (L.getD i []).length
  · rw [decide_eq_true g, decide_eq_true (by omega)]
  · rw [decide_eq_false g, decide_eq_false (by omega)]
theorem full_f {L : List (List Int)} {i : Nat} (h : fullTo L i = false) : false = fullTo L (i + 1) := by rw [full_put, h]; rfl
theorem full_0 (L : List (List Int)) : true = fullTo L 0 := rfl

end Go.Proofs.Ytdbcijijhhbkaaa
