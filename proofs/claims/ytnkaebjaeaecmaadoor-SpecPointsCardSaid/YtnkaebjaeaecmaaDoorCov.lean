/-
  Plain words for what rows cover: the points of an output, point by point. Steps of the walks. No program in it.
-/
import Derived.Test.YtnkaebjaeaecmaaDoorMulti2
namespace Go.Proofs.YtnkaebjaeaecmaaDoor
set_option linter.unusedVariables false
set_option linter.unusedSimpArgs false
open Go Go.RowKit

def RowB (l : List Rw) : Prop := ∀ x, x ∈ l → x.c.m < 256 ∧ x.c.v < 256 ∧ x.o < 256
theorem RowB.get {l : List Rw} (h : RowB l) {k : Nat} (hk : k < l.length) : (l.getD k ⟨⟨0, 0⟩, 0⟩).c.m < 256 ∧ (l.getD k ⟨⟨0, 0⟩, 0⟩).c.v < 256 ∧ (l.getD k ⟨⟨0, 0⟩, 0⟩).o < 256 := h _ (getD_mem hk)
theorem may_f {S : Sp} {l : List Rw} {k : Nat} (hk : k < l.length) (h : ¬ okR S (l.getD k ⟨⟨0, 0⟩, 0⟩) = true) : Value.bool false = .bool (mayL S l) := vb_f fun hm => h (mayL_iff.1 hm k hk)
theorem okR_1 {S : Sp} {x : Rw} (h : (!rightB x.c.m x.c.v S.n) = true) : ¬ okR S x = true := fun hk => by
  rw [(okR_iff.1 hk).1] at h; cases h
theorem okR_2 {S : Sp} {x : Rw} (h : (x.o : Int) = 0) : ¬ okR S x = true := fun hk => by
  have := (okR_iff.1 hk).2.1; omega
theorem okR_3 {S : Sp} {x : Rw} (h : ((1 * 2 ^ S.on.length : Nat) : Int) ≤ (x.o : Int)) : ¬ okR S x = true := fun hk => by
  have := (okR_iff.1 hk).2.2
  rw [Nat.one_mul] at h; omega
theorem okR_t {S : Sp} {x : Rw} (h : (!rightB x.c.m x.c.v S.n) = false) (h2 : ¬ (x.o : Int) = 0) (h3 : ¬ ((1 * 2 ^ S.on.length : Nat) : Int) ≤ (x.o : Int)) : okR S x = true := by
  rw [Nat.one_mul] at h3
  exact okR_iff.2 ⟨not_f h, by omega, by omega⟩
def ptOk (l : List Rw) (n out : Int) : Bool := decide (0 ≤ n ∧ n ≤ 8 ∧ 0 ≤ out ∧ out < 4) && l.all fun x => rightB x.c.m x.c.v n
theorem ptOk_iff {l : List Rw} {n out : Int} : ptOk l n out = true ↔ (0 ≤ n ∧ n ≤ 8 ∧ 0 ≤ out ∧ out < 4) ∧ ∀ k, k < l.length → rightB (l.getD k ⟨⟨0, 0⟩, 0⟩).c.m (l.getD k ⟨⟨0, 0⟩, 0⟩).c.v n = true := by
  unfold ptOk
  rw [Bool.and_eq_true, decide_eq_true_eq, List.all_eq_true]
  constructor
  · rintro ⟨h1, h2⟩; exact ⟨h1, fun k hk => h2 _ (getD_mem hk)⟩
  · rintro ⟨h1, h2⟩
    refine ⟨h1, fun x hx => ?_⟩
    obtain ⟨k, hk, rfl⟩ := mem_getD (d := ⟨⟨0, 0⟩, 0⟩) hx
    exact h2 k hk
theorem ptOk_no {l : List Rw} {n out : Int} (h : ¬ (0 ≤ n ∧ n ≤ 8 ∧ 0 ≤ out ∧ out < 4)) : ¬ ptOk l n out = true := fun k => h (ptOk_iff.1 k).1
theorem ptOk_k {l : List Rw} {n out : Int} {k : Nat} (hk : k < l.length) (h : rightB (l.getD k ⟨⟨0, 0⟩, 0⟩).c.m (l.getD k ⟨⟨0, 0⟩, 0⟩).c.v n = false) : ¬ ptOk l n out = true := fun q => by
  rw [(ptOk_iff.1 q).2 k hk] at h; cases h
theorem pts_res {l : List Rw} {n out : Int} {v : Value} (h : v = if ptOk l n out = true then .tuple #[setV (ptsR l n.toNat out.toNat l.length), .int .i64 0] else .tuple #[setV 0, .int .i64 1]) :
    ∃ (sa : Nat) (er : Int), v = .tuple #[setV sa, .int .i64 er] ∧ ((ptOk l n out = true ∧ sa = ptsR l n.toNat out.toNat l.length ∧ er = 0) ∨ (ptOk l n out = false ∧ sa = 0 ∧ er = 1)) := by
  by_cases ho : ptOk l n out = true
  · rw [if_pos ho] at h
    exact ⟨_, _, h, .inl ⟨ho, rfl, rfl⟩⟩
  · rw [if_neg ho] at h
    exact ⟨_, _, h, .inr ⟨by simpa using ho, rfl, rfl⟩⟩
theorem may_pts {S : Sp} {l : List Rw} {o : Nat} (hr : rightS S = true) (hm : mayL S l = true) (ho : o < S.on.length) : ptOk l S.n (o : Int) = true := by
  obtain ⟨h0, h8, h1, h4, h5, _⟩ := rightS_iff.1 hr
  exact ptOk_iff.2 ⟨by omega, fun k hk => (okR_iff.1 (mayL_iff.1 hm k hk)).1⟩

theorem cov_f1 {S : Sp} {l : List Rw} (h : rightS S = false) : Value.bool false = .bool (covB S l) := vb_f fun k => by
  rw [(covB_iff.1 k).1] at h; cases h
theorem cov_f2 {S : Sp} {l : List Rw} (h : mayL S l = false) : Value.bool false = .bool (covB S l) := vb_f fun k => by
  rw [(covB_iff.1 k).2.1] at h; cases h
theorem cov_f3 {S : Sp} {l : List Rw} {o : Nat} (ho : o < S.on.length) (h : withinB (onP S o) (ptsR l S.n.toNat o l.length) = false) : Value.bool false = .bool (covB S l) := vb_f fun k => by
  have := (covB_iff.1 k).2.2 o ho
  unfold covO at this
  rw [h] at this; cases this
theorem cov_f4 {S : Sp} {l : List Rw} {o : Nat} (ho : o < S.on.length) (h : withinB (ptsR l S.n.toNat o l.length) (mayP S o) = false) : Value.bool false = .bool (covB S l) := vb_f fun k => by
  have := (covB_iff.1 k).2.2 o ho
  unfold covO at this
  rw [h, Bool.and_false] at this; cases this
theorem covO_t {S : Sp} {l : List Rw} {o : Nat} (h1 : withinB (onP S o) (ptsR l S.n.toNat o l.length) = true) (h2 : withinB (ptsR l S.n.toNat o l.length) (mayP S o) = true) : covO S l o = true := by
  unfold covO; rw [h1, h2]; rfl

/-! ### Point by point -/
def cvB (l : List Rw) (p o : Nat) : Bool := l.any fun x => x.o.testBit o && hasC x.c.m x.c.v p
theorem cvB_iff {l : List Rw} {p o : Nat} : cvB l p o = true ↔ ∃ k, k < l.length ∧ ((l.getD k ⟨⟨0, 0⟩, 0⟩).o.testBit o && hasC (l.getD k ⟨⟨0, 0⟩, 0⟩).c.m (l.getD k ⟨⟨0, 0⟩, 0⟩).c.v p) = true := by
  unfold cvB
  rw [List.any_eq_true]
  constructor
  · rintro ⟨x, hx, h⟩
    obtain ⟨k, hk, rfl⟩ := mem_getD (d := ⟨⟨0, 0⟩, 0⟩) hx
    exact ⟨k, hk, h⟩
  · rintro ⟨k, hk, h⟩; exact ⟨_, getD_mem hk, h⟩
theorem cv_t {l : List Rw} {p o k : Nat} (hk : k < l.length) (h1 : (l.getD k ⟨⟨0, 0⟩, 0⟩).o.testBit o = true) (h2 : hasC (l.getD k ⟨⟨0, 0⟩, 0⟩).c.m (l.getD k ⟨⟨0, 0⟩, 0⟩).c.v p = true) : Value.bool true = .bool (cvB l p o) := vb_t (cvB_iff.2 ⟨k, hk, by rw [h1, h2]; rfl⟩)
theorem cv_f {l : List Rw} {p o k : Nat} (hk : k = l.length) (h : ∀ q, q < k → ((l.getD q ⟨⟨0, 0⟩, 0⟩).o.testBit o && hasC (l.getD q ⟨⟨0, 0⟩, 0⟩).c.m (l.getD q ⟨⟨0, 0⟩, 0⟩).c.v p) = false) : Value.bool false = .bool (cvB l p o) := vb_f fun hc => by
  obtain ⟨q, hq, h2⟩ := cvB_iff.1 hc
  rw [h q (by omega)] at h2; cases h2
theorem and_f1 {a b : Bool} (h : a = false) : (a && b) = false := by rw [h]; rfl
theorem and_f2 {a b : Bool} (h : b = false) : (a && b) = false := by rw [h, Bool.and_false]
theorem bit_yesI {o : Nat} {i : Int} (h : ((o / 2 ^ i.toNat &&& 1 : Nat) : Int) = 1) : o.testBit i.toNat = true := shr_bit.1 h
theorem bit_notI {o : Nat} {i : Int} (h : ¬ ((o / 2 ^ i.toNat &&& 1 : Nat) : Int) = 1) : ¬ o.testBit i.toNat = true := fun k => h (shr_bit.2 k)

end Go.Proofs.YtnkaebjaeaecmaaDoor
