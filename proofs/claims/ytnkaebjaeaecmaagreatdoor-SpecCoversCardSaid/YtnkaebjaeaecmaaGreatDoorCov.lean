/-
  Plain words for what rows cover: the points of an output, point by point. Steps of the walks. No program in it.
-/
import Derived.Test.YtnkaebjaeaecmaaGreatDoorMulti2
namespace Go.Proofs.YtnkaebjaeaecmaaGreatDoor
set_option linter.unusedVariables false
set_option linter.unusedSimpArgs false
open Go Go.RowKit

def RowB (l : List Rw) : Prop := ∀ x, x ∈ l → x.c.m < 256 ∧ x.c.v < 256 ∧ x.o < 256
theorem RowB.get {l : List Rw} (h : RowB l) {k : Nat} (hk : k < l.length) : (l.getD k ⟨⟨0, 0⟩, 0⟩).c.m < 256 ∧ (l.getD k ⟨⟨0, 0⟩, 0⟩).c.v < 256 ∧ (l.getD k ⟨⟨0, 0⟩, 0⟩).o < 256 := h _ (getD_mem hk)
theorem may_f {S : Sp} {l : List Rw} {k : Nat} (hk : k < l.length) (h : ¬ okR S (l.getD k ⟨⟨0, 0⟩, 0⟩) = true) : Value.bool false = .bool (mayL S l) := vb_f fun hm => h (mayL_iff.1 hm k hk)
theorem okR_1 {S : Sp} {x : Rw} (h : (!rightB x.c.m x.c.v S.n) = true) : ¬ okR S x = true := fun hk => by
  rw [(okR_iff.1 hk).1] at h; cases h
theorem okR_2 {S : Sp} {x : Rw} (h : (x.o : Int) = 0) : ¬ okR S x = true := fun hk => by
  have := (okR_iff.1 hk).2.1; omega
theorem okR_3 {S : Sp} {x : Rw} (h : ((1 * 2 ^ S.on.length : Nat) : Int) ≤ (x.o : Int)) : ¬ okR S x = true := fun hk => by
  have := (okR_iff.1 hk).2.2
  rw [Nat.one_mul] at h; omega
theorem okR_t {S : Sp} {x : Rw} (h : (!rightB x.c.m x.c.v S.n) = false) (h2 : ¬ (x.o : Int) = 0) (h3 : ¬ ((1 * 2 ^ S.on.length : Nat) : Int) ≤ (x.o : Int)) : okR S x = true := by
  rw [Nat.one_mul] at h3
  exact okR_iff.2 ⟨not_f h, by omega, by omega⟩
theorem okR_ref {S : Sp} {x : Rw} : (okO x.o S.on.length && rightB x.c.m x.c.v S.n) = okR S x := by
  rw [Bool.eq_iff_iff, Bool.and_eq_true, okO_iff, okR_iff]
  exact ⟨fun h => ⟨h.2, h.1⟩, fun h => ⟨h.2, h.1⟩⟩

def ptOk (l : List Rw) (n out : Int) : Bool := decide (0 ≤ n ∧ n ≤ 8 ∧ 0 ≤ out ∧ out < 4) && l.all fun x => rightB x.c.m x.c.v n
theorem ptOk_iff {l : List Rw} {n out : Int} : ptOk l n out = true ↔ (0 ≤ n ∧ n ≤ 8 ∧ 0 ≤ out ∧ out < 4) ∧ ∀ k, k < l.length → rightB (l.getD k ⟨⟨0, 0⟩, 0⟩).c.m (l.getD k ⟨⟨0, 0⟩, 0⟩).c.v n = true := by
  unfold ptOk
  rw [Bool.and_eq_true, decide_eq_true_eq, List.all_eq_true]
  constructor
  · rintro ⟨h1, h2⟩; exact ⟨h1, fun k hk => h2 _ (getD_mem hk)⟩
  · rintro ⟨h1, h2⟩
    refine ⟨h1, fun x hx => ?_⟩
    obtain ⟨k, hk, rfl⟩ := mem_getD (d := ⟨⟨0, 0⟩, 0⟩) hx
    exact h2 k hk
theorem ptOk_no {l : List Rw} {n out : Int} (h : ¬ (0 ≤ n ∧ n ≤ 8 ∧ 0 ≤ out ∧ out < 4)) : ¬ ptOk l n out = true := fun k => h (ptOk_iff.1 k).1
theorem ptOk_k {l : List Rw} {n out : Int} {k : Nat} (hk : k < l.length) (h : rightB (l.getD k ⟨⟨0, 0⟩, 0⟩).c.m (l.getD k ⟨⟨0, 0⟩, 0⟩).c.v n = false) : ¬ ptOk l n out = true := fun q => by
  rw [(ptOk_iff.1 q).2 k hk] at h; cases h
theorem pts_res {l : List Rw} {n out : Int} {v : Value} (h : v = if ptOk l n out = true then .tuple #[setV (ptsR l n.toNat out.toNat l.length), .int .i64 0] else .tuple #[setV 0, .int .i64 1]) :
    ∃ (sa : Nat) (er : Int), v = .tuple #[setV sa, .int .i64 er] ∧ ((ptOk l n out = true ∧ sa = ptsR l n.toNat out.toNat l.length ∧ er = 0) ∨ (ptOk l n out = false ∧ sa = 0 ∧ er = 1)) := by
  by_cases ho : ptOk l n out = true
  · rw [if_pos ho] at h
    exact ⟨_, _, h, .inl ⟨ho, rfl, rfl⟩⟩
  · rw [if_neg ho] at h
    exact ⟨_, _, h, .inr ⟨by simpa using ho, rfl, rfl⟩⟩
theorem may_pts {S : Sp} {l : List Rw} {o : Nat} (hr : rightS S = true) (hm : mayL S l = true) (ho : o < S.on.length) : ptOk l S.n (o : Int) = true := by
  obtain ⟨h0, h8, h1, h4, h5, _⟩ := rightS_iff.1 hr
  exact ptOk_iff.2 ⟨by omega, fun k hk => (okR_iff.1 (mayL_iff.1 hm k hk)).1⟩

theorem cov_f1 {S : Sp} {l : List Rw} (h : rightS S = false) : Value.bool false = .bool (covB S l) := vb_f fun k => by
  rw [(covB_iff.1 k).1] at h; cases h
theorem cov_f2 {S : Sp} {l : List Rw} (h : mayL S l = false) : Value.bool false = .bool (covB S l) := vb_f fun k => by
  rw [(covB_iff.1 k).2.1] at h; cases h
theorem cov_f3 {S : Sp} {l : List Rw} {o : Nat} (ho : o < S.on.length) (h : withinB (onP S o) (ptsR l S.n.toNat o l.length) = false) : Value.bool false = .bool (covB S l) := vb_f fun k => by
  have := (covB_iff.1 k).2.2 o ho
  unfold covO at this
  rw [h] at this; cases this
theorem cov_f4 {S : Sp} {l : List Rw} {o : Nat} (ho : o < S.on.length) (h : withinB (ptsR l S.n.toNat o l.length) (mayP S o) = false) : Value.bool false = .bool (covB S l) := vb_f fun k => by
  have := (covB_iff.1 k).2.2 o ho
  unfold covO at this
  rw [h, Bool.and_false] at this; cases this
theorem covO_t {S : Sp} {l : List Rw} {o : Nat} (h1 : withinB (onP S o) (ptsR l S.n.toNat o l.length) = true) (h2 : withinB (ptsR l S.n.toNat o l.length) (mayP S o) = true) : covO S l o = true := by
  unfold covO; rw [h1, h2]; rfl

/-! ### Point by point -/
def cvB (l : List Rw) (p o : Nat) : Bool := l.any fun x => x.o.testBit o && hasC x.c.m x.c.v p
theorem cvB_iff {l : List Rw} {p o : Nat} : cvB l p o = true ↔ ∃ k, k < l.length ∧ ((l.getD k ⟨⟨0, 0⟩, 0⟩).o.testBit o && hasC (l.getD k ⟨⟨0, 0⟩, 0⟩).c.m (l.getD k ⟨⟨0, 0⟩, 0⟩).c.v p) = true := by
  unfold cvB
  rw [List.any_eq_true]
  constructor
  · rintro ⟨x, hx, h⟩
    obtain ⟨k, hk, rfl⟩ := mem_getD (d := ⟨⟨0, 0⟩, 0⟩) hx
    exact ⟨k, hk, h⟩
  · rintro ⟨k, hk, h⟩; exact ⟨_, getD_mem hk, h⟩
theorem cv_t {l : List Rw} {p o k : Nat} (hk : k < l.length) (h1 : (l.getD k ⟨⟨0, 0⟩, 0⟩).o.testBit o = true) (h2 : hasC (l.getD k ⟨⟨0, 0⟩, 0⟩).c.m (l.getD k ⟨⟨0, 0⟩, 0⟩).c.v p = true) : Value.bool true = .bool (cvB l p o) := vb_t (cvB_iff.2 ⟨k, hk, by rw [h1, h2]; rfl⟩)
theorem cv_f {l : List Rw} {p o k : Nat} (hk : k = l.length) (h : ∀ q, q < k → ((l.getD q ⟨⟨0, 0⟩, 0⟩).o.testBit o && hasC (l.getD q ⟨⟨0, 0⟩, 0⟩).c.m (l.getD q ⟨⟨0, 0⟩, 0⟩).c.v p) = false) : Value.bool false = .bool (cvB l p o) := vb_f fun hc => by
  obtain ⟨q, hq, h2⟩ := cvB_iff.1 hc
  rw [h q (by omega)] at h2; cases h2
theorem size_all : ∀ n, n ≤ 8 → (listS (bitsS (firstF (2 ^ n)))).length = 2 ^ n := by decide +kernel
theorem covO_iff {S : Sp} {l : List Rw} {o : Nat} (hr : rightS S = true) (hm : mayL S l = true) (ho : o < S.on.length) :
    covO S l o = true ↔ ∀ p, p < 2 ^ S.n.toNat → ((onP S o).testBit p = true → cvB l p o = true) ∧ (cvB l p o = true → (mayP S o).testBit p = true) := by
  obtain ⟨h0, h8, h1, h4, h5, hin⟩ := rightS_iff.1 hr
  have hp := two_pow_le h8
  obtain ⟨w1, w2⟩ := hin o ho
  have hcv : ∀ p, p < 2 ^ S.n.toNat → ((ptsR l S.n.toNat o l.length).testBit p = true ↔ cvB l p o = true) := fun p hpn => by
    rw [ptsR_testBit (by omega) p _ (Nat.le_refl _), cvB_iff]
    have key : ∀ k, k < l.length → (hasR (l.getD k ⟨⟨0, 0⟩, 0⟩) o p ↔ ((l.getD k ⟨⟨0, 0⟩, 0⟩).o.testBit o && hasC (l.getD k ⟨⟨0, 0⟩, 0⟩).c.m (l.getD k ⟨⟨0, 0⟩, 0⟩).c.v p) = true) := fun k hk => by
      have hv := (rightB_iff.1 (okR_iff.1 (mayL_iff.1 hm k hk)).1).2.2.2
      unfold hasR hold hasC
      rw [Bool.and_eq_true, decide_eq_true_eq, hv]
    constructor
    · rintro ⟨_, k, hk, h⟩; exact ⟨k, hk, (key k hk).1 h⟩
    · rintro ⟨k, hk, h⟩; exact ⟨hpn, k, hk, (key k hk).2 h⟩
  unfold covO
  rw [Bool.and_eq_true, withinB_iff, withinB_iff]
  constructor
  · rintro ⟨g1, g2⟩ p hpn
    exact ⟨fun h => (hcv p hpn).1 (g1 p (by omega) h), fun h => g2 p (by omega) ((hcv p hpn).2 h)⟩
  · intro g
    have hlt : ∀ p, p < 256 → (mayP S o).testBit p = true → p < 2 ^ S.n.toNat := fun p hp2 h => by
      have := withinB_iff.1 w2 p hp2 h
      rw [allS_testBit] at this
      simpa using this
    refine ⟨fun p hp2 h => ?_, fun p hp2 h => ?_⟩
    · have hpn := hlt p hp2 (withinB_iff.1 w1 p hp2 h)
      exact (hcv p hpn).2 ((g p hpn).1 h)
    · have hpn := ((ptsR_testBit (by omega) p _ (Nat.le_refl _)).1 h).1
      exact (g p hpn).2 ((hcv p hpn).1 h)
theorem cov_ref_no {S : Sp} {l : List Rw} {o p : Nat} (hr : rightS S = true) (hm : mayL S l = true) (ho : o < S.on.length) (hp : p < 2 ^ S.n.toNat)
    (h : ¬ (((onP S o).testBit p = true → cvB l p o = true) ∧ (cvB l p o = true → (mayP S o).testBit p = true))) : Value.bool false = .bool (covB S l) := vb_f fun k => h ((covO_iff hr hm ho).1 ((covB_iff.1 k).2.2 o ho) p hp)

theorem and_f1 {a b : Bool} (h : a = false) : (a && b) = false := by rw [h]; rfl
theorem and_f2 {a b : Bool} (h : b = false) : (a && b) = false := by rw [h, Bool.and_false]
theorem bit_yesI {o : Nat} {i : Int} (h : ((o / 2 ^ i.toNat &&& 1 : Nat) : Int) = 1) : o.testBit i.toNat = true := shr_bit.1 h
theorem bit_notI {o : Nat} {i : Int} (h : ¬ ((o / 2 ^ i.toNat &&& 1 : Nat) : Int) = 1) : ¬ o.testBit i.toNat = true := fun k => h (shr_bit.2 k)

theorem cov_rowf {S : Sp} {l : List Rw} {k : Nat} (hk : k < l.length) (h : ¬ okR S (l.getD k ⟨⟨0, 0⟩, 0⟩) = true) : Value.bool false = .bool (covB S l) := vb_f fun hc => h (mayL_iff.1 (covB_iff.1 hc).2.1 k hk)
theorem cr_y {s p : Nat} (hp : p < 256) (h : (flagsS s).getD (p : Int).toNat false = true) : s.testBit p = true := (flags_get hp).symm.trans h
theorem cr_n {s p : Nat} (hp : p < 256) (h : (flagsS s).getD (p : Int).toNat false = false) : ¬ s.testBit p = true := fun k => by
  rw [flags_get hp, k] at h; cases h

end Go.Proofs.YtnkaebjaeaecmaaGreatDoor
