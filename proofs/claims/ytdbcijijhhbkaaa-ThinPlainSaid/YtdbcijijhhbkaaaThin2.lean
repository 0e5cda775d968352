/-
  Plain words for plain rows: the grown cubes of each output, grown once more, each once. No program in it.
-/
import Derived.Test.YtdbcijijhhbkaaaThin
import Derived.Test.YtdbcijijhhbkaaaLaw12
namespace Go.Proofs.Ytdbcijijhhbkaaa
set_option linter.unusedVariables false
set_option linter.unusedSimpArgs false
open Go Go.RowKit

def gro (S : Sp) (o : Nat) : List Cb := grownL (mayP S o) S.n (covL (onP S o) (mayP S o) S.n)
def plX (S : Sp) (o i : Nat) : Rw := growR S ⟨(gro S o).getD i ⟨0, 0⟩, 2 ^ o⟩
def plC (S : Sp) (o : Nat) (acc : List Rw) : Nat → List Rw
  | 0 => acc
  | i + 1 => insK (plC S o acc i) (plX S o i)
def plT (S : Sp) : Nat → List Rw
  | 0 => []
  | o + 1 => plC S o (plT S o) (gro S o).length
def plainL (S : Sp) : List Rw := plT S S.on.length

theorem ok_right {S : Sp} (hr : rightS S = true) {o : Nat} (ho : o < S.on.length) : okB (onP S o) (mayP S o) S.n = true := by
  obtain ⟨h0, h8, h1, h4, h5, hin⟩ := rightS_iff.1 hr
  refine okB_iff.2 ⟨?_, (hin o ho).1⟩
  unfold ofB
  rw [(hin o ho).2, decide_eq_true h0, decide_eq_true h8]
  rfl
theorem gro_lt {S : Sp} (hr : rightS S = true) {o : Nat} (ho : o < S.on.length) : (gro S o).length ≤ 19683 := gro_len (ok_right hr ho)
theorem gro_get {S : Sp} (hr : rightS S = true) {o i : Nat} (ho : o < S.on.length) (hi : i < (gro S o).length) : ((gro S o).getD i ⟨0, 0⟩).m < 256 ∧ ((gro S o).getD i ⟨0, 0⟩).v < 256 := gro_b (ok_right hr ho) _ (getD_mem hi)
theorem gro_in {S : Sp} (hr : rightS S = true) {o i : Nat} (ho : o < S.on.length) (hi : i < (gro S o).length) : inR S ⟨(gro S o).getD i ⟨0, 0⟩, 2 ^ o⟩ = true := by
  obtain ⟨h0, h8, h1, h4, h5, hin⟩ := rightS_iff.1 hr
  refine inR_iff.2 ⟨hr, Nat.two_pow_pos o, fun j hj => ?_⟩
  have hj' : (2 ^ o).testBit j = true := hj
  rw [Nat.testBit_two_pow, decide_eq_true_eq] at hj'
  subst hj'
  exact ⟨by omega, (primeB_iff.1 (gro_prime (ok_right hr ho) (getD_mem hi))).1⟩
theorem plX_b {S : Sp} (hr : rightS S = true) {o i : Nat} (ho : o < S.on.length) (hi : i < (gro S o).length) : (plX S o i).c.m < 256 ∧ (plX S o i).c.v < 256 ∧ (plX S o i).o < 256 := by
  obtain ⟨h0, h8, h1, h4, h5, hin⟩ := rightS_iff.1 hr
  obtain ⟨g1, g2⟩ := growR_lt (S := S) (x := ⟨(gro S o).getD i ⟨0, 0⟩, 2 ^ o⟩) (gro_get hr ho hi) S.n.toNat
  refine ⟨g1, g2, ?_⟩
  have := (inR_lt (primeR_iff.1 (growR_prime (gro_in hr ho hi)).1).1).2
  show (growR S ⟨(gro S o).getD i ⟨0, 0⟩, 2 ^ o⟩).o < 256
  omega
theorem plC_len (S : Sp) (o : Nat) (acc : List Rw) : ∀ i, (plC S o acc i).length ≤ acc.length + i
  | 0 => Nat.le_refl _
  | i + 1 => Nat.le_trans (insK_len _ _) (by have := plC_len S o acc i; omega)
theorem plT_len {S : Sp} (hr : rightS S = true) : ∀ o, o ≤ S.on.length → (plT S o).length ≤ o * 19683
  | 0, _ => Nat.le_refl _
  | o + 1, ho => by
    have h1 := plT_len hr o (by omega)
    have h2 := plC_len S o (plT S o) (gro S o).length
    have h3 := gro_lt hr (show o < S.on.length by omega)
    rw [plT]
    omega
theorem mem_plC {S : Sp} {o : Nat} {acc : List Rw} {x : Rw} : ∀ i, x ∈ plC S o acc i ↔ x ∈ acc ∨ ∃ q, q < i ∧ x = plX S o q
  | 0 => by simp [plC]
  | i + 1 => by
    rw [plC, mem_insK, mem_plC i]
    constructor
    · rintro ((h | ⟨q, hq, h⟩) | h)
      · exact .inl h
      · exact .inr ⟨q, by omega, h⟩
      · exact .inr ⟨i, by omega, h⟩
    · rintro (h | ⟨q, hq, h⟩)
      · exact .inl (.inl h)
      · rcases Nat.lt_succ_iff_lt_or_eq.1 hq with hq | rfl
        · exact .inl (.inr ⟨q, hq, h⟩)
        · exact .inr h
theorem mem_plT {S : Sp} {x : Rw} : ∀ o, x ∈ plT S o ↔ ∃ q, q < o ∧ ∃ i, i < (gro S q).length ∧ x = plX S q i
  | 0 => by simp [plT]
  | o + 1 => by
    rw [plT, mem_plC, mem_plT o]
    constructor
    · rintro (⟨q, hq, h⟩ | h)
      · exact ⟨q, by omega, h⟩
      · exact ⟨o, by omega, h⟩
    · rintro ⟨q, hq, h⟩
      rcases Nat.lt_succ_iff_lt_or_eq.1 hq with hq | rfl
      · exact .inl ⟨q, hq, h⟩
      · exact .inr h
theorem plC_nodup {S : Sp} {o : Nat} {acc : List Rw} (h : acc.Nodup) : ∀ i, (plC S o acc i).Nodup
  | 0 => h
  | i + 1 => nodup_insK (plC_nodup h i) _
theorem plT_nodup (S : Sp) : ∀ o, (plT S o).Nodup
  | 0 => List.nodup_nil
  | o + 1 => plC_nodup (plT_nodup S o) _
theorem plain_len {S : Sp} (hr : rightS S = true) : (plainL S).length ≤ 78732 := by
  have h := plT_len hr _ (Nat.le_refl _)
  obtain ⟨h0, h8, h1, h4, h5, hin⟩ := rightS_iff.1 hr
  unfold plainL
  omega
theorem plain_prime {S : Sp} (hr : rightS S = true) {x : Rw} (hx : x ∈ plainL S) : primeR S x = true := by
  obtain ⟨q, hq, i, hi, rfl⟩ := (mem_plT _).1 hx
  exact (growR_prime (gro_in hr hq hi)).1
theorem plain_b {S : Sp} (hr : rightS S = true) : RowB (plainL S) := fun x hx => by
  obtain ⟨q, hq, i, hi, rfl⟩ := (mem_plT _).1 hx
  exact plX_b hr hq hi
theorem plain_apart {S : Sp} {i k : Nat} (hk : k < i) (hi : i < (plainL S).length) : ¬ (plainL S).getD i ⟨⟨0, 0⟩, 0⟩ = (plainL S).getD k ⟨⟨0, 0⟩, 0⟩ := fun e => by
  have hn := plT_nodup S S.on.length
  rw [List.getD_eq_getElem?_getD, List.getD_eq_getElem?_getD, List.getElem?_eq_getElem hi, List.getElem?_eq_getElem (show k < (plainL S).length by omega)] at e
  exact (List.pairwise_iff_getElem.1 hn) k i (show k < (plainL S).length by omega) hi hk (show (plainL S)[k] = (plainL S)[i] from e.symm)
theorem plain_cov {S : Sp} (hr : rightS S = true) : covB S (plainL S) = true := by
  obtain ⟨h0, h8, h1, h4, h5, hin⟩ := rightS_iff.1 hr
  have hm : mayL S (plainL S) = true := mayL_mem.2 fun x hx => by
    have hi := (primeR_iff.1 (plain_prime hr hx)).1
    exact okR_iff.2 ⟨inR_right hi, (inR_iff.1 hi).2.1, h5 ▸ (inR_lt hi).1⟩
  refine covB_iff.2 ⟨hr, hm, fun o ho => (covO_iff hr hm ho).2 fun p hp => ⟨fun hb => ?_, fun hb => ?_⟩⟩
  · have hok := ok_right hr ho
    have hp8 : p < 256 := by have := two_pow_le h8; omega
    obtain ⟨i, hi, _, _, hh⟩ := (ptsB_testBit (n := S.n.toNat) (by omega) p _ (Nat.le_refl _) (gro_v hok)).1 (withinB_iff.1 (gro_on hok) p hp8 hb)
    obtain ⟨hpr, hho⟩ := growR_prime (gro_in hr ho (i := i) hi)
    obtain ⟨g1, g2⟩ := holdsR_iff.1 hho
    have hv : (plX S o i).c.v &&& (plX S o i).c.m = (plX S o i).c.v := (rightB_iff.1 (inR_right (primeR_iff.1 hpr).1)).2.2.2
    unfold cvB
    rw [List.any_eq_true]
    refine ⟨plX S o i, (mem_plT _).2 ⟨o, ho, i, hi, rfl⟩, ?_⟩
    rw [Bool.and_eq_true]
    refine ⟨g2 o (by show (2 ^ o).testBit o = true; rw [Nat.testBit_two_pow]; simp), ?_⟩
    have := holds_point (p := p) hv g1 hh
    unfold hasC
    rw [decide_eq_true_eq, hv]
    exact this
  · unfold cvB at hb
    rw [List.any_eq_true] at hb
    obtain ⟨x, hx, h2⟩ := hb
    rw [Bool.and_eq_true] at h2
    have hi := (primeR_iff.1 (plain_prime hr hx)).1
    have hv := (rightB_iff.1 (inR_right hi)).2.2.2
    have h3 := h2.2
    unfold hasC at h3
    rw [decide_eq_true_eq, hv] at h3
    exact (imp_iff.1 ((inR_iff.1 hi).2.2 o h2.1).2).2 p hp h3
theorem not_inR {ml : List Rw} {kk : Rw} (h : (!(getL (allT ml) ⟨⟨kk.c.m, kk.c.v⟩, kk.o⟩).getD false) = true) : kk ∉ ml := by
  rw [allT_get] at h
  simpa using h
theorem is_inR {ml : List Rw} {kk : Rw} (h : (!(getL (allT ml) ⟨⟨kk.c.m, kk.c.v⟩, kk.o⟩).getD false) = false) : kk ∈ ml := by
  rw [allT_get] at h
  simpa using h
theorem plC_new {S : Sp} {o i : Nat} {acc : List Rw} (h : plX S o i ∉ plC S o acc i) : plC S o acc i ++ [plX S o i] = plC S o acc (i + 1) := (insK_new h).symm
theorem plC_old {S : Sp} {o i : Nat} {acc : List Rw} (h : plX S o i ∈ plC S o acc i) : plC S o acc i = plC S o acc (i + 1) := (insK_old h).symm

end Go.Proofs.Ytdbcijijhhbkaaa
