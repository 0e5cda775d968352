/-
  Plain words for the document's rows: all of them in order, those that no other one holds. No program in it.
-/
import Derived.Test.YtdbcijijhhbkaaaCov
namespace Go.Proofs.Ytdbcijijhhbkaaa
set_option linter.unusedVariables false
set_option linter.unusedSimpArgs false
open Go Go.RowKit

theorem list_extR {l l2 : List Rw} (hl : l.length = l2.length) (h : ∀ q, q < l.length → l.getD q ⟨⟨0, 0⟩, 0⟩ = l2.getD q ⟨⟨0, 0⟩, 0⟩) : l = l2 := by
  refine List.ext_getElem hl fun i h1 h2 => ?_
  have := h i h1
  simpa [List.getD_eq_getElem?_getD, h1, h2] using this
theorem rw_eq {x y : Rw} (h : ¬ ¬ ((x.c.m : Int) = (y.c.m : Int) ∧ (x.c.v : Int) = (y.c.v : Int) ∧ (x.o : Int) = (y.o : Int))) : x = y := by
  obtain ⟨h1, h2, h3⟩ := Decidable.not_not.1 h
  obtain ⟨⟨m, v⟩, o⟩ := x
  obtain ⟨⟨m', v'⟩, o'⟩ := y
  simp only at h1 h2 h3
  rw [Int.ofNat_inj.1 h1, Int.ofNat_inj.1 h2, Int.ofNat_inj.1 h3]
theorem rw_eq2 {x y : Rw} (h : (x.c.m : Int) = (y.c.m : Int) ∧ (x.c.v : Int) = (y.c.v : Int) ∧ (x.o : Int) = (y.o : Int)) : x = y := rw_eq (not_not_intro h)
theorem rw_int {x y : Rw} (h : x = y) : (x.c.m : Int) = (y.c.m : Int) ∧ (x.c.v : Int) = (y.c.v : Int) ∧ (x.o : Int) = (y.o : Int) := by subst h; exact ⟨rfl, rfl, rfl⟩

/-! ### All rows within -/
def rwV (S : Sp) (o m : Nat) : Nat → List Rw
  | 0 => []
  | k + 1 => if inR S ⟨⟨m, k⟩, o⟩ = true then rwV S o m k ++ [⟨⟨m, k⟩, o⟩] else rwV S o m k
def rwM (S : Sp) (o : Nat) : Nat → List Rw
  | 0 => []
  | k + 1 => rwM S o k ++ rwV S o k (2 ^ S.n.toNat)
def rwO (S : Sp) : Nat → List Rw
  | 0 => []
  | o + 1 => if o = 0 then [] else rwO S o ++ rwM S o (2 ^ S.n.toNat)
abbrev rwS (S : Sp) : List Rw := rwO S (2 ^ S.on.length)
theorem rwV_t {S : Sp} {o m k : Nat} (h : inR S ⟨⟨m, k⟩, o⟩ = true) : rwV S o m k ++ [⟨⟨m, k⟩, o⟩] = rwV S o m (k + 1) := (if_pos h).symm
theorem rwV_f {S : Sp} {o m k : Nat} (h : inR S ⟨⟨m, k⟩, o⟩ = false) : rwV S o m k = rwV S o m (k + 1) := (if_neg (by rw [h]; decide)).symm
theorem rwO_succ {S : Sp} {o : Nat} (h : 0 < o) : rwO S o ++ rwM S o (2 ^ S.n.toNat) = rwO S (o + 1) := (if_neg (by omega)).symm
theorem rwV_len (S : Sp) (o m : Nat) : ∀ k, (rwV S o m k).length ≤ k
  | 0 => by simp [rwV]
  | k + 1 => by
    have := rwV_len S o m k
    rw [rwV]; split <;> simp <;> omega
theorem rwM_len (S : Sp) (o : Nat) : ∀ k, (rwM S o k).length ≤ k * 2 ^ S.n.toNat
  | 0 => by simp [rwM]
  | k + 1 => by
    have := rwM_len S o k
    have h2 := rwV_len S o k (2 ^ S.n.toNat)
    rw [rwM, List.length_append, Nat.add_mul, Nat.one_mul]; omega
theorem rwO_len {S : Sp} (h8 : S.n ≤ 8) : ∀ o, (rwO S o).length ≤ o * 65536
  | 0 => by simp [rwO]
  | o + 1 => by
    have ih := rwO_len h8 o
    have h1 := rwM_len S o (2 ^ S.n.toNat)
    have h2 := two_pow_le h8
    have h3 : 2 ^ S.n.toNat * 2 ^ S.n.toNat ≤ 256 * 256 := Nat.mul_le_mul h2 h2
    rw [rwO]
    split
    · simp
    · rw [List.length_append]; omega
theorem mem_rwV {S : Sp} {o m : Nat} {x : Rw} : ∀ k, x ∈ rwV S o m k ↔ inR S x = true ∧ x.o = o ∧ x.c.m = m ∧ x.c.v < k
  | 0 => by simp [rwV]
  | k + 1 => by
    have ih := mem_rwV (S := S) (o := o) (m := m) (x := x) k
    obtain ⟨⟨xm, xv⟩, xo⟩ := x
    rw [rwV]
    split
    · rename_i h
      rw [List.mem_append, List.mem_singleton, ih]
      simp only [Rw.mk.injEq, Cb.mk.injEq]
      constructor
      · rintro (⟨h1, h2, h3, h4⟩ | ⟨⟨rfl, rfl⟩, rfl⟩)
        · exact ⟨h1, h2, h3, by omega⟩
        · exact ⟨h, rfl, rfl, by omega⟩
      · rintro ⟨h1, h2, h3, h4⟩
        rcases Nat.lt_succ_iff_lt_or_eq.1 h4 with h4 | h4
        · exact .inl ⟨h1, h2, h3, h4⟩
        · exact .inr ⟨⟨h3, h4⟩, h2⟩
    · rename_i h
      rw [ih]
      simp only
      constructor
      · rintro ⟨h1, h2, h3, h4⟩; exact ⟨h1, h2, h3, by omega⟩
      · rintro ⟨h1, h2, h3, h4⟩
        refine ⟨h1, h2, h3, ?_⟩
        rcases Nat.lt_succ_iff_lt_or_eq.1 h4 with h4 | h4
        · exact h4
        · subst h2; subst h3; subst h4; exact absurd h1 h
theorem mem_rwM {S : Sp} {o : Nat} {x : Rw} : ∀ k, x ∈ rwM S o k ↔ inR S x = true ∧ x.o = o ∧ x.c.m < k
  | 0 => by simp [rwM]
  | k + 1 => by
    rw [rwM, List.mem_append, mem_rwM k, mem_rwV]
    constructor
    · rintro (⟨h1, h2, h3⟩ | ⟨h1, h2, h3, h4⟩)
      · exact ⟨h1, h2, by omega⟩
      · exact ⟨h1, h2, by omega⟩
    · rintro ⟨h1, h2, h3⟩
      rcases Nat.lt_succ_iff_lt_or_eq.1 h3 with h3 | h3
      · exact .inl ⟨h1, h2, h3⟩
      · exact .inr ⟨h1, h2, h3, (right_lt (inR_right h1)).2⟩
theorem mem_rwO {S : Sp} {x : Rw} : ∀ o, x ∈ rwO S o ↔ inR S x = true ∧ x.o < o
  | 0 => by simp [rwO]
  | o + 1 => by
    rw [rwO]
    split
    · rename_i h
      subst h
      constructor
      · intro h; cases h
      · rintro ⟨h1, h2⟩; have := (inR_iff.1 h1).2.1; omega
    · rename_i h
      rw [List.mem_append, mem_rwO o, mem_rwM]
      constructor
      · rintro (⟨h1, h2⟩ | ⟨h1, h2, _⟩)
        · exact ⟨h1, by omega⟩
        · exact ⟨h1, by omega⟩
      · rintro ⟨h1, h2⟩
        rcases Nat.lt_succ_iff_lt_or_eq.1 h2 with h2 | h2
        · exact .inl ⟨h1, h2⟩
        · exact .inr ⟨h1, h2, (right_lt (inR_right h1)).1⟩
theorem mem_rwS {S : Sp} {x : Rw} : x ∈ rwS S ↔ inR S x = true := by
  unfold rwS
  rw [mem_rwO]
  refine ⟨fun h => h.1, fun h => ⟨h, ?_⟩⟩
  obtain ⟨_, _, _, _, h5, _⟩ := rightS_iff.1 (inR_iff.1 h).1
  rw [h5]; exact (inR_lt h).1
theorem rising_rwV (S : Sp) (o m : Nat) : ∀ k, RisingR (rwV S o m k)
  | 0 => by simp [rwV, RisingR]
  | k + 1 => by
    have ih := rising_rwV S o m k
    rw [rwV]
    split
    · refine List.pairwise_append.2 ⟨ih, by simp, fun a ha b hb => ?_⟩
      rw [List.mem_singleton] at hb
      subst hb
      obtain ⟨_, h2, h3, h4⟩ := (mem_rwV k).1 ha
      rw [ltR_iff]
      exact .inr ⟨h2, .inr ⟨h3, h4⟩⟩
    · exact ih
theorem rising_rwM (S : Sp) (o : Nat) : ∀ k, RisingR (rwM S o k)
  | 0 => by simp [rwM, RisingR]
  | k + 1 => by
    refine List.pairwise_append.2 ⟨rising_rwM S o k, rising_rwV S o k _, fun a ha b hb => ?_⟩
    obtain ⟨_, h2, h3⟩ := (mem_rwM k).1 ha
    obtain ⟨_, g2, g3, _⟩ := (mem_rwV _).1 hb
    rw [ltR_iff]
    exact .inr ⟨by omega, .inl (by omega)⟩
theorem rising_rwO (S : Sp) : ∀ o, RisingR (rwO S o)
  | 0 => by simp [rwO, RisingR]
  | o + 1 => by
    rw [rwO]
    split
    · simp [RisingR]
    · refine List.pairwise_append.2 ⟨rising_rwO S o, rising_rwM S o _, fun a ha b hb => ?_⟩
      have h1 := ((mem_rwO o).1 ha).2
      have h2 := ((mem_rwM _).1 hb).2.1
      rw [ltR_iff]
      exact .inl (by omega)
theorem rwS_b {S : Sp} (h8 : S.n ≤ 8) : RowB (rwS S) := fun x hx => by
  have h := mem_rwS.1 hx
  have h1 := right_lt (inR_right h)
  have h2 := two_pow_le h8
  have h3 := (inR_lt h).2
  omega

/-! ### Those that no other one holds -/
def freeTo (l : List Rw) (i : Nat) : Nat → Bool
  | 0 => true
  | k + 1 => freeTo l i k && (decide (k = i) || !holdsR (l.getD k ⟨⟨0, 0⟩, 0⟩) (l.getD i ⟨⟨0, 0⟩, 0⟩))
theorem free_t {l : List Rw} {i k : Nat} (h : k = i ∨ holdsR (l.getD k ⟨⟨0, 0⟩, 0⟩) (l.getD i ⟨⟨0, 0⟩, 0⟩) = false) : freeTo l i k = freeTo l i (k + 1) := by
  rw [freeTo]
  rcases h with h | h
  · rw [decide_eq_true h]; simp
  · rw [h]; simp
theorem free_f {l : List Rw} {i k : Nat} (h1 : ¬ k = i) (h : holdsR (l.getD k ⟨⟨0, 0⟩, 0⟩) (l.getD i ⟨⟨0, 0⟩, 0⟩) = true) : false = freeTo l i (k + 1) := by
  rw [freeTo, decide_eq_false h1, h]; simp
theorem freeTo_iff {l : List Rw} {i : Nat} : ∀ k, freeTo l i k = true ↔ ∀ q, q < k → q ≠ i → holdsR (l.getD q ⟨⟨0, 0⟩, 0⟩) (l.getD i ⟨⟨0, 0⟩, 0⟩) = false
  | 0 => by simp [freeTo]
  | k + 1 => by
    rw [freeTo, Bool.and_eq_true, freeTo_iff k, Bool.or_eq_true, decide_eq_true_eq, Bool.not_eq_true']
    constructor
    · rintro ⟨h1, h2⟩ q hq hne
      rcases Nat.lt_succ_iff_lt_or_eq.1 hq with hq | rfl
      · exact h1 q hq hne
      · exact h2.resolve_left hne
    · intro h
      refine ⟨fun q hq => h q (by omega), ?_⟩
      by_cases e : k = i
      · exact .inl e
      · exact .inr (h k (by omega) e)
def selTo (l : List Rw) : Nat → List Rw
  | 0 => []
  | k + 1 => if freeTo l k l.length = true then selTo l k ++ [l.getD k ⟨⟨0, 0⟩, 0⟩] else selTo l k
theorem sel_t {l : List Rw} {k : Nat} (h : freeTo l k l.length = true) : selTo l k ++ [l.getD k ⟨⟨0, 0⟩, 0⟩] = selTo l (k + 1) := (if_pos h).symm
theorem sel_f {l : List Rw} {k : Nat} (h : freeTo l k l.length = false) : selTo l k = selTo l (k + 1) := (if_neg (by rw [h]; decide)).symm
theorem selTo_len (l : List Rw) : ∀ k, (selTo l k).length ≤ k
  | 0 => by simp [selTo]
  | k + 1 => by
    have := selTo_len l k
    rw [selTo]; split <;> simp <;> omega
theorem mem_selTo {l : List Rw} {x : Rw} : ∀ k, x ∈ selTo l k ↔ ∃ q, q < k ∧ x = l.getD q ⟨⟨0, 0⟩, 0⟩ ∧ freeTo l q l.length = true
  | 0 => by simp [selTo]
  | k + 1 => by
    rw [selTo]
    split
    · rename_i h
      rw [List.mem_append, List.mem_singleton, mem_selTo k]
      constructor
      · rintro (⟨q, hq, r⟩ | rfl)
        · exact ⟨q, by omega, r⟩
        · exact ⟨k, by omega, rfl, h⟩
      · rintro ⟨q, hq, r, r2⟩
        rcases Nat.lt_succ_iff_lt_or_eq.1 hq with hq | rfl
        · exact .inl ⟨q, hq, r, r2⟩
        · exact .inr r
    · rename_i h
      rw [mem_selTo k]
      constructor
      · rintro ⟨q, hq, r⟩; exact ⟨q, by omega, r⟩
      · rintro ⟨q, hq, r, r2⟩
        rcases Nat.lt_succ_iff_lt_or_eq.1 hq with hq | rfl
        · exact ⟨q, hq, r, r2⟩
        · exact absurd r2 h
theorem rising_getR {l : List Rw} (h : RisingR l) {i j : Nat} (hij : i < j) (hj : j < l.length) : ltR (l.getD i ⟨⟨0, 0⟩, 0⟩) (l.getD j ⟨⟨0, 0⟩, 0⟩) = true := by
  have := List.pairwise_iff_getElem.1 h i j (by omega) hj hij
  simpa [List.getD_eq_getElem?_getD, List.getElem?_eq_getElem hj, List.getElem?_eq_getElem (show i < l.length by omega)] using this
theorem rising_inj {l : List Rw} (h : RisingR l) {i j : Nat} (hi : i < l.length) (hj : j < l.length) (he : l.getD i ⟨⟨0, 0⟩, 0⟩ = l.getD j ⟨⟨0, 0⟩, 0⟩) : i = j := by
  rcases Nat.lt_trichotomy i j with hlt | rfl | hlt
  · have := rising_getR h hlt hj
    rw [he, ltR_irrefl] at this; cases this
  · rfl
  · have := rising_getR h hlt hi
    rw [he, ltR_irrefl] at this; cases this
theorem rising_selTo {l : List Rw} (h : RisingR l) : ∀ k, k ≤ l.length → RisingR (selTo l k)
  | 0, _ => by simp [selTo, RisingR]
  | k + 1, hk => by
    have ih := rising_selTo h k (by omega)
    rw [selTo]
    split
    · refine List.pairwise_append.2 ⟨ih, by simp, fun a ha b hb => ?_⟩
      rw [List.mem_singleton] at hb
      subst hb
      obtain ⟨q, hq, rfl, _⟩ := (mem_selTo k).1 ha
      exact rising_getR h hq (by omega)
    · exact ih
theorem sel_all {S : Sp} (hr : rightS S = true) : selTo (rwS S) (rwS S).length = allR S := by
  have hri : RisingR (rwS S) := rising_rwO S _
  refine risingR_ext (rising_selTo hri _ (Nat.le_refl _)) (rising_allTo S _) fun x => ?_
  rw [mem_selTo, mem_allR hr]
  constructor
  · rintro ⟨q, hq, rfl, hf⟩
    rw [freeTo_iff] at hf
    refine max_prime (mem_rwS.1 (getD_mem hq)) fun y hy hh => ?_
    obtain ⟨j, hj, rfl⟩ := mem_getD (d := ⟨⟨0, 0⟩, 0⟩) (mem_rwS.2 hy)
    by_cases e : j = q
    · subst e; rfl
    · rw [hf j hj e] at hh; cases hh
  · intro hp
    obtain ⟨q, hq, rfl⟩ := mem_getD (d := ⟨⟨0, 0⟩, 0⟩) (mem_rwS.2 (primeR_iff.1 hp).1)
    refine ⟨q, hq, rfl, (freeTo_iff _).2 fun j hj hne => Bool.eq_false_iff.2 fun hh => ?_⟩
    have := prime_max hp (mem_rwS.1 (getD_mem hj)) hh
    exact hne (rising_inj hri hj hq this)
theorem allR_b {S : Sp} (hr : rightS S = true) : RowB (allR S) := fun x hx => by
  have h := (primeR_iff.1 ((mem_allR hr).1 hx)).1
  have h1 := right_lt (inR_right h)
  have h2 := two_pow_le (rightS_iff.1 hr).2.1
  have h3 := (inR_lt h).2
  omega
theorem allR_len {S : Sp} (hr : rightS S = true) : (allR S).length ≤ 1048576 := by
  obtain ⟨_, h8, _, h4, h5, _⟩ := rightS_iff.1 hr
  have h1 := allTo_len (S := S) h8 (2 ^ S.may.length)
  have h2 := pow4 (k := S.may.length) (by omega)
  show (allTo S (2 ^ S.may.length)).length ≤ _
  omega
theorem allR_prime {S : Sp} (hr : rightS S = true) {i : Nat} (hi : i < (allR S).length) : primeR S ((allR S).getD i ⟨⟨0, 0⟩, 0⟩) = true := (mem_allR hr).1 (getD_mem hi)

/-! ### Growing -/
theorem add_t {S : Sp} {c : Cb} {o k : Nat} (h1 : (addTo S c o k).testBit k = false) (h2 : inR S ⟨c, addTo S c o k + 2 ^ k⟩ = true) : addTo S c o k + 2 ^ k = addTo S c o (k + 1) := by
  rw [addTo, if_neg (by rw [h1]; decide), if_pos h2]
theorem add_f1 {S : Sp} {c : Cb} {o k : Nat} (h1 : (addTo S c o k).testBit k = true) : addTo S c o k = addTo S c o (k + 1) := by rw [addTo, if_pos h1]
theorem add_f2 {S : Sp} {c : Cb} {o k : Nat} (h1 : (addTo S c o k).testBit k = false) (h2 : inR S ⟨c, addTo S c o k + 2 ^ k⟩ = false) : addTo S c o k = addTo S c o (k + 1) := by
  rw [addTo, if_neg (by rw [h1]; decide), if_neg (by rw [h2]; decide)]
theorem growR_in {S : Sp} {x : Rw} (h : inR S x = true) : (⟨growRTo S x S.n.toNat, addTo S (growRTo S x S.n.toNat) x.o S.may.length⟩ : Rw) = growR S x := by
  unfold growR
  rw [addTo_all (growRTo_in h _)]
theorem wo_cube {c : Cb} {i : Nat} (hi : i < 8) (hm : c.m < 256) (hv : c.v < 256) : maskTo ((litsS c.m c.v).set ((i : Nat) : Int).toNat 2) ((litsS c.m c.v).set ((i : Nat) : Int).toNat 2).length = (woC c i).m ∧ valTo ((litsS c.m c.v).set ((i : Nat) : Int).toNat 2) ((litsS c.m c.v).set ((i : Nat) : Int).toNat 2).length = (woC c i).v := by
  have hle := woM_le c.m (i : Int)
  rw [lits_without hi]
  exact cube_lits (m := woM c.m (i : Int)) (v := c.v) (by omega) hv
theorem wo_lits {c : Cb} {i : Nat} (hi : i < 8) : Lits ((litsS c.m c.v).set ((i : Nat) : Int).toNat 2) := by
  rw [lits_without hi]; exact lits_litsS _ _
theorem two8_step {j : Nat} (h : j < 8) : 2 ^ j * 2 % 256 = 2 ^ (j + 1) % 256 := by rw [Nat.pow_succ]
theorem add_lt {S : Sp} {c : Cb} {o : Nat} (h : inR S ⟨c, o⟩ = true) (k : Nat) : addTo S c o k < 16 := (inR_lt (addTo_testBit h k).1).2

/-! ### What the statements need -/
def greatS (S : Sp) : Bool := decide (20 < S.on.length) || decide (20 < S.may.length)
theorem great_1 {S : Sp} (h : (20 : Int) < (S.on.length : Int)) : true = greatS S := by
  unfold greatS; rw [decide_eq_true (show 20 < S.on.length by omega), Bool.true_or]
theorem great_2 {S : Sp} (h : ¬ (20 : Int) < (S.on.length : Int)) : decide ((20 : Int) < (S.may.length : Int)) = greatS S := by
  unfold greatS; rw [decide_eq_false (show ¬ 20 < S.on.length by omega), Bool.false_or, Bool.eq_iff_iff, decide_eq_true_eq, decide_eq_true_eq]; omega
theorem great_no {S : Sp} (h : greatS S = false) : S.on.length ≤ 20 ∧ S.may.length ≤ 20 := by
  unfold greatS at h
  rw [Bool.or_eq_false_iff, decide_eq_false_iff_not, decide_eq_false_iff_not] at h
  omega
theorem grow_cases {S : Sp} {x : Rw} {v : Value} (h : v = if inR S x = true then .tuple #[.agg #[.int .u8 ((growR S x).c.m : Int), .int .u8 ((growR S x).c.v : Int), .int .u8 ((growR S x).o : Int)], .int .i64 0] else .tuple #[.agg #[.int .u8 0, .int .u8 0, .int .u8 0], .int .i64 1]) :
    ∃ (g : Rw) (er : Int), v = .tuple #[.agg #[.int .u8 (g.c.m : Int), .int .u8 (g.c.v : Int), .int .u8 (g.o : Int)], .int .i64 er] ∧ ((inR S x = true ∧ g = growR S x ∧ er = 0) ∨ (inR S x = false ∧ g = ⟨⟨0, 0⟩, 0⟩ ∧ er = 1)) := by
  by_cases hi : inR S x = true
  · rw [if_pos hi] at h; exact ⟨_, _, h, .inl ⟨hi, rfl, rfl⟩⟩
  · rw [if_neg hi] at h; exact ⟨⟨⟨0, 0⟩, 0⟩, _, h, .inr ⟨by simpa using hi, rfl, rfl⟩⟩
theorem growR_b {S : Sp} {x : Rw} (hi : inR S x = true) (hb : x.c.m < 256 ∧ x.c.v < 256 ∧ x.o < 256) : (growR S x).c.m < 256 ∧ (growR S x).c.v < 256 ∧ (growR S x).o < 256 := by
  have h1 := growR_lt (S := S) (x := x) ⟨hb.1, hb.2.1⟩ S.n.toNat
  have h2 := (inR_lt (primeR_iff.1 (growR_prime hi).1).1).2
  exact ⟨h1.1, h1.2, by omega⟩
def KS : Sp := ⟨1, [0, 0], [2, 3]⟩
theorem right_knows : rightS KS = true := by decide +kernel
theorem all_knows : allR KS = [⟨⟨0, 0⟩, 2⟩, ⟨⟨1, 1⟩, 3⟩] := by decide +kernel
theorem in_knows : inR KS ⟨⟨1, 1⟩, 1⟩ = true := by decide +kernel
theorem grow_knows : growR KS ⟨⟨1, 1⟩, 1⟩ = ⟨⟨1, 1⟩, 3⟩ := by decide +kernel
theorem prime_knows : primeR KS ⟨⟨1, 1⟩, 3⟩ = true := by decide +kernel
/-- Does one of the first k rows hold a row? -/
def heldR (l : List Rw) (x : Rw) : Nat → Bool
  | 0 => false
  | k + 1 => heldR l x k || holdsR (l.getD k ⟨⟨0, 0⟩, 0⟩) x
theorem heldR_t {l : List Rw} {x : Rw} {k : Nat} (h : heldR l x k = true) : true = heldR l x (k + 1) := by rw [heldR, h]; rfl
theorem heldR_f {l : List Rw} {x : Rw} {k : Nat} (h : heldR l x k = false) : holdsR (l.getD k ⟨⟨0, 0⟩, 0⟩) x = heldR l x (k + 1) := by rw [heldR, h]; rfl
theorem heldR_iff {l : List Rw} {x : Rw} : ∀ k, heldR l x k = true ↔ ∃ j, j < k ∧ holdsR (l.getD j ⟨⟨0, 0⟩, 0⟩) x = true
  | 0 => by simp [heldR]
  | k + 1 => by
    rw [heldR, Bool.or_eq_true, heldR_iff k]
    constructor
    · rintro (⟨j, hj, h⟩ | h)
      · exact ⟨j, by omega, h⟩
      · exact ⟨k, by omega, h⟩
    · rintro ⟨j, hj, h⟩
      rcases Nat.lt_succ_iff_lt_or_eq.1 hj with hj | rfl
      · exact .inl ⟨j, hj, h⟩
      · exact .inr h
theorem held_in {S : Sp} {x : Rw} (h : inR S x = true) : heldR (allR S) x (allR S).length = true := by
  obtain ⟨h1, h2⟩ := growR_prime h
  obtain ⟨j, hj, he⟩ := mem_getD (d := ⟨⟨0, 0⟩, 0⟩) ((mem_allR (inR_iff.1 h).1).2 h1)
  exact (heldR_iff _).2 ⟨j, hj, by rw [he]; exact h2⟩
theorem all_apart {S : Sp} (hr : rightS S = true) {i k : Nat} (hi : i < (allR S).length) (hk : k < (allR S).length) (hne : i ≠ k) : holdsR ((allR S).getD i ⟨⟨0, 0⟩, 0⟩) ((allR S).getD k ⟨⟨0, 0⟩, 0⟩) = false := Bool.eq_false_iff.2 fun hh => by
  have := prime_max (allR_prime hr hk) (primeR_iff.1 (allR_prime hr hi)).1 hh
  exact hne (rising_inj (rising_allTo S _) hi hk this)
/-- Is a row met among the first k? -/
def metR (l : List Rw) (x : Rw) (k : Nat) : Bool := decide (x ∈ l.take k)
theorem metR_put {l : List Rw} {x : Rw} {k : Nat} (hk : k < l.length) : metR l x (k + 1) = (metR l x k || decide (l.getD k ⟨⟨0, 0⟩, 0⟩ = x)) := by
  unfold metR
  rw [List.take_succ_eq_append_getElem hk]
  have e : l.getD k ⟨⟨0, 0⟩, 0⟩ = l[k] := by simp [hk]
  rw [e, Bool.eq_iff_iff, decide_eq_true_eq, Bool.or_eq_true, decide_eq_true_eq, decide_eq_true_eq, List.mem_append, List.mem_singleton]
  exact ⟨fun h => h.imp id Eq.symm, fun h => h.imp id Eq.symm⟩
theorem metR_zero (l : List Rw) (x : Rw) : false = metR l x 0 := by simp [metR]
theorem metR_t {l : List Rw} {x : Rw} {k : Nat} (hk : k < l.length) (h : metR l x k = true) : true = metR l x (k + 1) := by rw [metR_put hk, h]; rfl
theorem metR_f {l : List Rw} {x : Rw} {k : Nat} (hk : k < l.length) (h : metR l x k = false) : decide (((l.getD (k : Int).toNat ⟨⟨0, 0⟩, 0⟩).c.m : Int) = (x.c.m : Int) ∧ ((l.getD (k : Int).toNat ⟨⟨0, 0⟩, 0⟩).c.v : Int) = (x.c.v : Int) ∧ ((l.getD (k : Int).toNat ⟨⟨0, 0⟩, 0⟩).o : Int) = (x.o : Int)) = metR l x (k + 1) := by
  rw [metR_put hk, h, Bool.false_or, Int.toNat_natCast, Bool.eq_iff_iff, decide_eq_true_eq, decide_eq_true_eq]
  exact ⟨rw_eq2, rw_int⟩
theorem metR_all {l : List Rw} {x : Rw} (h : x ∈ l) : metR l x l.length = true := by
  unfold metR; rw [List.take_length]; exact decide_eq_true h
theorem cov_all {S : Sp} (hr : rightS S = true) : covB S (allR S) = true := by
  obtain ⟨h0, h8, h1, h4, h5, hin⟩ := rightS_iff.1 hr
  have hp := two_pow_le h8
  refine covB_iff.2 ⟨hr, mayL_iff.2 fun k hk => ?_, fun o ho => ?_⟩
  · have hi := (primeR_iff.1 (allR_prime hr hk)).1
    exact okR_iff.2 ⟨inR_right hi, (inR_iff.1 hi).2.1, h5 ▸ (inR_lt hi).1⟩
  · obtain ⟨w1, w2⟩ := hin o ho
    refine covO_t (withinB_iff.2 fun p hp2 h => ?_) (withinB_iff.2 fun p hp2 h => ?_)
    · have hm := withinB_iff.1 w1 p hp2 h
      have hpn : p < 2 ^ S.n.toNat := by
        have := withinB_iff.1 w2 p hp2 hm
        rw [allS_testBit] at this
        simpa using this
      have hpow := Nat.two_pow_pos S.n.toNat
      have hx : inR S ⟨⟨2 ^ S.n.toNat - 1, p⟩, 2 ^ o⟩ = true := by
        have hand : p &&& (2 ^ S.n.toNat - 1) = p := by rw [Nat.and_two_pow_sub_one_eq_mod, Nat.mod_eq_of_lt hpn]
        refine inR_iff.2 ⟨hr, Nat.two_pow_pos o, fun j hj => ?_⟩
        have hj' : (2 ^ o).testBit j = true := hj
        rw [Nat.testBit_two_pow, decide_eq_true_eq] at hj'
        subst hj'
        refine ⟨by omega, ?_⟩
        have := (imp_iff (s := mayP S o) (n := S.n) (c := ⟨2 ^ S.n.toNat - 1, p⟩)).2 ⟨rightB_iff.2 ⟨h0, h8, by show 2 ^ S.n.toNat - 1 < 2 ^ S.n.toNat; omega, hand⟩, fun q hq hqp => by
          have hqp' : q &&& (2 ^ S.n.toNat - 1) = p := hqp
          rw [Nat.and_two_pow_sub_one_eq_mod, Nat.mod_eq_of_lt hq] at hqp'
          subst hqp'; exact hm⟩
        exact this
      obtain ⟨j, hj, hh⟩ := (heldR_iff _).1 (held_in hx)
      obtain ⟨g1, g2⟩ := holdsR_iff.1 hh
      have hi := (primeR_iff.1 (allR_prime hr hj)).1
      refine (ptsR_testBit (by omega) p _ (Nat.le_refl _)).2 ⟨hpn, j, hj, g2 o (by show (2 ^ o).testBit o = true; rw [Nat.testBit_two_pow]; simp), ?_⟩
      refine holds_point (p := p) (rightB_iff.1 (inR_right hi)).2.2.2 g1 ?_
      show p &&& (2 ^ S.n.toNat - 1) = p
      rw [Nat.and_two_pow_sub_one_eq_mod, Nat.mod_eq_of_lt hpn]
    · obtain ⟨hpn, j, hj, hb, hh⟩ := (ptsR_testBit (by omega) p _ (Nat.le_refl _)).1 h
      have hi := (primeR_iff.1 (allR_prime hr hj)).1
      have hw := ((inR_iff.1 hi).2.2 o hb).2
      exact (imp_iff.1 hw).2 p hpn hh

theorem grow_eq {S : Sp} {x : Rw} (hi : inR S x = true) : decide (((growR S x).c.m : Int) = (x.c.m : Int) ∧ ((growR S x).c.v : Int) = (x.c.v : Int) ∧ ((growR S x).o : Int) = (x.o : Int)) = primeR S x := by
  rw [Bool.eq_iff_iff, decide_eq_true_eq, ← growR_same hi]
  exact ⟨rw_eq2, rw_int⟩
/-! ### One output -/
theorem one_right {s : Nat} {n : Int} : rightS ⟨n, [0], [s]⟩ = ofB s n := by
  rw [Bool.eq_iff_iff, rightS_iff]
  have hz : ∀ t, withinB 0 t = true := fun t => withinB_iff.2 fun p _ h => by rw [Nat.zero_testBit] at h; cases h
  unfold ofB
  rw [Bool.and_eq_true, Bool.and_eq_true, decide_eq_true_eq, decide_eq_true_eq]
  constructor
  · rintro ⟨h1, h2, _, _, _, h⟩
    exact ⟨h1, h2, (h 0 Nat.one_pos).2⟩
  · rintro ⟨h1, h2, h3⟩
    refine ⟨h1, h2, Nat.le_refl 1, show 1 ≤ 4 by decide, rfl, fun k hk => ?_⟩
    have : k = 0 := by simpa using hk
    subst this
    exact ⟨hz _, h3⟩
theorem one_all {s : Nat} {n : Int} (h : ofB s n = true) : allR ⟨n, [0], [s]⟩ = (primesL s n).map fun c => ⟨c, 1⟩ := by
  have hr : rightS ⟨n, [0], [s]⟩ = true := by rw [one_right]; exact h
  obtain ⟨h0, h8⟩ := of_bounds h
  have hp := two_pow_le h8
  have hcom : ∀ p, p < 256 → (comS ⟨n, [0], [s]⟩ 1).testBit p = s.testBit p := fun p hp2 => by
    rw [Bool.eq_iff_iff, comTo_testBit]
    constructor
    · rintro ⟨_, g⟩; exact g 0 Nat.one_pos (by decide)
    · intro g
      refine ⟨?_, fun j hj _ => ?_⟩
      · have hw : withinB s (allS n.toNat) = true := by
          unfold ofB at h
          rw [Bool.and_eq_true, Bool.and_eq_true] at h
          exact h.2.2
        have := withinB_iff.1 hw p hp2 g
        rw [allS_testBit] at this
        simpa using this
      · have : j = 0 := by simpa using hj
        subst this; exact g
  have hwi : ∀ c : Cb, wiB c.m c.v (comS ⟨n, [0], [s]⟩ 1) n = wiB c.m c.v s n := fun c => by
    unfold wiB
    rw [withinB_congr (fun _ _ => rfl) hcom]
  have hpr : ∀ c : Cb, primeB c.m c.v (comS ⟨n, [0], [s]⟩ 1) n = primeB c.m c.v s n := fun c => by
    unfold primeB shrinks
    rw [hwi c]
    simp only [fun i : Nat => hwi ⟨woM c.m (i : Int), c.v &&& woM c.m (i : Int)⟩]
  refine risingR_ext (rising_allTo _ _) ?_ fun x => ?_
  · refine List.pairwise_map.2 ((rising_primesL s n).imp fun {a b} hab => ?_)
    unfold ltR
    rw [hab]; simp
  · rw [mem_allR hr, List.mem_map, primeR_iff]
    have hmay : ∀ j, j < (1 : Nat) → mayP ⟨n, [0], [s]⟩ j = s := fun j hj => by
      have : j = 0 := by omega
      subst this; rfl
    constructor
    · rintro ⟨g1, g2, g3⟩
      have ho : x.o = 1 := by
        have := (inR_lt g1).1
        have h2 := (inR_iff.1 g1).2.1
        have h3 : 2 ^ (Sp.may ⟨n, [0], [s]⟩).length = 2 := rfl
        omega
      rw [ho] at g3
      exact ⟨x.c, mem_primesL.2 ((hpr x.c).symm.trans g3), by rw [← ho]⟩
    · rintro ⟨c, hc, rfl⟩
      have hpc := mem_primesL.1 hc
      have hw := (primeB_iff.1 hpc).1
      have hin : inR ⟨n, [0], [s]⟩ ⟨c, 1⟩ = true := inR_com.2 ⟨hr, Nat.one_pos, by show 1 < 2 ^ 1; decide, (hwi c).trans hw⟩
      refine ⟨hin, ?_, (hpr c).trans hpc⟩
      show outsTo ⟨n, [0], [s]⟩ c 1 = 1
      rw [outsTo, outsTo, if_pos (show wiB c.m c.v (mayP ⟨n, [0], [s]⟩ 0) (Sp.n ⟨n, [0], [s]⟩) = true from hw)]
      rfl
theorem one_get {s : Nat} {n : Int} (h : ofB s n = true) {i : Nat} (hi : i < (primesL s n).length) : (allR ⟨n, [0], [s]⟩).getD i ⟨⟨0, 0⟩, 0⟩ = ⟨(primesL s n).getD i ⟨0, 0⟩, 1⟩ := by
  rw [one_all h]
  simp [List.getD_eq_getElem?_getD, hi]
theorem one_len {s : Nat} {n : Int} (h : ofB s n = true) : (allR ⟨n, [0], [s]⟩).length = (primesL s n).length := by rw [one_all h, List.length_map]

end Go.Proofs.Ytdbcijijhhbkaaa
