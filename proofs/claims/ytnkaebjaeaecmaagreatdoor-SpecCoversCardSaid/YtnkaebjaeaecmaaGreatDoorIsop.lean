/-
  Plain words for covers without a search: sides of sets, the cover by the sides, its points, that no cube of it is too much. No program in it.
-/
import Derived.Test.YtnkaebjaeaecmaaGreatDoorHolds
namespace Go.Proofs.YtnkaebjaeaecmaaGreatDoor
set_option linter.unusedVariables false
set_option linter.unusedSimpArgs false
open Go Go.RowKit

/-! ### Points with a bit so -/
def putP (p i : Nat) (one : Bool) : Nat := if p.testBit i = one then p else p ^^^ 2 ^ i
theorem xor_bit (p i j : Nat) : (p ^^^ 2 ^ i).testBit j = if j = i then !p.testBit j else p.testBit j := by
  rw [Nat.testBit_xor, Nat.testBit_two_pow]
  by_cases e : i = j
  · subst e; simp
  · have : ¬ j = i := fun h => e h.symm
    simp [e, this]
theorem putP_testBit (p i j : Nat) (one : Bool) : (putP p i one).testBit j = if j = i then one else p.testBit j := by
  unfold putP
  split
  · rename_i h
    split
    · rename_i e; subst e; exact h
    · rfl
  · rename_i h
    rw [xor_bit]
    split
    · rename_i e; subst e; cases hp : p.testBit j <;> cases one <;> simp_all
    · rfl
theorem putP_eq {p i : Nat} {one : Bool} (h : p.testBit i = one) : putP p i one = p := if_pos h
theorem lt_two {p n : Nat} : p < 2 ^ n ↔ ∀ j, n ≤ j → p.testBit j = false := by
  constructor
  · intro h j hj
    exact Nat.testBit_lt_two_pow (Nat.lt_of_lt_of_le h (Nat.pow_le_pow_right (by decide) hj))
  · exact Nat.lt_pow_two_of_testBit p
theorem putP_lt {p i n : Nat} {one : Bool} (hi : i < n) : putP p i one < 2 ^ n ↔ p < 2 ^ n := by
  rw [lt_two, lt_two]
  constructor
  · intro h j hj
    have := h j hj
    rwa [putP_testBit, if_neg (by omega)] at this
  · intro h j hj
    rw [putP_testBit, if_neg (by omega)]
    exact h j hj
theorem xor_lt {p i n : Nat} (hi : i < n) (h : p < 2 ^ n) : p ^^^ 2 ^ i < 2 ^ n := Nat.xor_lt_two_pow h (Nat.pow_lt_pow_right (by decide) hi)
theorem putP_xor (p i j : Nat) (one : Bool) : putP (p ^^^ 2 ^ j) i one = if j = i then putP p i one else putP p i one ^^^ 2 ^ j := by
  refine Nat.eq_of_testBit_eq fun q => ?_
  split
  · rename_i e
    subst e
    rw [putP_testBit, putP_testBit, xor_bit]
    split <;> rfl
  · rename_i e
    rw [putP_testBit, xor_bit, xor_bit, putP_testBit]
    by_cases h1 : q = i
    · subst h1
      have : ¬ q = j := fun h => e h.symm
      simp [this]
    · simp [h1]
theorem two8 (i : Nat) (h : i < 8) (p : Nat) (hp : p < 256) : p ^^^ 2 ^ i < 256 := xor_lt (n := 8) h hp

/-! ### Halves and sides -/
theorem fold_testBit {l : List Int} {F : Nat → Int → Nat} {hit : Int → Nat → Prop} (hF : ∀ o p, p ∈ l → ∀ q, ((F o p).testBit q = true ↔ o.testBit q = true ∨ hit p q)) :
    ∀ (z q : Nat), ((l.foldl F z).testBit q = true ↔ z.testBit q = true ∨ ∃ p, p ∈ l ∧ hit p q) := by
  induction l with
  | nil => intro z q; simp
  | cons a l ih =>
    intro z q
    rw [List.foldl_cons, ih (fun o p hp => hF o p (List.mem_cons_of_mem _ hp)), hF z a (List.mem_cons_self ..)]
    constructor
    · rintro ((h | h) | ⟨p, h1, h2⟩)
      · exact .inl h
      · exact .inr ⟨a, List.mem_cons_self .., h⟩
      · exact .inr ⟨p, List.mem_cons_of_mem _ h1, h2⟩
    · rintro (h | ⟨p, h1, h2⟩)
      · exact .inl (.inl h)
      · rcases List.mem_cons.1 h1 with rfl | h1
        · exact .inl (.inr h2)
        · exact .inr ⟨p, h1, h2⟩

theorem halfS_testBit {s i q : Nat} {one : Bool} : (halfS s i one).testBit q = true ↔ q < 256 ∧ s.testBit q = true ∧ q.testBit i = one := by
  unfold halfS
  rw [fold_testBit (hit := fun p q => p.toNat.testBit i = one ∧ q = p.toNat)]
  · simp only [Nat.zero_testBit, Bool.false_eq_true, false_or]
    constructor
    · rintro ⟨p, hp, h1, h2⟩
      obtain ⟨k, h3, h4, rfl⟩ := mem_listS.1 hp
      rw [Int.toNat_natCast] at h1 h2
      subst h2
      exact ⟨h3, h4, h1⟩
    · rintro ⟨h1, h2, h3⟩
      exact ⟨(q : Int), mem_listS.2 ⟨q, h1, h2, rfl⟩, by simpa using h3, by simp⟩
  · intro o p hp q
    obtain ⟨k, h3, h4, rfl⟩ := mem_listS.1 hp
    have e : (decide ((k : Int).toNat / 2 ^ i % 2 = 1) == one) = true ↔ k.testBit i = one := by
      rw [Int.toNat_natCast, ← bit_dec]
      cases k.testBit i <;> cases one <;> simp
    rw [Int.toNat_natCast] at e ⊢
    by_cases hk : k.testBit i = one
    · rw [if_pos (e.2 hk), withS_testBit h3]
      simp [hk, or_comm]
    · rw [if_neg (fun h => hk (e.1 h))]
      simp [hk]

/-- The points of l, each with bit i turned, beside h. -/
def sideTo (l : List Int) (h i k : Nat) : Nat := (l.take k).foldl (fun o p => withS o ((p.toNat ^^^ 2 ^ i : Nat) : Int)) h
def sideS (s i : Nat) (one : Bool) : Nat := sideTo (listS (halfS s i one)) (halfS s i one) i (listS (halfS s i one)).length
theorem sideS_testBit {s i p : Nat} {one : Bool} (hi : i < 8) : (sideS s i one).testBit p = true ↔ p < 256 ∧ s.testBit (putP p i one) = true := by
  unfold sideS sideTo
  rw [List.take_length, fold_testBit (hit := fun x q => q = x.toNat ^^^ 2 ^ i)]
  · rw [halfS_testBit]
    constructor
    · rintro (⟨h1, h2, h3⟩ | ⟨x, hx, rfl⟩)
      · exact ⟨h1, by rw [putP_eq h3]; exact h2⟩
      · obtain ⟨k, h3, h4, rfl⟩ := mem_listS.1 hx
        obtain ⟨_, h5, h6⟩ := halfS_testBit.1 h4
        rw [Int.toNat_natCast]
        exact ⟨two8 i hi k h3, by rw [putP_xor, if_pos rfl, putP_eq h6]; exact h5⟩
    · rintro ⟨h1, h2⟩
      by_cases h3 : p.testBit i = one
      · exact .inl ⟨h1, by rwa [putP_eq h3] at h2, h3⟩
      · refine .inr ⟨((p ^^^ 2 ^ i : Nat) : Int), mem_listS.2 ⟨p ^^^ 2 ^ i, two8 i hi p h1, ?_, rfl⟩, ?_⟩
        · have e : putP p i one = p ^^^ 2 ^ i := if_neg h3
          rw [e] at h2
          refine halfS_testBit.2 ⟨two8 i hi p h1, h2, ?_⟩
          rw [xor_bit, if_pos rfl]
          cases hp : p.testBit i <;> cases one <;> simp_all
        · rw [Int.toNat_natCast, Nat.xor_assoc, Nat.xor_self, Nat.xor_zero]
  · intro o x hx q
    obtain ⟨k, h3, h4, rfl⟩ := mem_listS.1 hx
    rw [Int.toNat_natCast, withS_testBit (two8 i hi k h3)]
    simp [or_comm]
theorem sideS_bit {s i p : Nat} {one : Bool} (hi : i < 8) (hp : p < 256) : (sideS s i one).testBit p = s.testBit (putP p i one) := by
  rw [Bool.eq_iff_iff, sideS_testBit hi]
  simp [hp]

/-! ### The cover -/
def eqS (s t : Nat) : Bool := decide (wd s 0 = wd t 0 ∧ wd s 1 = wd t 1 ∧ wd s 2 = wd t 2 ∧ wd s 3 = wd t 3)
theorem eqS_iff {s t : Nat} : eqS s t = true ↔ ∀ p, p < 256 → s.testBit p = t.testBit p := by
  unfold eqS
  rw [decide_eq_true_eq]
  constructor
  · rintro ⟨h0, h1, h2, h3⟩ p hp
    have key : ∀ i, wd s i = wd t i → p / 64 = i → s.testBit p = t.testBit p := fun i h e => by
      have h5 := congrArg (fun x => x.testBit (p % 64)) h
      simp only [wd_testBit] at h5
      have e2 : 64 * i + p % 64 = p := by omega
      rw [e2] at h5
      simpa [Nat.mod_lt] using h5
    have : p / 64 = 0 ∨ p / 64 = 1 ∨ p / 64 = 2 ∨ p / 64 = 3 := by omega
    rcases this with e | e | e | e
    · exact key 0 h0 e
    · exact key 1 h1 e
    · exact key 2 h2 e
    · exact key 3 h3 e
  · intro h
    exact ⟨wd_congr (by decide) h, wd_congr (by decide) h, wd_congr (by decide) h, wd_congr (by decide) h⟩
/-- What the sides alone need, and what both may have. -/
def restS (n : Nat) (on0 on1 : Nat) (a b : List Cb) : Nat := (0 ||| andNot on0 (ptsU a n a.length)) ||| andNot on1 (ptsU b n b.length)
/-- The precondition: on is within may, may within all points; neither knows of the inputs before i. -/
structure Good (n on may i : Nat) : Prop where
  le : i ≤ n
  sub : ∀ p, p < 256 → on.testBit p = true → may.testBit p = true
  out : ∀ p, p < 256 → may.testBit p = true → p < 2 ^ n
  free : ∀ p j, p < 256 → j < i → on.testBit (p ^^^ 2 ^ j) = on.testBit p
  freeM : ∀ p j, p < 256 → j < i → may.testBit (p ^^^ 2 ^ j) = may.testBit p

/-- What knows of no input is all, or nothing. -/
theorem free_all {s : Nat} : ∀ (n : Nat), (∀ p j, p < 2 ^ n → j < n → s.testBit (p ^^^ 2 ^ j) = s.testBit p) → ∀ p, p < 2 ^ n → s.testBit p = s.testBit 0
  | 0, _, p, hp => by
    have : p = 0 := by simpa using hp
    rw [this]
  | n + 1, h, p, hp => by
    have hle : 2 ^ n ≤ 2 ^ (n + 1) := Nat.pow_le_pow_right (by decide) (by omega)
    have ih := free_all n fun p j hp hj => h p j (Nat.lt_of_lt_of_le hp hle) (by omega)
    by_cases hb : p.testBit n = true
    · rw [← h p n hp (by omega)]
      refine ih _ (lt_two.2 fun j hj => ?_)
      rw [xor_bit]
      split
      · rename_i e; subst e; rw [hb]; rfl
      · exact lt_two.1 hp j (by omega)
    · refine ih p (lt_two.2 fun j hj => ?_)
      by_cases e : j = n
      · subst e; simpa using hb
      · exact lt_two.1 hp j (by omega)

theorem pow_le256 {n : Nat} (h : n ≤ 8) : 2 ^ n ≤ 256 := by
  have : 2 ^ n ≤ 2 ^ 8 := Nat.pow_le_pow_right (by decide) h
  simpa using this

theorem Good.end {n on may : Nat} (h8 : n ≤ 8) (h : Good n on may n) : eqS on 0 = true ∨ eqS may (allS n) = true := by
  have hp := pow_le256 h8
  have h1 := free_all n fun p j hq hj => h.freeM p j (by omega) hj
  by_cases h0 : may.testBit 0 = true
  · right
    rw [eqS_iff]
    intro p hp2
    rw [allS_testBit]
    by_cases hpn : p < 2 ^ n
    · rw [h1 p hpn, h0]; simp [hpn]
    · cases hm : may.testBit p with
      | false => simp [hpn]
      | true => exact absurd (h.out p hp2 hm) hpn
  · left
    rw [eqS_iff]
    intro p hp2
    rw [Nat.zero_testBit]
    refine Bool.eq_false_iff.2 fun ho => ?_
    have hm := h.sub p hp2 ho
    exact h0 (by rw [← h1 p (h.out p hp2 hm)]; exact hm)

/-- Has a cube a point? -/
def hold (c : Cb) (p : Nat) : Prop := p &&& c.m = c.v
theorem hold_iff {c : Cb} {p : Nat} : hold c p ↔ ∀ j, (p.testBit j && c.m.testBit j) = c.v.testBit j := by
  unfold hold
  constructor
  · intro h j; rw [← h, Nat.testBit_and]
  · intro h; exact Nat.eq_of_testBit_eq fun j => by rw [Nat.testBit_and]; exact h j
theorem hold_xor {c : Cb} {p j : Nat} (h : c.m.testBit j = false) : hold c (p ^^^ 2 ^ j) ↔ hold c p := by
  rw [hold_iff, hold_iff]
  have : ∀ q, ((p ^^^ 2 ^ j).testBit q && c.m.testBit q) = (p.testBit q && c.m.testBit q) := fun q => by
    rw [xor_bit]
    split
    · rename_i e; subst e; simp [h]
    · rfl
  simp only [this]
/-- Cubes that are right, know of no input before i, and are within may. -/
def CubesOk (n may i : Nat) (l : List Cb) : Prop := ∀ c, c ∈ l → c.m < 2 ^ n ∧ c.v &&& c.m = c.v ∧ (∀ j, j < i → c.m.testBit j = false) ∧ ∀ p, p < 2 ^ n → hold c p → may.testBit p = true
def CovOk (n on : Nat) (l : List Cb) : Prop := ∀ p, p < 2 ^ n → on.testBit p = true → ∃ c, c ∈ l ∧ hold c p
theorem ptsU_hold {l : List Cb} {n : Nat} (hn : n ≤ 8) (p : Nat) : (ptsU l n l.length).testBit p = true ↔ p < 2 ^ n ∧ ∃ c, c ∈ l ∧ hold c p := by
  rw [ptsU_testBit hn]
  constructor
  · rintro ⟨j, hj, h1, h2⟩
    exact ⟨h1, _, getD_mem hj, h2⟩
  · rintro ⟨h1, c, hc, h2⟩
    obtain ⟨j, hj, rfl⟩ := mem_getD (d := ⟨0, 0⟩) hc
    exact ⟨j, hj, h1, h2⟩

section
variable {n on may i : Nat}
theorem restS_testBit {on0 on1 : Nat} {a b : List Cb} {p : Nat} : (restS n on0 on1 a b).testBit p = ((on0.testBit p && !(ptsU a n a.length).testBit p) || (on1.testBit p && !(ptsU b n b.length).testBit p)) := by
  unfold restS
  rw [Nat.zero_or, Nat.testBit_or, andNot_testBit, andNot_testBit]

theorem pts_free {l : List Cb} {j p : Nat} (h8 : n ≤ 8) (hj : j < n) (h : ∀ c, c ∈ l → c.m.testBit j = false) : (ptsU l n l.length).testBit (p ^^^ 2 ^ j) = (ptsU l n l.length).testBit p := by
  rw [Bool.eq_iff_iff, ptsU_hold h8, ptsU_hold h8]
  have hlt : p ^^^ 2 ^ j < 2 ^ n ↔ p < 2 ^ n := by
    constructor
    · intro h2
      have := xor_lt hj h2
      rwa [Nat.xor_assoc, Nat.xor_self, Nat.xor_zero] at this
    · exact xor_lt hj
  rw [hlt]
  constructor
  · rintro ⟨h1, c, hc, h2⟩; exact ⟨h1, c, hc, (hold_xor (h c hc)).1 h2⟩
  · rintro ⟨h1, c, hc, h2⟩; exact ⟨h1, c, hc, (hold_xor (h c hc)).2 h2⟩

theorem Good.rest (h8 : n ≤ 8) (h : Good n on may i) (hi : i < n) {a b : List Cb} (ha : CubesOk n (sideS may i false) (i + 1) a) (hb : CubesOk n (sideS may i true) (i + 1) b)
    (ca : CovOk n (andNot (sideS on i false) (sideS may i true)) a) (cb : CovOk n (andNot (sideS on i true) (sideS may i false)) b) :
    Good n (restS n (sideS on i false) (sideS on i true) a b) (sideS may i false &&& sideS may i true) (i + 1) := by
  have hi8 : i < 8 := by omega
  have hlt : ∀ p y, p < 256 → putP p i y < 256 := fun p y hp => (putP_lt (n := 8) hi8).2 hp
  refine ⟨hi, fun p hp hq => ?_, fun p hp hq => ?_, fun p j hp hj => ?_, fun p j hp hj => ?_⟩
  · rw [restS_testBit, Bool.or_eq_true, Bool.and_eq_true, Bool.and_eq_true] at hq
    rw [Nat.testBit_and, Bool.and_eq_true]
    have one : ∀ (x : Bool) (l : List Cb), (sideS on i x).testBit p = true → (!(ptsU l n l.length).testBit p) = true → CovOk n (andNot (sideS on i x) (sideS may i (!x))) l → (sideS may i x).testBit p = true ∧ (sideS may i (!x)).testBit p = true := by
      intro x l h1 h2 hc
      have hm : (sideS may i x).testBit p = true := by
        rw [sideS_bit hi8 hp] at h1 ⊢
        exact h.sub _ (hlt p x hp) h1
      refine ⟨hm, Classical.byContradiction fun hn => ?_⟩
      have hpn : p < 2 ^ n := by
        rw [sideS_bit hi8 hp] at hm
        exact (putP_lt hi).1 (h.out _ (hlt p x hp) hm)
      have := hc p hpn (by rw [andNot_testBit, h1, Bool.eq_false_iff.2 hn]; rfl)
      rw [(ptsU_hold h8 p).2 ⟨hpn, this⟩] at h2
      cases h2
    rcases hq with ⟨h1, h2⟩ | ⟨h1, h2⟩
    · exact one false a h1 h2 ca
    · exact (one true b h1 h2 cb).symm
  · rw [Nat.testBit_and, Bool.and_eq_true] at hq
    obtain ⟨h1, h2⟩ := (sideS_testBit hi8).1 hq.1
    exact (putP_lt hi).1 (h.out _ (hlt p _ hp) h2)
  · have hpj : p ^^^ 2 ^ j < 256 := two8 j (by omega) p hp
    rw [restS_testBit, restS_testBit, pts_free h8 (by omega) (fun c hc => (ha c hc).2.2.1 j hj), pts_free h8 (by omega) (fun c hc => (hb c hc).2.2.1 j hj)]
    simp only [sideS_bit hi8 hp, sideS_bit hi8 hpj, putP_xor]
    split
    · rfl
    · rename_i hne
      rw [h.free _ j (hlt p _ hp) (by omega), h.free _ j (hlt p _ hp) (by omega)]
  · have hpj : p ^^^ 2 ^ j < 256 := two8 j (by omega) p hp
    simp only [Nat.testBit_and, sideS_bit hi8 hp, sideS_bit hi8 hpj, putP_xor]
    split
    · rfl
    · rename_i hne
      rw [h.freeM _ j (hlt p _ hp) (by omega), h.freeM _ j (hlt p _ hp) (by omega)]

theorem CubesOk.app {a b : List Cb} (ha : CubesOk n may i a) (hb : CubesOk n may i b) : CubesOk n may i (a ++ b) := fun c hc => (List.mem_append.1 hc).elim (ha c) (hb c)

/-! ### No cube is too much -/
end

/-! ### Steps of the walks -/
theorem int_eqS {s t : Nat} (h : ((wd s 0 : Nat) : Int) = ((wd t 0 : Nat) : Int) ∧ ((wd s 1 : Nat) : Int) = ((wd t 1 : Nat) : Int) ∧ ((wd s 2 : Nat) : Int) = ((wd t 2 : Nat) : Int) ∧ ((wd s 3 : Nat) : Int) = ((wd t 3 : Nat) : Int)) : eqS s t = true := by
  unfold eqS
  rw [decide_eq_true_eq]
  obtain ⟨h0, h1, h2, h3⟩ := h
  exact ⟨Int.ofNat_inj.1 h0, Int.ofNat_inj.1 h1, Int.ofNat_inj.1 h2, Int.ofNat_inj.1 h3⟩
theorem eqS_int {s t : Nat} (h : eqS s t = true) : ((wd s 0 : Nat) : Int) = ((wd t 0 : Nat) : Int) ∧ ((wd s 1 : Nat) : Int) = ((wd t 1 : Nat) : Int) ∧ ((wd s 2 : Nat) : Int) = ((wd t 2 : Nat) : Int) ∧ ((wd s 3 : Nat) : Int) = ((wd t 3 : Nat) : Int) := by
  unfold eqS at h
  rw [decide_eq_true_eq] at h
  obtain ⟨h0, h1, h2, h3⟩ := h
  exact ⟨by rw [h0], by rw [h1], by rw [h2], by rw [h3]⟩
/-! ### Grown cubes -/
end Go.Proofs.YtnkaebjaeaecmaaGreatDoor
