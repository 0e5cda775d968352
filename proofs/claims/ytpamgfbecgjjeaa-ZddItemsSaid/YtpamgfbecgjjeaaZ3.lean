/-
  What deeds with two families come to: item by item; how many nodes they may need. No program in it.
-/
import Derived.Test.YtpamgfbecgjjeaaZ2
namespace Go.Proofs.Ytpamgfbecgjjeaa
set_option linter.unusedVariables false
set_option linter.unusedSimpArgs false
open Go Go.RowKit

abbrev M (ns : List Nd) (f : Nat) : Nat → Prop := fun x => x ∈ mems ns f
theorem M_pre {ns ns' : List Nd} {f : Nat} (hp : ns <+: ns') (h : f < ns.length + 2) : M ns' f = M ns f := by
  unfold M; rw [mems_pre hp h]
/-- All members stand above a level. -/
def lev (l : Nat) (P : Nat → Prop) : Prop := ∀ x, P x → 2 ^ (l + 1) ∣ x
theorem lev_M {ns : List Nd} (h : Wf ns) {f l : Nat} (hf : f < ns.length + 2) (hl : l < lvl ns f) : lev l (M ns f) := fun x hx => dvd_lt hl (mems_bits h f hf x hx).1
theorem set_ext' {P Q : Nat → Prop} (h : ∀ x, P x ↔ Q x) : P = Q := funext fun x => propext (h x)

/-! ### Numbers as sets -/
theorem or_up1 {l a b : Nat} (ha : 2 ^ (l + 1) ∣ a) (hb : 2 ^ (l + 1) ∣ b) : (a + 2 ^ l) ||| b = (a ||| b) + 2 ^ l ∧ a ||| (b + 2 ^ l) = (a ||| b) + 2 ^ l ∧ (a + 2 ^ l) ||| (b + 2 ^ l) = (a ||| b) + 2 ^ l ∧ 2 ^ (l + 1) ∣ a ||| b := by
  obtain ⟨p, rfl⟩ := ha
  obtain ⟨q, rfl⟩ := hb
  have sh : ∀ u v : Nat, 2 ^ l * u ||| 2 ^ l * v = 2 ^ l * (u ||| v) := fun u v => by
    rw [Nat.mul_comm, Nat.mul_comm (2 ^ l) v, Nat.mul_comm (2 ^ l) (u ||| v), ← Nat.shiftLeft_eq, ← Nat.shiftLeft_eq, ← Nat.shiftLeft_eq, Nat.shiftLeft_or_distrib]
  have e0 : ∀ u : Nat, 2 ^ (l + 1) * u = 2 ^ l * (2 * u) := fun u => by rw [Nat.pow_succ, Nat.mul_assoc]
  have e1 : ∀ u : Nat, 2 ^ l * (2 * u) + 2 ^ l = 2 ^ l * (2 * u + 1) := fun u => by rw [Nat.mul_add, Nat.mul_one]
  have b0 : ∀ u v : Nat, 2 * u ||| 2 * v = 2 * (u ||| v) := fun u v => by
    have := fun u v => (Nat.shiftLeft_or_distrib (a := u) (b := v) (i := 1))
    simp only [Nat.shiftLeft_eq, Nat.pow_one] at this
    rw [Nat.mul_comm 2 u, Nat.mul_comm 2 v, Nat.mul_comm 2 (u ||| v), this]
  have odd : ∀ u v : Nat, (u % 2 = 1 ∨ v % 2 = 1) → u ||| v = 2 * (u / 2 ||| v / 2) + 1 := fun u v h => by
    refine Nat.eq_of_testBit_eq fun i => ?_
    cases i with
    | zero =>
      rw [Nat.testBit_or, Nat.testBit_zero, Nat.testBit_zero, Nat.testBit_zero]
      rcases h with h | h <;> simp [h] <;> omega
    | succ i =>
      rw [Nat.testBit_or, Nat.testBit_succ, Nat.testBit_succ, Nat.testBit_succ, ← Nat.testBit_or]
      congr 1
      omega
  have o1 : (2 * p + 1) ||| (2 * q) = 2 * (p ||| q) + 1 := by
    rw [odd _ _ (.inl (by omega)), show (2 * p + 1) / 2 = p by omega, show 2 * q / 2 = q by omega]
  have o2 : (2 * p) ||| (2 * q + 1) = 2 * (p ||| q) + 1 := by
    rw [odd _ _ (.inr (by omega)), show (2 * q + 1) / 2 = q by omega, show 2 * p / 2 = p by omega]
  have o3 : (2 * p + 1) ||| (2 * q + 1) = 2 * (p ||| q) + 1 := by
    rw [odd _ _ (.inl (by omega)), show (2 * p + 1) / 2 = p by omega, show (2 * q + 1) / 2 = q by omega]
  rw [e0, e0, e1, e1]
  refine ⟨?_, ?_, ?_, ?_⟩
  · rw [sh, sh, o1, b0, e1]
  · rw [sh, sh, o2, b0, e1]
  · rw [sh, sh, o3, b0, e1]
  · exact ⟨p ||| q, by rw [sh, b0, e0]⟩

/-- Does x hold y? -/
def holdsN (x y : Nat) : Prop := x ||| y = x
theorem up_dj {l : Nat} {P Q : Nat → Prop} (hP : lev l P) (hQ : lev l Q) {x : Nat} : (x.testBit l = false → (up l P Q x ↔ P x)) ∧ ∀ y, 2 ^ (l + 1) ∣ y → (up l P Q (y + 2 ^ l) ↔ Q y) := by
  refine ⟨fun hb => ⟨fun h => ?_, .inl⟩, fun y hy => ⟨fun h => ?_, fun h => .inr ⟨y, h, rfl⟩⟩⟩
  · rcases h with h | ⟨y, hy, rfl⟩
    · exact h
    · rw [bit_set (hQ y hy)] at hb; cases hb
  · rcases h with h | ⟨z, hz, e⟩
    · have := bit_clear (hP _ h)
      rw [bit_set hy] at this; cases this
    · obtain rfl : y = z := by omega
      exact hz

/-! ### Deeds -/
structure Op where
  res : (Nat → Prop) → (Nat → Prop) → Nat → Prop
  resH : (Nat → Prop) → (Nat → Prop) → (Nat → Prop) → (Nat → Prop) → Nat → Prop
  ends : Nat → Nat → Nat × Bool
  cst : Nat → Nat → Nat → Nat
  hcst : Nat → Nat → Nat → Nat → Nat → Nat
structure OpOk (o : Op) : Prop where
  dec : ∀ l A0 A1 B0 B1, lev l A0 → lev l A1 → lev l B0 → lev l B1 → ∀ x, o.res (up l A0 A1) (up l B0 B1) x ↔ up l (o.res A0 B0) (o.resH A0 A1 B0 B1) x
  endT : ∀ ns f g, Wf ns → f < ns.length + 2 → g < ns.length + 2 → (o.ends f g).2 = true → (o.ends f g).1 < ns.length + 2 ∧ min (lvl ns f) (lvl ns g) ≤ lvl ns (o.ends f g).1 ∧ ∀ x, x ∈ mems ns (o.ends f g).1 ↔ o.res (M ns f) (M ns g) x
  endF : ∀ f g, (o.ends f g).2 = false → f ≠ 0 ∧ g ≠ 0 ∧ ¬ (f < 2 ∧ g < 2)
  cost : ∀ k k1 a0 a1 b0 b1, k1 < k → 1 ≤ a0 + a1 → 1 ≤ b0 + b1 → o.cst k1 a0 b0 + o.hcst k a0 a1 b0 b1 + 1 ≤ o.cst k (a0 + a1) (b0 + b1)

def cstP (k a b : Nat) : Nat := k * min a b
def hcstP (k a0 a1 b0 b1 : Nat) : Nat := (k - 1) * min a1 b1
theorem costP : ∀ k k1 a0 a1 b0 b1, k1 < k → 1 ≤ a0 + a1 → 1 ≤ b0 + b1 → cstP k1 a0 b0 + hcstP k a0 a1 b0 b1 + 1 ≤ cstP k (a0 + a1) (b0 + b1) := by
  intro k k1 a0 a1 b0 b1 hk h1 h2
  unfold cstP hcstP
  obtain ⟨m, rfl⟩ : ∃ m, k = m + 1 := ⟨k - 1, by omega⟩
  rw [Nat.add_sub_cancel]
  have e1 : k1 * min a0 b0 ≤ m * min a0 b0 := Nat.mul_le_mul_right _ (by omega)
  have e2 : m * min a0 b0 + m * min a1 b1 ≤ m * min (a0 + a1) (b0 + b1) := by
    rw [← Nat.mul_add]
    exact Nat.mul_le_mul_left _ (by omega)
  have e3 : 1 ≤ min (a0 + a1) (b0 + b1) := by omega
  rw [Nat.add_mul, Nat.one_mul]
  omega
def opU : Op := ⟨fun F G x => F x ∨ G x, fun _ A1 _ B1 x => A1 x ∨ B1 x, fun f g => if f = 0 ∨ f = g then (g, true) else (f, decide (g = 0)), cstP, hcstP⟩
def opM : Op := ⟨fun F G x => F x ∧ G x, fun _ A1 _ B1 x => A1 x ∧ B1 x, fun f g => if f = 0 ∨ g = 0 then (0, true) else (f, decide (f = g)), cstP, hcstP⟩
def opL : Op := ⟨fun F G x => F x ∧ ¬ G x, fun _ A1 _ B1 x => A1 x ∧ ¬ B1 x, fun f g => if f = 0 ∨ f = g then (0, true) else (f, decide (g = 0)), cstP, hcstP⟩
theorem M_0 (ns : List Nd) (x : Nat) : ¬ M ns 0 x := by unfold M; rw [mems_0]; exact fun h => by cases h
theorem lvl0 (ns : List Nd) : lvl ns 0 = 24 := lvl_small (by decide)

theorem opU_ok : OpOk opU := by
  refine ⟨fun l A0 A1 B0 B1 _ _ _ _ x => ?_, fun ns f g h hf hg ht => ?_, fun f g hf => ?_, costP⟩
  · simp only [opU, up]
    constructor
    · rintro ((h | ⟨y, h, e⟩) | (h | ⟨y, h, e⟩))
      · exact .inl (.inl h)
      · exact .inr ⟨y, .inl h, e⟩
      · exact .inl (.inr h)
      · exact .inr ⟨y, .inr h, e⟩
    · rintro ((h | h) | ⟨y, h | h, e⟩)
      · exact .inl (.inl h)
      · exact .inr (.inl h)
      · exact .inl (.inr ⟨y, h, e⟩)
      · exact .inr (.inr ⟨y, h, e⟩)
  · simp only [opU] at ht ⊢
    by_cases hc : f = 0 ∨ f = g
    · rw [if_pos hc]
      refine ⟨hg, Nat.min_le_right _ _, fun x => ⟨.inr, fun h => ?_⟩⟩
      rcases h with h | h
      · rcases hc with rfl | rfl
        · exact absurd h (M_0 ns x)
        · exact h
      · exact h
    · rw [if_neg hc] at ht ⊢
      obtain rfl : g = 0 := of_decide_eq_true ht
      exact ⟨hf, Nat.min_le_left _ _, fun x => ⟨.inl, fun h => h.elim id (fun h => absurd h (M_0 ns x))⟩⟩
  · simp only [opU] at hf
    by_cases hc : f = 0 ∨ f = g
    · rw [if_pos hc] at hf; cases hf
    · rw [if_neg hc] at hf
      have := of_decide_eq_false hf
      omega
theorem opM_ok : OpOk opM := by
  refine ⟨fun l A0 A1 B0 B1 hA0 hA1 hB0 hB1 x => ?_, fun ns f g h hf hg ht => ?_, fun f g hf => ?_, costP⟩
  · simp only [opM]
    constructor
    · rintro ⟨h, k⟩
      rcases h with h | ⟨y, h, rfl⟩
      · exact .inl ⟨h, ((up_dj hB0 hB1).1 (bit_clear (hA0 x h))).1 k⟩
      · exact .inr ⟨y, ⟨h, ((up_dj (x := 0) hB0 hB1).2 y (hA1 y h)).1 k⟩, rfl⟩
    · rintro (⟨h, k⟩ | ⟨y, ⟨h, k⟩, rfl⟩)
      · exact ⟨.inl h, .inl k⟩
      · exact ⟨.inr ⟨y, h, rfl⟩, .inr ⟨y, k, rfl⟩⟩
  · simp only [opM] at ht ⊢
    have := lvl_le h hf
    by_cases hc : f = 0 ∨ g = 0
    · rw [if_pos hc]
      refine ⟨by omega, by rw [lvl0]; omega, fun x => ⟨fun k => absurd k (M_0 ns x), fun ⟨h1, h2⟩ => ?_⟩⟩
      rcases hc with rfl | rfl
      · exact absurd h1 (M_0 ns x)
      · exact absurd h2 (M_0 ns x)
    · rw [if_neg hc] at ht ⊢
      obtain rfl : f = g := of_decide_eq_true ht
      exact ⟨hf, Nat.min_le_left _ _, fun x => ⟨fun k => ⟨k, k⟩, fun k => k.1⟩⟩
  · simp only [opM] at hf
    by_cases hc : f = 0 ∨ g = 0
    · rw [if_pos hc] at hf; cases hf
    · rw [if_neg hc] at hf
      have := of_decide_eq_false hf
      omega
theorem opL_ok : OpOk opL := by
  refine ⟨fun l A0 A1 B0 B1 hA0 hA1 hB0 hB1 x => ?_, fun ns f g h hf hg ht => ?_, fun f g hf => ?_, costP⟩
  · simp only [opL]
    constructor
    · rintro ⟨h, k⟩
      rcases h with h | ⟨y, h, rfl⟩
      · exact .inl ⟨h, fun q => k (.inl q)⟩
      · exact .inr ⟨y, ⟨h, fun q => k (.inr ⟨y, q, rfl⟩)⟩, rfl⟩
    · rintro (⟨h, k⟩ | ⟨y, ⟨h, k⟩, rfl⟩)
      · exact ⟨.inl h, fun q => k (((up_dj hB0 hB1).1 (bit_clear (hA0 x h))).1 q)⟩
      · exact ⟨.inr ⟨y, h, rfl⟩, fun q => k (((up_dj (x := 0) hB0 hB1).2 y (hA1 y h)).1 q)⟩
  · simp only [opL] at ht ⊢
    have := lvl_le h hf
    by_cases hc : f = 0 ∨ f = g
    · rw [if_pos hc]
      refine ⟨by omega, by rw [lvl0]; omega, fun x => ⟨fun k => absurd k (M_0 ns x), fun ⟨h1, h2⟩ => ?_⟩⟩
      rcases hc with rfl | rfl
      · exact absurd h1 (M_0 ns x)
      · exact absurd h1 h2
    · rw [if_neg hc] at ht ⊢
      obtain rfl : g = 0 := of_decide_eq_true ht
      exact ⟨hf, Nat.min_le_left _ _, fun x => ⟨fun k => ⟨k, M_0 ns x⟩, fun k => k.1⟩⟩
  · simp only [opL] at hf
    by_cases hc : f = 0 ∨ f = g
    · rw [if_pos hc] at hf; cases hf
    · rw [if_neg hc] at hf
      have := of_decide_eq_false hf
      omega

/-! ### Join -/
def tri : Nat → Nat
  | 0 => 0
  | k + 1 => tri k + (k + 1)
theorem tri_mono : ∀ {a b : Nat}, a ≤ b → tri a ≤ tri b := fun {a b} h => by
  obtain ⟨d, rfl⟩ : ∃ d, b = a + d := ⟨b - a, by omega⟩
  clear h
  induction d with
  | zero => exact Nat.le_refl _
  | succ d ih => show tri a ≤ tri (a + d) + _; omega
def joinS (F G : Nat → Prop) (x : Nat) : Prop := ∃ a b, F a ∧ G b ∧ x = a ||| b
def opJ : Op := ⟨joinS, fun A0 A1 B0 B1 x => joinS A1 B0 x ∨ joinS A0 B1 x ∨ joinS A1 B1 x, fun f g => if f = 0 ∨ g = 0 then (0, true) else if f = 1 then (g, true) else (f, decide (g = 1)), fun k a b => tri k * (a * b), fun k a0 a1 b0 b1 => (tri (k - 1) + (k - 1)) * (a1 * b0 + a0 * b1 + a1 * b1)⟩
theorem opJ_ok : OpOk opJ := by
  refine ⟨fun l A0 A1 B0 B1 hA0 hA1 hB0 hB1 x => ?_, fun ns f g h hf hg ht => ?_, fun f g hf => ?_, fun k k1 a0 a1 b0 b1 hk h1 h2 => ?_⟩
  · simp only [opJ, joinS]
    constructor
    · rintro ⟨a, b, ha | ⟨p, ha, rfl⟩, hb | ⟨q, hb, rfl⟩, rfl⟩
      · exact .inl ⟨a, b, ha, hb, rfl⟩
      · exact .inr ⟨a ||| q, .inr (.inl ⟨a, q, ha, hb, rfl⟩), (or_up1 (hA0 a ha) (hB1 q hb)).2.1⟩
      · exact .inr ⟨p ||| b, .inl ⟨p, b, ha, hb, rfl⟩, (or_up1 (hA1 p ha) (hB0 b hb)).1⟩
      · exact .inr ⟨p ||| q, .inr (.inr ⟨p, q, ha, hb, rfl⟩), (or_up1 (hA1 p ha) (hB1 q hb)).2.2.1⟩
    · rintro (⟨a, b, ha, hb, rfl⟩ | ⟨y, ⟨a, b, ha, hb, rfl⟩ | ⟨a, b, ha, hb, rfl⟩ | ⟨a, b, ha, hb, rfl⟩, rfl⟩)
      · exact ⟨a, b, .inl ha, .inl hb, rfl⟩
      · exact ⟨a + 2 ^ l, b, .inr ⟨a, ha, rfl⟩, .inl hb, (or_up1 (hA1 a ha) (hB0 b hb)).1.symm⟩
      · exact ⟨a, b + 2 ^ l, .inl ha, .inr ⟨b, hb, rfl⟩, (or_up1 (hA0 a ha) (hB1 b hb)).2.1.symm⟩
      · exact ⟨a + 2 ^ l, b + 2 ^ l, .inr ⟨a, ha, rfl⟩, .inr ⟨b, hb, rfl⟩, (or_up1 (hA1 a ha) (hB1 b hb)).2.2.1.symm⟩
  · have hm1 : ∀ x, M ns 1 x ↔ x = 0 := fun x => by unfold M; rw [mems_1]; exact List.mem_singleton
    simp only [opJ] at ht ⊢
    have := lvl_le h hf
    by_cases hc : f = 0 ∨ g = 0
    · rw [if_pos hc]
      refine ⟨by omega, by rw [lvl0]; omega, fun x => ⟨fun k => absurd k (M_0 ns x), fun ⟨a, b, h1, h2, _⟩ => ?_⟩⟩
      rcases hc with rfl | rfl
      · exact absurd h1 (M_0 ns a)
      · exact absurd h2 (M_0 ns b)
    · rw [if_neg hc] at ht ⊢
      by_cases h1 : f = 1
      · subst h1
        rw [if_pos rfl]
        refine ⟨hg, Nat.min_le_right _ _, fun x => ⟨fun k => ⟨0, x, (hm1 0).2 rfl, k, by simp⟩, ?_⟩⟩
        rintro ⟨a, b, ha, hb, rfl⟩
        rw [(hm1 a).1 ha, Nat.zero_or]
        exact hb
      · rw [if_neg h1] at ht ⊢
        obtain rfl : g = 1 := of_decide_eq_true ht
        refine ⟨hf, Nat.min_le_left _ _, fun x => ⟨fun k => ⟨x, 0, k, (hm1 0).2 rfl, by simp⟩, ?_⟩⟩
        rintro ⟨a, b, ha, hb, rfl⟩
        rw [(hm1 b).1 hb, Nat.or_zero]
        exact ha
  · simp only [opJ] at hf
    by_cases hc : f = 0 ∨ g = 0
    · rw [if_pos hc] at hf; cases hf
    · rw [if_neg hc] at hf
      by_cases h1 : f = 1
      · rw [if_pos h1] at hf; cases hf
      · rw [if_neg h1] at hf
        have := of_decide_eq_false hf
        omega
  · simp only [opJ]
    obtain ⟨m, rfl⟩ : ∃ m, k = m + 1 := ⟨k - 1, by omega⟩
    rw [Nat.add_sub_cancel]
    have e1 : tri k1 * (a0 * b0) ≤ (tri m + m) * (a0 * b0) := Nat.mul_le_mul_right _ (by have := tri_mono (show k1 ≤ m by omega); omega)
    have e2 : (a0 + a1) * (b0 + b1) = a0 * b0 + (a1 * b0 + a0 * b1 + a1 * b1) := by
      rw [Nat.add_mul, Nat.mul_add, Nat.mul_add]; omega
    have e3 : 1 ≤ (a0 + a1) * (b0 + b1) := Nat.mul_pos h1 h2
    have e4 : tri (m + 1) = (tri m + m) + 1 := by show tri m + (m + 1) = _; omega
    rw [e4, Nat.add_mul (tri m + m) 1, Nat.one_mul]
    have e5 : (tri m + m) * ((a0 + a1) * (b0 + b1)) = (tri m + m) * (a0 * b0) + (tri m + m) * (a1 * b0 + a0 * b1 + a1 * b1) := by rw [e2, Nat.mul_add]
    omega

/-! ### What has been done -/
def key2 (p : Nat × Nat) : Value := .agg #[.int .i64 (p.1 : Int), .int .i64 (p.2 : Int)]
theorem key2_inj (a b : Nat × Nat) (h : key2 a = key2 b) : a = b := by
  obtain ⟨a1, a2⟩ := a
  obtain ⟨b1, b2⟩ := b
  simp only [key2, Value.agg.injEq, Array.mk.injEq, List.cons.injEq, Value.int.injEq, true_and, and_true] at h
  simp only [Prod.mk.injEq]
  omega
structure DoneP (res : (Nat → Prop) → (Nat → Prop) → Nat → Prop) (ns : List Nd) (p : (Nat × Nat) × Int) : Prop where
  v1 : p.1.1 < ns.length + 2
  v2 : p.1.2 < ns.length + 2
  id : ∃ id : Nat, p.2 = (id : Int) ∧ id < ns.length + 2 ∧ min (lvl ns p.1.1) (lvl ns p.1.2) ≤ lvl ns id ∧ ∀ x, x ∈ mems ns id ↔ res (M ns p.1.1) (M ns p.1.2) x
def Done (res : (Nat → Prop) → (Nat → Prop) → Nat → Prop) (ns : List Nd) (dl : List ((Nat × Nat) × Int)) : Prop := ∀ p, p ∈ dl → DoneP res ns p
theorem DoneP.pre {res : (Nat → Prop) → (Nat → Prop) → Nat → Prop} {ns ns' : List Nd} {p : (Nat × Nat) × Int} (hp : ns <+: ns') (h : DoneP res ns p) : DoneP res ns' p := by
  have hl := pre_len hp
  obtain ⟨id, h1, h2, h3, h4⟩ := h.id
  refine ⟨by have := h.v1; omega, by have := h.v2; omega, id, h1, by omega, ?_, ?_⟩
  · rw [lvl_pre hp h.v1, lvl_pre hp h.v2, lvl_pre hp h2]; exact h3
  · rw [M_pre hp h.v1, M_pre hp h.v2, mems_pre hp h2]; exact h4
theorem Done.pre {res : (Nat → Prop) → (Nat → Prop) → Nat → Prop} {ns ns' : List Nd} {dl : List ((Nat × Nat) × Int)} (hp : ns <+: ns') (h : Done res ns dl) : Done res ns' dl := fun p q => (h p q).pre hp
theorem mem_putL {α β : Type} [DecidableEq α] {l : List (α × β)} {k : α} {v : β} {p : α × β} (h : p ∈ putL l k v) : p ∈ l ∨ p = (k, v) := by
  unfold putL at h
  split at h
  · obtain ⟨q, hq, e⟩ := List.mem_map.1 h
    split at e
    · exact .inr e.symm
    · exact .inl (e ▸ hq)
  · rcases List.mem_append.1 h with h | h
    · exact .inl h
    · exact .inr (by simpa using h)
theorem getL_mem {α β : Type} [DecidableEq α] : ∀ {l : List (α × β)} {k : α} {v : β}, getL l k = some v → (k, v) ∈ l
  | [], _, _, h => by cases h
  | (a, b) :: r, k, v, h => by
    simp only [getL] at h
    by_cases e : a = k
    · rw [if_pos e] at h
      cases h; subst e
      exact List.mem_cons_self ..
    · rw [if_neg e] at h
      exact List.mem_cons_of_mem _ (getL_mem h)

/-! ### A deed's own step -/
section
variable {o : Op} {ns ns1 ns2 ns3 : List Nd} {R f g l l1 l2 c1 c2 c low high id : Nat} {er : Int}
theorem do_got (ho : OpOk o) (h : Wf ns) (hf : f < ns.length + 2) (hg : g < ns.length + 2) (hl : l = min (lvl ns f) (lvl ns g)) (h24 : l < 24)
    (g1 : Got ns ns1 R c1 l1 (o.res (M ns (halfA ns f l)) (M ns (halfA ns g l))) low 0)
    (g2 : Got ns1 ns2 R c2 l2 (o.resH (M ns1 (halfA ns f l)) (M ns1 (halfB ns f l)) (M ns1 (halfA ns g l)) (M ns1 (halfB ns g l))) high 0)
    (g3 : Got ns2 ns3 R 1 l (up l (M ns2 low) (M ns2 high)) id er) (hc : c1 + c2 + 1 ≤ c) : Got ns ns3 R c l (o.res (M ns f) (M ns g)) id er := by
  have H1 := half_of h hf (l := l) (by omega) h24
  have H2 := half_of h hg (l := l) (by omega) h24
  refine (((Got.then' g1 g2 (Nat.le_refl _)).then' g3 (Nat.le_refl _)).weak (c := c) (by omega) fun x => ?_)
  obtain ⟨v1, _, m1⟩ := g1.ok rfl
  obtain ⟨v2, _, m2⟩ := g2.ok rfl
  have eF : M ns f = up l (M ns (halfA ns f l)) (M ns (halfB ns f l)) := set_ext' H1.mem
  have eG : M ns g = up l (M ns (halfA ns g l)) (M ns (halfB ns g l)) := set_ext' H2.mem
  rw [eF, eG, ho.dec l _ _ _ _ (lev_M h H1.va H1.la) (lev_M h H1.vb H1.lb) (lev_M h H2.va H2.la) (lev_M h H2.vb H2.lb)]
  have e1 : M ns2 low = o.res (M ns (halfA ns f l)) (M ns (halfA ns g l)) := by
    rw [M_pre g2.pre v1]; exact set_ext' m1
  have e2 : M ns2 high = o.resH (M ns (halfA ns f l)) (M ns (halfB ns f l)) (M ns (halfA ns g l)) (M ns (halfB ns g l)) := by
    rw [← M_pre g1.pre H1.va, ← M_pre g1.pre H1.vb, ← M_pre g1.pre H2.va, ← M_pre g1.pre H2.vb]; exact set_ext' m2
  rw [e1, e2]
end

end Go.Proofs.Ytpamgfbecgjjeaa
