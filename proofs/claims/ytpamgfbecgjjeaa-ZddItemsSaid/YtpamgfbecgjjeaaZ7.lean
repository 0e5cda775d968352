/-
  Building a family, its parts by an item, what holds none of another one, and the least. No program in it.
-/
import Derived.Test.YtpamgfbecgjjeaaZ6
namespace Go.Proofs.Ytpamgfbecgjjeaa
set_option linter.unusedVariables false
set_option linter.unusedSimpArgs false
open Go Go.RowKit

theorem and1_bit {n l : Nat} : ((n / 2 ^ l &&& 1 : Nat) : Int) = 1 ↔ n.testBit l = true := by
  rw [Nat.and_one_is_mod, Nat.testBit_eq_decide_div_mod_eq, decide_eq_true_eq]
  omega
section
variable {P : Program} {f : Nat → Value} {w : World} {d : Option Nat} {ty : TypeId} {ps : String} {af : Array Edge} {g : Option (Nat × Bool)} {x y : Operand} {t t2 : TypeId}
theorem r_shrI {a b : Int} {yk : IntKind} (hx : evF f x = .int .i64 a) (hy : evF f y = .int yk b) (h0 : 0 ≤ a) (hb : 0 ≤ b) (hl : b ≤ 64) : (execOp (evF f) ⟨d, .binOp .shr t x y t2, ty, ps, af, g⟩).run P w = .ok (.value (.int .i64 ((a.toNat / 2 ^ b.toNat : Nat) : Int))) w := by
  obtain ⟨m, rfl⟩ := Int.eq_ofNat_of_zero_le h0
  rw [r_shr hx hy hb (by simpa [IntKind.bits] using hl), Int.toNat_natCast]
end

/-! ### Building -/
def clr (n l : Nat) : Nat := n / 2 ^ l * 2 ^ l
theorem clr_s (n l : Nat) : clr n l = clr n (l + 1) + (if n.testBit l then 2 ^ l else 0) := by
  unfold clr
  have e : n / 2 ^ (l + 1) = n / 2 ^ l / 2 := by rw [Nat.div_div_eq_div_mul, Nat.pow_succ]
  have hb : n.testBit l = decide (n / 2 ^ l % 2 = 1) := Nat.testBit_eq_decide_div_mod_eq
  rw [e, hb, Nat.pow_succ]
  have h2 := Nat.div_add_mod (n / 2 ^ l) 2
  generalize n / 2 ^ l = q at *
  generalize 2 ^ l = p at *
  by_cases h : q % 2 = 1
  · rw [if_pos (decide_eq_true h)]
    rw [h] at h2
    conv => lhs; rw [← h2]
    rw [Nat.add_mul, Nat.one_mul]
    congr 1
    rw [Nat.mul_comm 2, Nat.mul_assoc, Nat.mul_comm 2 p]
  · have h0 : q % 2 = 0 := by omega
    rw [if_neg (by simpa using h)]
    rw [h0] at h2
    conv => lhs; rw [← h2]
    rw [Nat.add_zero, Nat.add_zero, Nat.mul_comm 2, Nat.mul_assoc, Nat.mul_comm 2 p]
theorem clr_24 {n : Nat} (h : n < 2 ^ 24) : clr n 24 = 0 := by
  unfold clr; rw [Nat.div_eq_of_lt h, Nat.zero_mul]
theorem clr_0 (n : Nat) : clr n 0 = n := by unfold clr; simp
def bS (l : List Int) (lv : Nat) (x : Nat) : Prop := ∃ m, m ∈ l ∧ x = clr m.toNat lv
def woT (l : List Int) (lv k : Nat) : List Int := (l.take k).filter fun m => !m.toNat.testBit lv
def wiT (l : List Int) (lv k : Nat) : List Int := (l.take k).filter fun m => m.toNat.testBit lv
theorem take_s {l : List Int} {k : Nat} (h : k < l.length) : l.take (k + 1) = l.take k ++ [l.getD k 0] := by
  rw [List.take_add_one, List.getD_eq_getElem?_getD, List.getElem?_eq_getElem h]; rfl
theorem wi_t {l : List Int} {lv k : Nat} (h : k < l.length) (hb : (l.getD k 0).toNat.testBit lv = true) : wiT l lv k ++ [l.getD k 0] = wiT l lv (k + 1) ∧ woT l lv k = woT l lv (k + 1) := by
  unfold wiT woT
  rw [take_s h, List.filter_append, List.filter_append]
  simp only [List.filter_cons, List.filter_nil, hb, Bool.not_true, if_true]
  simp
theorem wi_f {l : List Int} {lv k : Nat} (h : k < l.length) (hb : ¬ (l.getD k 0).toNat.testBit lv = true) : woT l lv k ++ [l.getD k 0] = woT l lv (k + 1) ∧ wiT l lv k = wiT l lv (k + 1) := by
  have hb2 : (l.getD k 0).toNat.testBit lv = false := Bool.eq_false_iff.2 hb
  unfold wiT woT
  rw [take_s h, List.filter_append, List.filter_append]
  simp only [List.filter_cons, List.filter_nil, hb2, Bool.not_false, if_true]
  simp
theorem wo_len (l : List Int) (lv : Nat) : ∀ k, (woT l lv k).length + (wiT l lv k).length = (l.take k).length := fun k => by
  unfold woT wiT
  generalize l.take k = q
  induction q with
  | nil => rfl
  | cons a q ih =>
    simp only [List.filter_cons]
    cases a.toNat.testBit lv <;> simp <;> omega
theorem wo_mem {l : List Int} {lv k : Nat} {m : Int} (h : m ∈ woT l lv k) : m ∈ l := List.mem_of_mem_take (List.mem_filter.1 h).1
theorem wi_mem {l : List Int} {lv k : Nat} {m : Int} (h : m ∈ wiT l lv k) : m ∈ l := List.mem_of_mem_take (List.mem_filter.1 h).1
theorem bS_split (l : List Int) (lv x : Nat) : up lv (bS (woT l lv l.length) (lv + 1)) (bS (wiT l lv l.length) (lv + 1)) x ↔ bS l lv x := by
  unfold up bS woT wiT
  rw [List.take_length]
  simp only [List.mem_filter]
  constructor
  · rintro (⟨m, ⟨h1, h2⟩, rfl⟩ | ⟨y, ⟨m, ⟨h1, h2⟩, rfl⟩, rfl⟩)
    · refine ⟨m, h1, ?_⟩
      have h3 : m.toNat.testBit lv = false := by simpa using h2
      rw [clr_s m.toNat lv, h3]; rfl
    · refine ⟨m, h1, ?_⟩
      rw [clr_s m.toNat lv, h2]; rfl
  · rintro ⟨m, h1, rfl⟩
    cases hb : m.toNat.testBit lv with
    | true => exact .inr ⟨_, ⟨m, ⟨h1, hb⟩, rfl⟩, by rw [clr_s m.toNat lv, hb]; rfl⟩
    | false => exact .inl ⟨m, ⟨h1, by rw [hb]; rfl⟩, by rw [clr_s m.toNat lv, hb]; rfl⟩
theorem build_got {ns ns1 ns2 ns3 : List Nd} {l : List Int} {R lv low high id : Nat} {er : Int} (h24 : lv < 24) (hl : 1 ≤ l.length)
    (g1 : Got ns ns1 R ((24 - (lv + 1)) * (woT l lv l.length).length) (lv + 1) (bS (woT l lv l.length) (lv + 1)) low 0) (g2 : Got ns1 ns2 R ((24 - (lv + 1)) * (wiT l lv l.length).length) (lv + 1) (bS (wiT l lv l.length) (lv + 1)) high 0)
    (g3 : Got ns2 ns3 R 1 lv (up lv (M ns2 low) (M ns2 high)) id er) : Got ns ns3 R ((24 - lv) * l.length) lv (bS l lv) id er := by
  obtain ⟨v1, _, m1⟩ := g1.ok rfl
  obtain ⟨v2, _, m2⟩ := g2.ok rfl
  have hw := wo_len l lv l.length
  rw [List.take_length] at hw
  refine ((g1.then' g2 (Nat.le_refl _)).then' g3 (Nat.le_refl _)).weak ?_ fun x => ?_
  · rw [← Nat.mul_add, hw, show 24 - lv = (24 - (lv + 1)) + 1 by omega, Nat.add_mul, Nat.one_mul]; omega
  · rw [← bS_split l lv x, show M ns2 low = bS (woT l lv l.length) (lv + 1) by rw [M_pre g2.pre v1]; exact set_ext' m1, show M ns2 high = bS (wiT l lv l.length) (lv + 1) from set_ext' m2]
theorem build_c1 {l : List Int} {lv : Nat} (h24 : lv < 24) : (24 - (lv + 1)) * (woT l lv l.length).length + (24 - (lv + 1)) * (wiT l lv l.length).length ≤ (24 - lv) * l.length := by
  have hw := wo_len l lv l.length
  rw [List.take_length] at hw
  rw [← Nat.mul_add, hw]
  exact Nat.mul_le_mul_right _ (by omega)
theorem build_0 {ns : List Nd} {l : List Int} {lv : Nat} (h : ¬ (1 ≤ l.length)) (x : Nat) : x ∈ mems ns 0 ↔ bS l lv x := by
  rw [mems_0]
  have : l = [] := List.eq_nil_of_length_eq_zero (by omega)
  subst this
  exact ⟨fun h => (by cases h), fun ⟨m, h, _⟩ => (by cases h)⟩
theorem build_1 {ns : List Nd} {l : List Int} (h : 1 ≤ l.length) (hm : ∀ m, m ∈ l → 0 ≤ m ∧ m < 16777216) (x : Nat) : x ∈ mems ns 1 ↔ bS l 24 x := by
  rw [mems_1, List.mem_singleton]
  constructor
  · rintro rfl
    obtain ⟨m, hm2⟩ := List.exists_mem_of_length_pos (show 0 < l.length by omega)
    exact ⟨m, hm2, (clr_24 (by have := hm m hm2; omega)).symm⟩
  · rintro ⟨m, h2, rfl⟩
    exact clr_24 (by have := hm m h2; omega)

/-! ### Parts -/
theorem bit_over {y l j : Nat} (h : 2 ^ (l + 1) ∣ y) (hj : l < j) : (y + 2 ^ l).testBit j = y.testBit j := by
  obtain ⟨k, rfl⟩ := h
  obtain ⟨i, rfl⟩ : ∃ i, j = l + 1 + i := ⟨j - (l + 1), by omega⟩
  have key : ∀ n : Nat, n.testBit (l + 1 + i) = (n / 2 ^ (l + 1)).testBit i := fun n => by
    rw [Nat.testBit_div_two_pow, Nat.add_comm]
  rw [key, key, Nat.mul_div_cancel_left _ (Nat.two_pow_pos _), Nat.mul_add_div (Nat.two_pow_pos _), Nat.div_eq_of_lt (Nat.pow_lt_pow_right (by decide) (Nat.lt_succ_self l)), Nat.add_zero]
def pS (wi : Bool) (j : Nat) (F : Nat → Prop) (x : Nat) : Prop := if wi then (F (x + 2 ^ j) ∧ (x + 2 ^ j).testBit j = true) else (F x ∧ x.testBit j = false)
theorem bit_sub {n j : Nat} (h : n.testBit j = true) : 2 ^ j ≤ n := Nat.ge_two_pow_of_testBit h
theorem pS_none {F : Nat → Prop} {l j : Nat} (hF : ∀ x, F x → 2 ^ l ∣ x) (hj : j < l) : (∀ x, pS false j F x ↔ F x) ∧ ∀ x, ¬ pS true j F x := by
  refine ⟨fun x => ⟨fun h => h.1, fun h => ⟨h, bit_clear (dvd_lt hj (hF x h))⟩⟩, fun x h => ?_⟩
  have h1 : F (x + 2 ^ j) ∧ (x + 2 ^ j).testBit j = true := h
  have := bit_clear (dvd_lt hj (hF _ h1.1))
  rw [h1.2] at this; cases this
theorem pS_here {A B : Nat → Prop} {l : Nat} (hA : lev l A) (hB : lev l B) : (∀ x, pS false l (up l A B) x ↔ A x) ∧ ∀ x, pS true l (up l A B) x ↔ B x := by
  refine ⟨fun x => ⟨fun h => ?_, fun h => ⟨.inl h, bit_clear (hA x h)⟩⟩, fun x => ⟨fun h => ?_, fun h => ⟨.inr ⟨x, h, rfl⟩, bit_set (hB x h)⟩⟩⟩
  · have h1 : up l A B x ∧ x.testBit l = false := h
    exact ((up_dj hA hB).1 h1.2).1 h1.1
  · have h1 : up l A B (x + 2 ^ l) ∧ (x + 2 ^ l).testBit l = true := h
    rcases h1.1 with h2 | ⟨y, h2, e⟩
    · have := bit_clear (hA _ h2)
      rw [h1.2] at this; cases this
    · obtain rfl : x = y := by omega
      exact h2
theorem pS_over {wi : Bool} {A B : Nat → Prop} {l j : Nat} (hA : lev l A) (hB : lev l B) (hj : l < j) (x : Nat) : pS wi j (up l A B) x ↔ up l (pS wi j A) (pS wi j B) x := by
  cases wi with
  | false =>
    constructor
    · intro h
      have h1 : up l A B x ∧ x.testBit j = false := h
      rcases h1.1 with h2 | ⟨y, h2, rfl⟩
      · exact .inl ⟨h2, h1.2⟩
      · exact .inr ⟨y, ⟨h2, by rw [← bit_over (hB y h2) hj]; exact h1.2⟩, rfl⟩
    · rintro (h | ⟨y, h, rfl⟩)
      · have h1 : A x ∧ x.testBit j = false := h
        exact ⟨.inl h1.1, h1.2⟩
      · have h1 : B y ∧ y.testBit j = false := h
        exact ⟨.inr ⟨y, h1.1, rfl⟩, by rw [bit_over (hB y h1.1) hj]; exact h1.2⟩
  | true =>
    constructor
    · intro h
      have h1 : up l A B (x + 2 ^ j) ∧ (x + 2 ^ j).testBit j = true := h
      rcases h1.1 with h2 | ⟨y, h2, e⟩
      · exact .inl ⟨h2, h1.2⟩
      · have h3 := h1.2
        rw [e, bit_over (hB y h2) hj] at h3
        have h4 := bit_sub h3
        refine .inr ⟨y - 2 ^ j, ⟨?_, ?_⟩, by omega⟩
        · rw [Nat.sub_add_cancel h4]; exact h2
        · rw [Nat.sub_add_cancel h4]; exact h3
    · rintro (h | ⟨y, h, rfl⟩)
      · have h1 : A (x + 2 ^ j) ∧ (x + 2 ^ j).testBit j = true := h
        exact ⟨.inl h1.1, h1.2⟩
      · have h1 : B (y + 2 ^ j) ∧ (y + 2 ^ j).testBit j = true := h
        have e : y + 2 ^ l + 2 ^ j = y + 2 ^ j + 2 ^ l := by omega
        exact ⟨by rw [e]; exact .inr ⟨_, h1.1, rfl⟩, by rw [e, bit_over (hB _ h1.1) hj]; exact h1.2⟩
structure NodeOf (ns : List Nd) (f : Nat) (n : Nd) : Prop where
  vlo : n.lo < ns.length + 2
  vhi : n.hi < ns.length + 2
  llo : n.l < lvl ns n.lo
  lhi : n.l < lvl ns n.hi
  l24 : n.l < 24
  lv : lvl ns f = n.l
  mem : M ns f = up n.l (M ns n.lo) (M ns n.hi)
  cnt : (mems ns f).length = (mems ns n.lo).length + (mems ns n.hi).length
  ltlo : n.lo < f
  lthi : n.hi < f
  two : 2 ≤ f
theorem node_of {ns : List Nd} (h : Wf ns) {f : Nat} (hf : f < ns.length + 2) (ht : thereB ns (f : Int) = true) : NodeOf ns f (nodeI ns (f : Int)) := by
  obtain ⟨h2, hn, hl⟩ := nodeI_nat ht
  obtain ⟨i, rfl⟩ : ∃ i, f = i + 2 := ⟨f - 2, by omega⟩
  have hi : i < ns.length := by omega
  obtain ⟨a1, a2, a3, a4, a5, a6⟩ := h.ok i hi
  rw [hn, Nat.add_sub_cancel]
  refine ⟨by omega, by omega, a4, a5, a6, lvl_node i, set_ext' fun x => ?_, ?_, a1, a2, h2⟩
  · show x ∈ mems ns (i + 2) ↔ _
    rw [mems_node h hi, List.mem_append, List.mem_map]
    exact or_congr Iff.rfl ⟨fun ⟨y, p, q⟩ => ⟨y, p, q.symm⟩, fun ⟨y, p, q⟩ => ⟨y, p, q.symm⟩⟩
  · rw [mems_node h hi, List.length_append, List.length_map]
theorem no_node {ns : List Nd} {f : Nat} (hf : f < ns.length + 2) (ht : thereB ns (f : Int) = false) : f < 2 := by
  have := of_decide_eq_false ht
  omega
theorem part_got {ns ns1 ns2 ns3 : List Nd} {R f j low high id : Nat} {er : Int} {wi : Bool} {n : Nd} (h : Wf ns) (hn : NodeOf ns f n) (hj : n.l < j)
    (g1 : Got ns ns1 R ((24 - lvl ns n.lo) * (mems ns n.lo).length) (lvl ns n.lo) (pS wi j (M ns n.lo)) low 0) (g2 : Got ns1 ns2 R ((24 - lvl ns n.hi) * (mems ns n.hi).length) (lvl ns n.hi) (pS wi j (M ns n.hi)) high 0)
    (g3 : Got ns2 ns3 R 1 n.l (up n.l (M ns2 low) (M ns2 high)) id er) (hpos : 1 ≤ (mems ns f).length) : Got ns ns3 R ((24 - lvl ns f) * (mems ns f).length) (lvl ns f) (pS wi j (M ns f)) id er := by
  obtain ⟨v1, _, m1⟩ := g1.ok rfl
  obtain ⟨v2, _, m2⟩ := g2.ok rfl
  have l1 := hn.llo
  have l2 := hn.lhi
  have l24 := hn.l24
  rw [hn.lv]
  refine ((g1.then' g2 (Nat.le_refl _)).then' g3 (Nat.le_refl _)).weak ?_ fun x => ?_
  · have e1 : (24 - lvl ns n.lo) * (mems ns n.lo).length ≤ (24 - n.l - 1) * (mems ns n.lo).length := Nat.mul_le_mul_right _ (by omega)
    have e2 : (24 - lvl ns n.hi) * (mems ns n.hi).length ≤ (24 - n.l - 1) * (mems ns n.hi).length := Nat.mul_le_mul_right _ (by omega)
    have e3 : (24 - n.l) * (mems ns f).length = (24 - n.l - 1) * (mems ns n.lo).length + (24 - n.l - 1) * (mems ns n.hi).length + (mems ns f).length := by
      rw [← Nat.mul_add, ← hn.cnt]
      conv => lhs; rw [show 24 - n.l = (24 - n.l - 1) + 1 by omega, Nat.add_mul, Nat.one_mul]
    omega
  · rw [hn.mem, pS_over (lev_M h hn.vlo hn.llo) (lev_M h hn.vhi hn.lhi) hj, show M ns2 low = pS wi j (M ns n.lo) by rw [M_pre g2.pre v1]; exact set_ext' m1, show M ns2 high = pS wi j (M ns n.hi) from set_ext' m2]
theorem part_c {ns : List Nd} {f : Nat} {n : Nd} (hn : NodeOf ns f n) : (24 - lvl ns n.lo) * (mems ns n.lo).length + (24 - lvl ns n.hi) * (mems ns n.hi).length ≤ (24 - lvl ns f) * (mems ns f).length := by
  have l1 := hn.llo
  have l2 := hn.lhi
  rw [hn.cnt, hn.lv, Nat.mul_add]
  exact Nat.add_le_add (Nat.mul_le_mul_right _ (by omega)) (Nat.mul_le_mul_right _ (by omega))

/-! ### What holds none of another family -/
def frS (F G : Nat → Prop) (x : Nat) : Prop := F x ∧ ∀ y, G y → ¬ holdsN x y
theorem holds_up {l a b : Nat} (ha : 2 ^ (l + 1) ∣ a) (hb : 2 ^ (l + 1) ∣ b) : ¬ holdsN a (b + 2 ^ l) ∧ (holdsN (a + 2 ^ l) b ↔ holdsN a b) ∧ (holdsN (a + 2 ^ l) (b + 2 ^ l) ↔ holdsN a b) := by
  obtain ⟨e1, e2, e3, e4⟩ := or_up1 ha hb
  unfold holdsN
  refine ⟨fun h => ?_, by rw [e1]; omega, by rw [e3]; omega⟩
  rw [e2] at h
  have := bit_set e4
  rw [h, bit_clear ha] at this; cases this
theorem fr_dec {A0 A1 B0 B1 : Nat → Prop} {l : Nat} (hA0 : lev l A0) (hA1 : lev l A1) (hB0 : lev l B0) (hB1 : lev l B1) (x : Nat) : frS (up l A0 A1) (up l B0 B1) x ↔ up l (frS A0 B0) (frS (frS A1 B0) B1) x := by
  constructor
  · rintro ⟨h | ⟨y, h, rfl⟩, k⟩
    · exact .inl ⟨h, fun y hy => k y (.inl hy)⟩
    · exact .inr ⟨y, ⟨⟨h, fun z hz q => k z (.inl hz) ((holds_up (hA1 y h) (hB0 z hz)).2.1.2 q)⟩, fun z hz q => k _ (.inr ⟨z, hz, rfl⟩) ((holds_up (hA1 y h) (hB1 z hz)).2.2.2 q)⟩, rfl⟩
  · rintro (⟨h, k⟩ | ⟨y, ⟨⟨h, k⟩, k2⟩, rfl⟩)
    · refine ⟨.inl h, fun y hy => ?_⟩
      rcases hy with hy | ⟨z, hz, rfl⟩
      · exact k y hy
      · exact (holds_up (hA0 x h) (hB1 z hz)).1
    · refine ⟨.inr ⟨y, h, rfl⟩, fun z hz => ?_⟩
      rcases hz with hz | ⟨q, hq, rfl⟩
      · exact fun p => k z hz ((holds_up (hA1 y h) (hB0 z hz)).2.1.1 p)
      · exact fun p => k2 q hq ((holds_up (hA1 y h) (hB1 q hq)).2.2.1 p)
def fc (k a b : Nat) : Nat := k * (a * b)
theorem card_sub {ns ns' : List Nd} (h : Wf ns') {id a : Nat} (hid : id < ns'.length + 2) (hs : ∀ x, x ∈ mems ns' id → x ∈ mems ns a) : (mems ns' id).length ≤ (mems ns a).length := nodupN_le (mems_nodup h id hid) hs
theorem free_cost {k k1 k2 k3 a0 a1 h1 b0 b1 : Nat} (h1a : h1 ≤ a1) (e1 : k1 < k) (e2 : k2 < k) (e3 : k3 < k) (ha : 1 ≤ a0 + a1) (hb : 1 ≤ b0 + b1) : fc k1 a0 b0 + fc k2 a1 b0 + fc k3 h1 b1 + 1 ≤ fc k (a0 + a1) (b0 + b1) := by
  unfold fc
  obtain ⟨m, rfl⟩ : ∃ m, k = m + 1 := ⟨k - 1, by omega⟩
  have x1 : k1 * (a0 * b0) ≤ m * (a0 * b0) := Nat.mul_le_mul_right _ (by omega)
  have x2 : k2 * (a1 * b0) ≤ m * (a1 * b0) := Nat.mul_le_mul_right _ (by omega)
  have x3 : k3 * (h1 * b1) ≤ m * (a1 * b1) := Nat.mul_le_mul (by omega) (Nat.mul_le_mul_right _ h1a)
  have x4 : (a0 + a1) * (b0 + b1) = a0 * b0 + a0 * b1 + (a1 * b0 + a1 * b1) := by rw [Nat.add_mul, Nat.mul_add, Nat.mul_add]
  have x5 : 1 ≤ (a0 + a1) * (b0 + b1) := Nat.mul_pos ha hb
  have x6 : m * (a0 * b0) + m * (a1 * b0) + m * (a1 * b1) ≤ m * ((a0 + a1) * (b0 + b1)) := by
    rw [x4, Nat.mul_add, Nat.mul_add, Nat.mul_add]; omega
  rw [Nat.add_mul m 1, Nat.one_mul]
  omega

/-! ### The least -/
def lsS (F : Nat → Prop) (x : Nat) : Prop := F x ∧ ∀ y, F y → holdsN x y → y = x
theorem holdsZ_trans {a b c : Nat} (h : holdsN a b) (k : holdsN b c) : holdsN a c := by
  unfold holdsN at *
  rw [← h, Nat.or_assoc, k]
theorem least_below {F : Nat → Prop} : ∀ y, F y → ∃ z, lsS F z ∧ holdsN y z := by
  intro y
  induction y using Nat.strongRecOn with
  | _ y ih =>
    intro hy
    by_cases hm : ∀ z, F z → holdsN y z → z = y
    · exact ⟨y, ⟨hy, hm⟩, Nat.or_self y⟩
    · have hm2 : ∃ z, F z ∧ holdsN y z ∧ z ≠ y := Classical.byContradiction fun h => hm fun z h1 h2 => Classical.byContradiction fun h3 => h ⟨z, h1, h2, h3⟩
      obtain ⟨z, h1, h2, h3⟩ := hm2
      have hle : z ≤ y := by
        have := Nat.right_le_or (n := y) (m := z)
        rwa [h2] at this
      obtain ⟨u, h4, h5⟩ := ih z (by omega) h1
      exact ⟨u, h4, holdsZ_trans h2 h5⟩
theorem ls_dec {A B : Nat → Prop} {l : Nat} (hA : lev l A) (hB : lev l B) (x : Nat) : lsS (up l A B) x ↔ up l (lsS A) (frS (lsS B) (lsS A)) x := by
  constructor
  · rintro ⟨h | ⟨b, h, rfl⟩, k⟩
    · exact .inl ⟨h, fun y hy q => k y (.inl hy) q⟩
    · refine .inr ⟨b, ⟨⟨h, fun y hy q => ?_⟩, fun y hy q => ?_⟩, rfl⟩
      · have := k _ (.inr ⟨y, hy, rfl⟩) ((holds_up (hB b h) (hB y hy)).2.2.2 q)
        omega
      · have := k y (.inl hy.1) ((holds_up (hB b h) (hA y hy.1)).2.1.2 q)
        have h2 := bit_set (hB b h)
        rw [← this, bit_clear (hA y hy.1)] at h2; cases h2
  · rintro (⟨h, k⟩ | ⟨b, ⟨⟨h, k⟩, k2⟩, rfl⟩)
    · refine ⟨.inl h, fun y hy q => ?_⟩
      rcases hy with hy | ⟨z, hz, rfl⟩
      · exact k y hy q
      · exact absurd q (holds_up (hA x h) (hB z hz)).1
    · refine ⟨.inr ⟨b, h, rfl⟩, fun y hy q => ?_⟩
      rcases hy with hy | ⟨z, hz, rfl⟩
      · obtain ⟨z, hz, hq⟩ := least_below y hy
        exact absurd (holdsZ_trans ((holds_up (hB b h) (hA y hy)).2.1.1 q) hq) (k2 z hz)
      · rw [k z hz ((holds_up (hB b h) (hB z hz)).2.2.1 q)]
def lc (k n : Nat) : Nat := k * n + k * (n * n)
theorem least_cost {k k1 k2 k3 a b x y : Nat} (hx : x ≤ a) (hy : y ≤ b) (e1 : k1 < k) (e2 : k2 < k) (e3 : k3 < k) (hp : 1 ≤ a + b) : lc k1 a + lc k2 b + fc k3 y x + 1 ≤ lc k (a + b) := by
  unfold lc fc
  obtain ⟨m, rfl⟩ : ∃ m, k = m + 1 := ⟨k - 1, by omega⟩
  have x1 : k1 * a ≤ m * a := Nat.mul_le_mul_right _ (by omega)
  have x2 : k2 * b ≤ m * b := Nat.mul_le_mul_right _ (by omega)
  have x3 : k1 * (a * a) ≤ m * (a * a) := Nat.mul_le_mul_right _ (by omega)
  have x4 : k2 * (b * b) ≤ m * (b * b) := Nat.mul_le_mul_right _ (by omega)
  have x5 : k3 * (y * x) ≤ m * (b * a) := Nat.mul_le_mul (by omega) (Nat.mul_le_mul hy hx)
  have x6 : (a + b) * (a + b) = a * a + a * b + (b * a + b * b) := by rw [Nat.add_mul, Nat.mul_add, Nat.mul_add]
  have x7 : m * (a * a) + m * (b * b) + m * (b * a) ≤ m * ((a + b) * (a + b)) := by
    rw [x6, Nat.mul_add, Nat.mul_add, Nat.mul_add]; omega
  have x8 : m * a + m * b = m * (a + b) := (Nat.mul_add _ _ _).symm
  rw [Nat.add_mul m 1 (a + b), Nat.add_mul m 1 ((a + b) * (a + b)), Nat.one_mul, Nat.one_mul]
  omega

/-! ### Counting -/
theorem mems_card {ns : List Nd} (h : Wf ns) {id : Nat} (hid : id < ns.length + 2) : (mems ns id).length ≤ 16777216 := by
  have := nodupN_le (l2 := List.range 16777216) (mems_nodup h id hid) (fun x hx => List.mem_range.2 (mems_bits h id hid x hx).2)
  simpa using this
def cntI (ns : List Nd) (id : Int) : Int := if thereZ ns id = true then (((mems ns id.toNat).length : Nat) : Int) else 0
theorem cntI_nat {ns : List Nd} {id : Nat} (h : id < ns.length + 2) : cntI ns (id : Int) = (((mems ns id).length : Nat) : Int) := by
  unfold cntI
  rw [if_pos (tz_iff.2 (by omega)), Int.toNat_natCast]

theorem part_none {ns : List Nd} {f j : Nat} (h : Wf ns) (hf : f < ns.length + 2) (hj : j < lvl ns f) : (∀ x, x ∈ mems ns f ↔ pS false j (M ns f) x) ∧ ∀ x, x ∈ mems ns 0 ↔ pS true j (M ns f) x := by
  obtain ⟨h1, h2⟩ := pS_none (F := M ns f) (l := lvl ns f) (fun x hx => (mems_bits h f hf x hx).1) hj
  exact ⟨fun x => (h1 x).symm, fun x => ⟨fun k => absurd k (M_0 ns x), fun k => absurd k (h2 x)⟩⟩
theorem part_here {ns : List Nd} {f : Nat} {n : Nd} (h : Wf ns) (hn : NodeOf ns f n) : (∀ x, x ∈ mems ns n.lo ↔ pS false n.l (M ns f) x) ∧ ∀ x, x ∈ mems ns n.hi ↔ pS true n.l (M ns f) x := by
  obtain ⟨h1, h2⟩ := pS_here (lev_M h hn.vlo hn.llo) (lev_M h hn.vhi hn.lhi)
  rw [hn.mem]
  exact ⟨fun x => (h1 x).symm, fun x => (h2 x).symm⟩
theorem free_got {ns ns1 ns2 ns3 ns4 : List Nd} {R f g l l1 l2 l3 c1 c2 c3 c low h1 h2 id : Nat} {er : Int} (h : Wf ns) (hf : f < ns.length + 2) (hg : g < ns.length + 2) (hl : l = min (lvl ns f) (lvl ns g)) (h24 : l < 24)
    (g1 : Got ns ns1 R c1 l1 (frS (M ns (halfA ns f l)) (M ns (halfA ns g l))) low 0) (g2 : Got ns1 ns2 R c2 l2 (frS (M ns1 (halfB ns f l)) (M ns1 (halfA ns g l))) h1 0) (g3 : Got ns2 ns3 R c3 l3 (frS (M ns2 h1) (M ns2 (halfB ns g l))) h2 0)
    (g4 : Got ns3 ns4 R 1 l (up l (M ns3 low) (M ns3 h2)) id er) (hc : c1 + c2 + c3 + 1 ≤ c) : Got ns ns4 R c l (frS (M ns f) (M ns g)) id er := by
  have H1 := half_of h hf (l := l) (by omega) h24
  have H2 := half_of h hg (l := l) (by omega) h24
  have g12 := Got.then' g1 g2 (Nat.le_refl _)
  have g13 := g12.then' g3 (Nat.le_refl _)
  refine ((g13.then' g4 (Nat.le_refl _)).weak (c := c) (by omega) fun x => ?_)
  obtain ⟨v1, _, m1⟩ := g1.ok rfl
  obtain ⟨v2, _, m2⟩ := g2.ok rfl
  obtain ⟨v3, _, m3⟩ := g3.ok rfl
  have v12 := (g2.old v1).1
  rw [show M ns f = up l (M ns (halfA ns f l)) (M ns (halfB ns f l)) from set_ext' H1.mem, show M ns g = up l (M ns (halfA ns g l)) (M ns (halfB ns g l)) from set_ext' H2.mem,
    fr_dec (lev_M h H1.va H1.la) (lev_M h H1.vb H1.lb) (lev_M h H2.va H2.la) (lev_M h H2.vb H2.lb)]
  have e1 : M ns3 low = frS (M ns (halfA ns f l)) (M ns (halfA ns g l)) := by
    rw [M_pre g3.pre v12, M_pre g2.pre v1]; exact set_ext' m1
  have e2 : M ns2 h1 = frS (M ns (halfB ns f l)) (M ns (halfA ns g l)) := by
    rw [← M_pre g1.pre H1.vb, ← M_pre g1.pre H2.va]; exact set_ext' m2
  have e3 : M ns3 h2 = frS (frS (M ns (halfB ns f l)) (M ns (halfA ns g l))) (M ns (halfB ns g l)) := by
    rw [← e2, ← M_pre g12.pre H2.vb]; exact set_ext' m3
  rw [e1, e3]
theorem free_0 {ns : List Nd} {f g : Nat} (h : (f : Int) = 0 ∨ (g : Int) = 0) (x : Nat) : x ∈ mems ns f ↔ frS (M ns f) (M ns g) x := by
  refine ⟨fun k => ⟨k, fun y hy => ?_⟩, fun k => k.1⟩
  rcases h with h | h
  · obtain rfl : f = 0 := by omega
    exact absurd k (M_0 ns x)
  · obtain rfl : g = 0 := by omega
    exact absurd hy (M_0 ns y)
theorem free_1 {ns : List Nd} {f g : Nat} (h : 0 ∈ mems ns g ∨ (f : Int) = (g : Int)) (x : Nat) : x ∈ mems ns 0 ↔ frS (M ns f) (M ns g) x := by
  refine ⟨fun k => absurd k (M_0 ns x), fun k => ?_⟩
  rcases h with h | h
  · exact absurd (show holdsN x 0 from Nat.or_zero x) (k.2 0 h)
  · obtain rfl : f = g := by omega
    exact absurd (Nat.or_self x) (k.2 x k.1)
theorem least_got {ns ns1 ns2 ns3 ns4 : List Nd} {R f l1 l2 l3 c1 c2 c3 c x y y2 id : Nat} {er : Int} {n : Nd} (h : Wf ns) (hn : NodeOf ns f n)
    (g1 : Got ns ns1 R c1 l1 (lsS (M ns n.lo)) x 0) (g2 : Got ns1 ns2 R c2 l2 (lsS (M ns1 n.hi)) y 0) (g3 : Got ns2 ns3 R c3 l3 (frS (M ns2 y) (M ns2 x)) y2 0)
    (g4 : Got ns3 ns4 R 1 n.l (up n.l (M ns3 x) (M ns3 y2)) id er) (hc : c1 + c2 + c3 + 1 ≤ c) : Got ns ns4 R c n.l (lsS (M ns f)) id er := by
  have g12 := Got.then' g1 g2 (Nat.le_refl _)
  have g13 := g12.then' g3 (Nat.le_refl _)
  refine ((g13.then' g4 (Nat.le_refl _)).weak (c := c) (by omega) fun z => ?_)
  obtain ⟨v1, _, m1⟩ := g1.ok rfl
  obtain ⟨v2, _, m2⟩ := g2.ok rfl
  obtain ⟨v3, _, m3⟩ := g3.ok rfl
  have v12 := (g2.old v1).1
  rw [hn.mem, ls_dec (lev_M h hn.vlo hn.llo) (lev_M h hn.vhi hn.lhi)]
  have e0 : M ns2 x = lsS (M ns n.lo) := by rw [M_pre g2.pre v1]; exact set_ext' m1
  have e1 : M ns3 x = lsS (M ns n.lo) := by rw [M_pre g3.pre v12, e0]
  have e2 : M ns2 y = lsS (M ns n.hi) := by rw [← M_pre g1.pre hn.vhi]; exact set_ext' m2
  have e3 : M ns3 y2 = frS (lsS (M ns n.hi)) (lsS (M ns n.lo)) := by rw [← e2, ← e0]; exact set_ext' m3
  rw [e1, e3]
theorem least_0 {ns : List Nd} {f : Nat} (h : f < 2) (x : Nat) : x ∈ mems ns f ↔ lsS (M ns f) x := by
  refine ⟨fun k => ⟨k, fun y hy _ => ?_⟩, fun k => k.1⟩
  have : f = 0 ∨ f = 1 := by omega
  rcases this with rfl | rfl
  · exact absurd k (M_0 ns x)
  · have h1 : ∀ z, M ns 1 z → z = 0 := fun z hz => by
      have : z ∈ mems ns 1 := hz
      rw [mems_1] at this
      exact List.mem_singleton.1 this
    rw [h1 x k, h1 y hy]
theorem bare_lo {ns : List Nd} {f : Nat} {n : Nd} (hn : NodeOf ns f n) : 0 ∈ mems ns n.lo ↔ 0 ∈ mems ns f := by
  have e : (0 ∈ mems ns f) = M ns f 0 := rfl
  rw [e, hn.mem]
  refine ⟨.inl, fun h => ?_⟩
  rcases h with h | ⟨y, _, h⟩
  · exact h
  · have := Nat.two_pow_pos n.l
    omega
theorem bare_end {ns : List Nd} {f c : Nat} (hc : c < 2) (h : 0 ∈ mems ns c ↔ 0 ∈ mems ns f) : Value.bool (decide ((c : Int) = 1)) = .bool (decide (0 ∈ mems ns f)) := congrArg Value.bool (by
  have : c = 0 ∨ c = 1 := by omega
  rcases this with rfl | rfl
  · rw [mems_0] at h
    rw [decide_eq_false (by decide), decide_eq_false (fun k => by have := h.2 k; cases this)]
  · rw [mems_1] at h
    rw [decide_eq_true (by decide), decide_eq_true (h.1 (List.mem_cons_self ..))])
theorem not_f' {b : Bool} (h : (!b) = false) : b = true := by cases b <;> simp_all
def ofZB (l : List Int) : Bool := l.all fun m => decide (0 ≤ m ∧ m < 16777216)
theorem ofB_iff {l : List Int} : ofZB l = true ↔ ∀ m, m ∈ l → 0 ≤ m ∧ m < 16777216 := by
  unfold ofZB
  rw [List.all_eq_true]
  exact ⟨fun h m hm => of_decide_eq_true (h m hm), fun h m hm => decide_eq_true (h m hm)⟩
theorem ofB_k {l : List Int} {k : Nat} (hk : k < l.length) (h : l.getD k 0 < 0 ∨ 16777216 ≤ l.getD k 0) : ofZB l = false := Bool.eq_false_iff.2 fun q => by
  have := ofB_iff.1 q _ (getD_mem (d := 0) hk)
  omega
theorem ofB_all {l : List Int} {k : Nat} (hk : k = l.length) (h : ∀ q, q < k → 0 ≤ l.getD q 0 ∧ l.getD q 0 < 16777216) : ofZB l = true := ofB_iff.2 fun m hm => by
  obtain ⟨j, hj, rfl⟩ := List.getElem_of_mem hm
  have := h j (by omega)
  rwa [List.getD_eq_getElem?_getD, List.getElem?_eq_getElem hj] at this
/-- An outcome, or an error at once. -/
def PE (Ta Tn : TypeId) (N ba bm R : Nat) (w : World) (ns : List Nd) (ok : Bool) (c l : Nat) (S : Nat → Prop) (v : Value) (w' : World) : Prop :=
  ∃ (ns' : List Nd) (id : Nat) (er : Int), v = .tuple #[.int .i64 (id : Int), .int .i64 er] ∧ Dx Tn N [ba, bm] w w' ∧ Dia Ta Tn N ba bm R w' ns' ∧ ((ok = true ∧ Got ns ns' R c l S id er) ∨ (ok = false ∧ ns' = ns ∧ id = 0 ∧ er = 1))
theorem cnt_none {ns : List Nd} {id : Int} (h : thereZ ns id = false) : Value.int .i64 0 = .int .i64 (cntI ns id) := by unfold cntI; rw [h]; rfl
theorem cnt_small {ns : List Nd} {id : Int} (h : thereZ ns id = true) (h2 : id < 2) : Value.int .i64 id = .int .i64 (cntI ns id) := by
  have := tz_iff.1 h
  have e : id = 0 ∨ id = 1 := by omega
  unfold cntI
  rw [h, if_pos rfl]
  rcases e with rfl | rfl
  · rw [show (0 : Int).toNat = 0 from rfl, mems_0]; rfl
  · rw [show (1 : Int).toNat = 1 from rfl, mems_1]; rfl
theorem cnt_node {ns : List Nd} {f : Nat} {n : Nd} (hf : f < ns.length + 2) (hn : NodeOf ns f n) : cntI ns (n.lo : Int) + cntI ns (n.hi : Int) = cntI ns (f : Int) := by
  rw [cntI_nat hn.vlo, cntI_nat hn.vhi, cntI_nat hf, hn.cnt]
  omega

end Go.Proofs.Ytpamgfbecgjjeaa
