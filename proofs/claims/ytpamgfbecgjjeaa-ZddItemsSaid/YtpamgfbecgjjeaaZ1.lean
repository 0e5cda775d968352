/-
  Families as diagrams: nodes, the members of an id, what is right, and that a family has one id. No program in it.
-/
import Derived.Test.YtpamgfbecgjjeaaMaps
namespace Go.Proofs.Ytpamgfbecgjjeaa
set_option linter.unusedVariables false
set_option linter.unusedSimpArgs false
open Go Go.RowKit

structure Nd where
  l : Nat
  lo : Nat
  hi : Nat
  deriving DecidableEq, Repr
def nd0 : Nd := ⟨0, 0, 0⟩
def encN (n : Nd) : List Value := [.int .i64 (n.l : Int), .int .i64 (n.lo : Int), .int .i64 (n.hi : Int)]
theorem encN_len (n : Nd) : (encN n).length = 3 := rfl
theorem enc_one_encN {l : List Nd} : (l.flatMap encN).all Value.oneCell' = true := enc_one (fun _ => rfl) l
def keyN (n : Nd) : Value := .agg #[.int .i64 (n.l : Int), .int .i64 (n.lo : Int), .int .i64 (n.hi : Int)]
theorem keyN_inj (a b : Nd) (h : keyN a = keyN b) : a = b := by
  cases a; cases b
  simp only [keyN, Value.agg.injEq, Array.mk.injEq, List.cons.injEq, Value.int.injEq, true_and, and_true] at h
  obtain ⟨h1, h2, h3⟩ := h
  simp only [Nd.mk.injEq]
  omega

/-! ### The members of an id -/
def stepT (t : List (List Nat)) (n : Nd) : List (List Nat) := t ++ [t.getD n.lo [] ++ (t.getD n.hi []).map fun x => x + 2 ^ n.l]
def tab (ns : List Nd) : List (List Nat) := ns.foldl stepT [[], [0]]
def mems (ns : List Nd) (id : Nat) : List Nat := (tab ns).getD id []
theorem tab_snoc (ns : List Nd) (n : Nd) : tab (ns ++ [n]) = stepT (tab ns) n := by
  unfold tab; rw [List.foldl_append]; rfl
theorem foldT_len : ∀ (ns : List Nd) (t : List (List Nat)), (ns.foldl stepT t).length = t.length + ns.length
  | [], t => rfl
  | n :: ns, t => by
    rw [List.foldl_cons, foldT_len ns, stepT, List.length_append, List.length_singleton, List.length_cons]; omega
theorem tab_len (ns : List Nd) : (tab ns).length = ns.length + 2 := by
  unfold tab; rw [foldT_len]; simp; omega
theorem mems_snoc_old {ns : List Nd} {n : Nd} {id : Nat} (h : id < ns.length + 2) : mems (ns ++ [n]) id = mems ns id := by
  unfold mems
  rw [tab_snoc, stepT, List.getD_eq_getElem?_getD, List.getElem?_append_left (by rw [tab_len]; exact h), List.getD_eq_getElem?_getD]
theorem mems_snoc_new (ns : List Nd) (n : Nd) : mems (ns ++ [n]) (ns.length + 2) = mems ns n.lo ++ (mems ns n.hi).map fun x => x + 2 ^ n.l := by
  unfold mems
  rw [tab_snoc, stepT, List.getD_eq_getElem?_getD, List.getElem?_append_right (by rw [tab_len]; exact Nat.le_refl _), tab_len, Nat.sub_self]
  rfl
theorem mems_app {id : Nat} : ∀ (r ns : List Nd), id < ns.length + 2 → mems (ns ++ r) id = mems ns id
  | [], ns, _ => by rw [List.append_nil]
  | n :: r, ns, h => by
    rw [show ns ++ n :: r = (ns ++ [n]) ++ r by simp, mems_app r (ns ++ [n]) (by simp; omega), mems_snoc_old h]
theorem mems_pre {ns ns' : List Nd} {id : Nat} (hp : ns <+: ns') (h : id < ns.length + 2) : mems ns' id = mems ns id := by
  obtain ⟨r, rfl⟩ := hp
  exact mems_app r ns h
theorem mems_0 (ns : List Nd) : mems ns 0 = [] := mems_app ns [] (by decide)
theorem mems_1 (ns : List Nd) : mems ns 1 = [0] := mems_app ns [] (by decide)

def lvl (ns : List Nd) (id : Nat) : Nat := if id < 2 then 24 else (ns.getD (id - 2) nd0).l
theorem lvl_small {ns : List Nd} {id : Nat} (h : id < 2) : lvl ns id = 24 := if_pos h
theorem lvl_node {ns : List Nd} (i : Nat) : lvl ns (i + 2) = (ns.getD i nd0).l := if_neg (by omega)
theorem getD_pre {α : Type} {a b : List α} {d : α} {i : Nat} (hp : a <+: b) (h : i < a.length) : b.getD i d = a.getD i d := by
  obtain ⟨r, rfl⟩ := hp
  rw [List.getD_eq_getElem?_getD, List.getElem?_append_left h, List.getD_eq_getElem?_getD]
theorem lvl_pre {ns ns' : List Nd} {id : Nat} (hp : ns <+: ns') (h : id < ns.length + 2) : lvl ns' id = lvl ns id := by
  unfold lvl
  by_cases h2 : id < 2
  · rw [if_pos h2, if_pos h2]
  · rw [if_neg h2, if_neg h2, getD_pre hp (by omega)]

def NdOk (ns : List Nd) (i : Nat) (n : Nd) : Prop := n.lo < i + 2 ∧ n.hi < i + 2 ∧ n.hi ≠ 0 ∧ n.l < lvl ns n.lo ∧ n.l < lvl ns n.hi ∧ n.l < 24
/-- What stands in an arena: each node once, above its parts. -/
structure Wf (ns : List Nd) : Prop where
  nd : ns.Nodup
  ok : ∀ i, i < ns.length → NdOk ns i (ns.getD i nd0)
theorem Wf.nil : Wf [] := ⟨List.nodup_nil, fun i h => by cases h⟩
theorem Wf.snoc {ns : List Nd} {n : Nd} (h : Wf ns) (hn : n ∉ ns) (hlo : n.lo < ns.length + 2) (hhi : n.hi < ns.length + 2) (h0 : n.hi ≠ 0) (l1 : n.l < lvl ns n.lo) (l2 : n.l < lvl ns n.hi) (h24 : n.l < 24) : Wf (ns ++ [n]) := by
  have hp : ns <+: ns ++ [n] := List.prefix_append _ _
  refine ⟨?_, fun i hi => ?_⟩
  · rw [List.nodup_append]
    exact ⟨h.nd, by simp, fun a ha b hb => by simp at hb; subst hb; exact fun e => hn (e ▸ ha)⟩
  · rw [List.length_append, List.length_singleton] at hi
    by_cases e : i < ns.length
    · obtain ⟨a1, a2, a3, a4, a5, a6⟩ := h.ok i e
      rw [getD_pre hp e]
      exact ⟨a1, a2, a3, by rw [lvl_pre hp (by omega)]; exact a4, by rw [lvl_pre hp (by omega)]; exact a5, a6⟩
    · obtain rfl : i = ns.length := by omega
      have e2 : (ns ++ [n]).getD ns.length nd0 = n := by
        rw [List.getD_eq_getElem?_getD, List.getElem?_append_right (Nat.le_refl _), Nat.sub_self]; rfl
      rw [e2]
      exact ⟨hlo, hhi, h0, by rw [lvl_pre hp hlo]; exact l1, by rw [lvl_pre hp hhi]; exact l2, h24⟩

section
variable {ns : List Nd}
theorem mems_node (h : Wf ns) {i : Nat} (hi : i < ns.length) : mems ns (i + 2) = mems ns (ns.getD i nd0).lo ++ (mems ns (ns.getD i nd0).hi).map fun x => x + 2 ^ (ns.getD i nd0).l := by
  obtain ⟨a1, a2, _⟩ := h.ok i hi
  have e : ns.take (i + 1) = ns.take i ++ [ns.getD i nd0] := by
    rw [List.take_add_one, List.getD_eq_getElem?_getD, List.getElem?_eq_getElem hi]; rfl
  have hl : (ns.take i).length = i := by rw [List.length_take]; omega
  have hp : ns.take i <+: ns := List.take_prefix _ _
  have hp1 : ns.take (i + 1) <+: ns := List.take_prefix _ _
  rw [mems_pre hp1 (by rw [List.length_take]; omega), e]
  have := mems_snoc_new (ns.take i) (ns.getD i nd0)
  rw [hl] at this
  rw [this, ← mems_pre hp (by rw [hl]; exact a1), ← mems_pre hp (by rw [hl]; exact a2)]
theorem bit_clear {x l : Nat} (h : 2 ^ (l + 1) ∣ x) : x.testBit l = false := by
  obtain ⟨k, rfl⟩ := h
  rw [Nat.testBit_eq_decide_div_mod_eq, show 2 ^ (l + 1) * k = 2 ^ l * (2 * k) by rw [Nat.pow_succ, Nat.mul_assoc], Nat.mul_div_cancel_left _ (Nat.two_pow_pos l)]
  simp
theorem bit_set {x l : Nat} (h : 2 ^ (l + 1) ∣ x) : (x + 2 ^ l).testBit l = true := by
  obtain ⟨k, rfl⟩ := h
  rw [Nat.testBit_eq_decide_div_mod_eq, show 2 ^ (l + 1) * k + 2 ^ l = 2 ^ l * (2 * k + 1) by rw [Nat.pow_succ, Nat.mul_add, Nat.mul_one, Nat.mul_assoc], Nat.mul_div_cancel_left _ (Nat.two_pow_pos l)]
  simp
theorem dvd_lt {a b x : Nat} (h : a < b) (hx : 2 ^ b ∣ x) : 2 ^ (a + 1) ∣ x := Nat.dvd_trans (Nat.pow_dvd_pow 2 h) hx
theorem dvd_up {l x : Nat} (h : 2 ^ (l + 1) ∣ x) : 2 ^ l ∣ x + 2 ^ l := Nat.dvd_add (Nat.dvd_trans (Nat.pow_dvd_pow 2 (Nat.le_succ l)) h) (Nat.dvd_refl _)
theorem up_lt {l x : Nat} (hl : l < 24) (h : 2 ^ (l + 1) ∣ x) (hx : x < 2 ^ 24) : x + 2 ^ l < 2 ^ 24 := by
  obtain ⟨k, rfl⟩ := h
  have e : 2 ^ 24 = 2 ^ (l + 1) * 2 ^ (23 - l) := by rw [← Nat.pow_add]; congr 1; omega
  rw [e] at hx ⊢
  have hk : k < 2 ^ (23 - l) := Nat.lt_of_mul_lt_mul_left hx
  have h1 : 2 ^ (l + 1) * (k + 1) ≤ 2 ^ (l + 1) * 2 ^ (23 - l) := Nat.mul_le_mul_left _ hk
  have h2 : 0 < 2 ^ l := Nat.two_pow_pos l
  have h3 : 2 ^ (l + 1) = 2 ^ l * 2 := Nat.pow_succ ..
  rw [Nat.mul_add, Nat.mul_one] at h1
  omega
theorem mems_bits (h : Wf ns) : ∀ id, id < ns.length + 2 → ∀ x, x ∈ mems ns id → 2 ^ lvl ns id ∣ x ∧ x < 2 ^ 24 := by
  intro id
  induction id using Nat.strongRecOn with
  | _ id ih =>
    intro hid x hx
    match id, ih, hid, hx with
    | 0, _, _, hx => rw [mems_0] at hx; cases hx
    | 1, _, _, hx =>
      rw [mems_1] at hx
      obtain rfl : x = 0 := by simpa using hx
      exact ⟨Nat.dvd_zero _, by decide⟩
    | i + 2, ih, hid, hx =>
      have hi : i < ns.length := by omega
      obtain ⟨a1, a2, a3, a4, a5, a6⟩ := h.ok i hi
      rw [mems_node h hi, List.mem_append, List.mem_map] at hx
      rw [lvl_node]
      rcases hx with hx | ⟨y, hy, rfl⟩
      · obtain ⟨g1, g2⟩ := ih _ a1 (by omega) x hx
        exact ⟨Nat.dvd_trans (Nat.pow_dvd_pow 2 (Nat.le_of_lt a4)) g1, g2⟩
      · obtain ⟨g1, g2⟩ := ih _ a2 (by omega) y hy
        exact ⟨dvd_up (dvd_lt a5 g1), up_lt a6 (dvd_lt a5 g1) g2⟩
theorem mems_ne (h : Wf ns) : ∀ id, id < ns.length + 2 → id ≠ 0 → ∃ x, x ∈ mems ns id := by
  intro id
  induction id using Nat.strongRecOn with
  | _ id ih =>
    intro hid h0
    match id, ih, hid, h0 with
    | 0, _, _, h0 => exact absurd rfl h0
    | 1, _, _, _ => exact ⟨0, by rw [mems_1]; exact List.mem_cons_self ..⟩
    | i + 2, ih, hid, _ =>
      have hi : i < ns.length := by omega
      obtain ⟨a1, a2, a3, _⟩ := h.ok i hi
      obtain ⟨y, hy⟩ := ih _ a2 (by omega) a3
      exact ⟨_, by rw [mems_node h hi]; exact List.mem_append_right _ (List.mem_map.2 ⟨y, hy, rfl⟩)⟩
theorem mems_nodup (h : Wf ns) : ∀ id, id < ns.length + 2 → (mems ns id).Nodup := by
  intro id
  induction id using Nat.strongRecOn with
  | _ id ih =>
    intro hid
    match id, ih, hid with
    | 0, _, _ => rw [mems_0]; exact List.nodup_nil
    | 1, _, _ => rw [mems_1]; simp
    | i + 2, ih, hid =>
      have hi : i < ns.length := by omega
      obtain ⟨a1, a2, a3, a4, a5, a6⟩ := h.ok i hi
      rw [mems_node h hi, List.nodup_append]
      refine ⟨ih _ a1 (by omega), ?_, fun x hx y hy e => ?_⟩
      · exact List.pairwise_map.2 ((ih _ a2 (by omega)).imp (fun hab e => hab (by omega)))
      · obtain ⟨z, hz, rfl⟩ := List.mem_map.1 hy
        have b1 := bit_clear (dvd_lt a4 (mems_bits h _ (by omega) x hx).1)
        have b2 := bit_set (dvd_lt a5 (mems_bits h _ (by omega) z hz).1)
        rw [e, b2] at b1
        cases b1
theorem lvl_le (h : Wf ns) {id : Nat} (hid : id < ns.length + 2) : lvl ns id ≤ 24 := by
  match id, hid with
  | 0, _ => exact Nat.le_refl _
  | 1, _ => exact Nat.le_refl _
  | i + 2, hid => rw [lvl_node]; exact Nat.le_of_lt (h.ok i (by omega)).2.2.2.2.2
theorem lvl_lt (h : Wf ns) {id : Nat} (hid : id < ns.length + 2) (h2 : 2 ≤ id) : lvl ns id < 24 := by
  obtain ⟨i, rfl⟩ : ∃ i, id = i + 2 := ⟨id - 2, by omega⟩
  rw [lvl_node]; exact (h.ok i (by omega)).2.2.2.2.2

/-! ### A family has one id -/
theorem one_id (h : Wf ns) : ∀ a, a < ns.length + 2 → ∀ b, b < ns.length + 2 → (∀ x, x ∈ mems ns a ↔ x ∈ mems ns b) → a = b := by
  have hne0 : ∀ b, b < ns.length + 2 → (∀ x, x ∈ mems ns 0 ↔ x ∈ mems ns b) → 0 = b := fun b hb hs => by
    by_cases e : b = 0
    · exact e.symm
    · obtain ⟨x, hx⟩ := mems_ne h b hb e
      have := (hs x).2 hx
      rw [mems_0] at this; cases this
  have hhi : ∀ i, i < ns.length → ∃ y, y ∈ mems ns (ns.getD i nd0).hi ∧ y + 2 ^ (ns.getD i nd0).l ∈ mems ns (i + 2) := fun i hi => by
    obtain ⟨a1, a2, a3, _⟩ := h.ok i hi
    obtain ⟨y, hy⟩ := mems_ne h _ (by omega) a3
    exact ⟨y, hy, by rw [mems_node h hi]; exact List.mem_append_right _ (List.mem_map.2 ⟨y, hy, rfl⟩)⟩
  have hne1 : ∀ i, i < ns.length → ¬ ∀ x, x ∈ mems ns 1 ↔ x ∈ mems ns (i + 2) := fun i hi hs => by
    obtain ⟨y, _, hy⟩ := hhi i hi
    have := (hs _).2 hy
    rw [mems_1] at this
    have h2 := Nat.two_pow_pos (ns.getD i nd0).l
    have h3 := List.mem_singleton.1 this
    omega
  have hlev : ∀ i j, i < ns.length → j < ns.length → (ns.getD i nd0).l < (ns.getD j nd0).l → ¬ ∀ x, x ∈ mems ns (i + 2) ↔ x ∈ mems ns (j + 2) := fun i j hi hj hl hs => by
    obtain ⟨y, hy, hm⟩ := hhi i hi
    have g1 := (mems_bits h _ (by omega) _ ((hs _).1 hm)).1
    rw [lvl_node] at g1
    obtain ⟨a1, a2, a3, a4, a5, a6⟩ := h.ok i hi
    have b1 := bit_clear (dvd_lt hl g1)
    rw [bit_set (dvd_lt a5 (mems_bits h _ (by omega) y hy).1)] at b1
    cases b1
  intro a
  induction a using Nat.strongRecOn with
  | _ a ih =>
    intro ha b hb hs
    match a, b, ih, ha, hb, hs with
    | 0, b, _, _, hb, hs => exact hne0 b hb hs
    | a + 1, 0, _, ha, _, hs => exact (hne0 (a + 1) ha (fun x => (hs x).symm)).symm
    | 1, 1, _, _, _, _ => rfl
    | 1, j + 2, _, _, hb, hs => exact absurd hs (hne1 j (by omega))
    | i + 2, 1, _, ha, _, hs => exact absurd (fun x => (hs x).symm) (hne1 i (by omega))
    | i + 2, j + 2, ih, ha, hb, hs =>
      have hi : i < ns.length := by omega
      have hj : j < ns.length := by omega
      have hl : (ns.getD i nd0).l = (ns.getD j nd0).l := by
        rcases Nat.lt_trichotomy (ns.getD i nd0).l (ns.getD j nd0).l with k | k | k
        · exact absurd hs (hlev i j hi hj k)
        · exact k
        · exact absurd (fun x => (hs x).symm) (hlev j i hj hi k)
      obtain ⟨a1, a2, a3, a4, a5, a6⟩ := h.ok i hi
      obtain ⟨c1, c2, c3, c4, c5, c6⟩ := h.ok j hj
      have hlo : (ns.getD i nd0).lo = (ns.getD j nd0).lo := ih _ a1 (by omega) _ (by omega) fun x => by
        have hx := hs x
        rw [mems_node h hi, mems_node h hj, List.mem_append, List.mem_append, List.mem_map, List.mem_map] at hx
        constructor
        · intro k
          have b1 := bit_clear (dvd_lt a4 (mems_bits h _ (by omega) x k).1)
          rcases hx.1 (.inl k) with q | ⟨y, hy, rfl⟩
          · exact q
          · rw [hl, bit_set (dvd_lt c5 (mems_bits h _ (by omega) y hy).1)] at b1; cases b1
        · intro k
          have b1 := bit_clear (dvd_lt c4 (mems_bits h _ (by omega) x k).1)
          rcases hx.2 (.inl k) with q | ⟨y, hy, rfl⟩
          · exact q
          · rw [← hl, bit_set (dvd_lt a5 (mems_bits h _ (by omega) y hy).1)] at b1; cases b1
      have hhi2 : (ns.getD i nd0).hi = (ns.getD j nd0).hi := ih _ a2 (by omega) _ (by omega) fun x => by
        have hx := hs (x + 2 ^ (ns.getD i nd0).l)
        rw [mems_node h hi, mems_node h hj, List.mem_append, List.mem_append, List.mem_map, List.mem_map] at hx
        constructor
        · intro k
          have b1 := bit_set (dvd_lt a5 (mems_bits h _ (by omega) x k).1)
          rcases hx.1 (.inr ⟨x, k, rfl⟩) with q | ⟨y, hy, e⟩
          · have b2 := bit_clear (dvd_lt c4 (mems_bits h _ (by omega) _ q).1)
            rw [← hl, b1] at b2; cases b2
          · rw [hl] at e
            obtain rfl : y = x := by omega
            exact hy
        · intro k
          have b1 := bit_set (dvd_lt c5 (mems_bits h _ (by omega) x k).1)
          rw [← hl] at b1
          rcases hx.2 (.inr ⟨x, k, by rw [hl]⟩) with q | ⟨y, hy, e⟩
          · rw [bit_clear (dvd_lt a4 (mems_bits h _ (by omega) _ q).1)] at b1; cases b1
          · obtain rfl : y = x := by omega
            exact hy
      have hn : ns.getD i nd0 = ns.getD j nd0 := by
        generalize ns.getD i nd0 = p at *
        generalize ns.getD j nd0 = q at *
        cases p; cases q
        simp only [Nd.mk.injEq]
        exact ⟨hl, hlo, hhi2⟩
      rw [List.getD_eq_getElem?_getD, List.getD_eq_getElem?_getD, List.getElem?_eq_getElem hi, List.getElem?_eq_getElem hj] at hn
      have := (List.getElem_inj h.nd).1 (show ns[i] = ns[j] from hn)
      omega
end

end Go.Proofs.Ytpamgfbecgjjeaa
