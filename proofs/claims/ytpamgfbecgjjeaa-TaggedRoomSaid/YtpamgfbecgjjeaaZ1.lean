/-
  Families as diagrams: nodes, the members of an id, what is right, and that a family has one id. No program in it. The memory of an arena, and what a deed with it leaves as it was; outcomes of deeds. No program in it. What deeds with two families come to: item by item; how many nodes they may need. No program in it. Operations that diagrams need: pointers that may be none, looking up with an answer whether it is there, the lesser of two numbers, elements of arrays, functions of a thing. No program in it. Steps of the walks over arenas and diagrams. No program in it. Steps of the walks over deeds. No program in it. Building a family, its parts by an item, what holds none of another one, and the least. No program in it.
-/
import Derived.Test.YtpamgfbecgjjeaaMaps
import Derived.Test.YtpamgfbecgjjeaaEdit
namespace Go.Proofs.Ytpamgfbecgjjeaa
set_option linter.unusedVariables false
set_option linter.unusedSimpArgs false

section
open Go Go.RowKit

structure Nd where
  l : Nat
  lo : Nat
  hi : Nat
  deriving DecidableEq, Repr
def nd0 : Nd := ⟨0, 0, 0⟩
def encN (n : Nd) : List Value := [.int .i64 (n.l : Int), .int .i64 (n.lo : Int), .int .i64 (n.hi : Int)]
theorem encN_len (n : Nd) : (encN n).length = 3 := rfl
def keyN (n : Nd) : Value := .agg #[.int .i64 (n.l : Int), .int .i64 (n.lo : Int), .int .i64 (n.hi : Int)]
theorem keyN_inj (a b : Nd) (h : keyN a = keyN b) : a = b := by
  cases a; cases b
  simp only [keyN, Value.agg.injEq, Array.mk.injEq, List.cons.injEq, Value.int.injEq, true_and, and_true] at h
  obtain ⟨h1, h2, h3⟩ := h
  simp only [Nd.mk.injEq]
  omega

/-! ### The members of an id -/
def stepT (t : List (List Nat)) (n : Nd) : List (List Nat) := t ++ [t.getD n.lo [] ++ (t.getD n.hi []).map fun x => x + 2 ^ n.l]
def tab (ns : List Nd) : List (List Nat) := ns.foldl stepT [[], [0]]
def mems (ns : List Nd) (id : Nat) : List Nat := (tab ns).getD id []
theorem tab_snoc (ns : List Nd) (n : Nd) : tab (ns ++ [n]) = stepT (tab ns) n := by
  unfold tab; rw [List.foldl_append]; rfl
theorem foldT_len : ∀ (ns : List Nd) (t : List (List Nat)), (ns.foldl stepT t).length = t.length + ns.length
  | [], t => rfl
  | n :: ns, t => by
    rw [List.foldl_cons, foldT_len ns, stepT, List.length_append, List.length_singleton, List.length_cons]; omega
theorem tab_len (ns : List Nd) : (tab ns).length = ns.length + 2 := by
  unfold tab; rw [foldT_len]; simp; omega
theorem mems_snoc_old {ns : List Nd} {n : Nd} {id : Nat} (h : id < ns.length + 2) : mems (ns ++ [n]) id = mems ns id := by
  unfold mems
  rw [tab_snoc, stepT, List.getD_eq_getElem?_getD, List.getElem?_append_left (by rw [tab_len]; exact h), List.getD_eq_getElem?_getD]
theorem mems_snoc_new (ns : List Nd) (n : Nd) : mems (ns ++ [n]) (ns.length + 2) = mems ns n.lo ++ (mems ns n.hi).map fun x => x + 2 ^ n.l := by
  unfold mems
  rw [tab_snoc, stepT, List.getD_eq_getElem?_getD, List.getElem?_append_right (by rw [tab_len]; exact Nat.le_refl _), tab_len, Nat.sub_self]
  rfl
theorem mems_app {id : Nat} : ∀ (r ns : List Nd), id < ns.length + 2 → mems (ns ++ r) id = mems ns id
  | [], ns, _ => by rw [List.append_nil]
  | n :: r, ns, h => by
    rw [show ns ++ n :: r = (ns ++ [n]) ++ r by simp, mems_app r (ns ++ [n]) (by simp; omega), mems_snoc_old h]
theorem mems_pre {ns ns' : List Nd} {id : Nat} (hp : ns <+: ns') (h : id < ns.length + 2) : mems ns' id = mems ns id := by
  obtain ⟨r, rfl⟩ := hp
  exact mems_app r ns h
theorem mems_0 (ns : List Nd) : mems ns 0 = [] := mems_app ns [] (by decide)
theorem mems_1 (ns : List Nd) : mems ns 1 = [0] := mems_app ns [] (by decide)

def lvl (ns : List Nd) (id : Nat) : Nat := if id < 2 then 24 else (ns.getD (id - 2) nd0).l
theorem lvl_small {ns : List Nd} {id : Nat} (h : id < 2) : lvl ns id = 24 := if_pos h
theorem lvl_node {ns : List Nd} (i : Nat) : lvl ns (i + 2) = (ns.getD i nd0).l := if_neg (by omega)
theorem getD_pre {α : Type} {a b : List α} {d : α} {i : Nat} (hp : a <+: b) (h : i < a.length) : b.getD i d = a.getD i d := by
  obtain ⟨r, rfl⟩ := hp
  rw [List.getD_eq_getElem?_getD, List.getElem?_append_left h, List.getD_eq_getElem?_getD]
theorem lvl_pre {ns ns' : List Nd} {id : Nat} (hp : ns <+: ns') (h : id < ns.length + 2) : lvl ns' id = lvl ns id := by
  unfold lvl
  by_cases h2 : id < 2
  · rw [if_pos h2, if_pos h2]
  · rw [if_neg h2, if_neg h2, getD_pre hp (by omega)]

def NdOk (ns : List Nd) (i : Nat) (n : Nd) : Prop := n.lo < i + 2 ∧ n.hi < i + 2 ∧ n.hi ≠ 0 ∧ n.l < lvl ns n.lo ∧ n.l < lvl ns n.hi ∧ n.l < 24
/-- What stands in an arena: each node once, above its parts. -/
structure Wf (ns : List Nd) : Prop where
  nd : ns.Nodup
  ok : ∀ i, i < ns.length → NdOk ns i (ns.getD i nd0)
theorem Wf.nil : Wf [] := ⟨List.nodup_nil, fun i h => by cases h⟩
theorem Wf.snoc {ns : List Nd} {n : Nd} (h : Wf ns) (hn : n ∉ ns) (hlo : n.lo < ns.length + 2) (hhi : n.hi < ns.length + 2) (h0 : n.hi ≠ 0) (l1 : n.l < lvl ns n.lo) (l2 : n.l < lvl ns n.hi) (h24 : n.l < 24) : Wf (ns ++ [n]) := by
  have hp : ns <+: ns ++ [n] := List.prefix_append _ _
  refine ⟨?_, fun i hi => ?_⟩
  · rw [List.nodup_append]
    exact ⟨h.nd, by simp, fun a ha b hb => by simp at hb; subst hb; exact fun e => hn (e ▸ ha)⟩
  · rw [List.length_append, List.length_singleton] at hi
    by_cases e : i < ns.length
    · obtain ⟨a1, a2, a3, a4, a5, a6⟩ := h.ok i e
      rw [getD_pre hp e]
      exact ⟨a1, a2, a3, by rw [lvl_pre hp (by omega)]; exact a4, by rw [lvl_pre hp (by omega)]; exact a5, a6⟩
    · obtain rfl : i = ns.length := by omega
      have e2 : (ns ++ [n]).getD ns.length nd0 = n := by
        rw [List.getD_eq_getElem?_getD, List.getElem?_append_right (Nat.le_refl _), Nat.sub_self]; rfl
      rw [e2]
      exact ⟨hlo, hhi, h0, by rw [lvl_pre hp hlo]; exact l1, by rw [lvl_pre hp hhi]; exact l2, h24⟩

section
variable {ns : List Nd}
theorem mems_node (h : Wf ns) {i : Nat} (hi : i < ns.length) : mems ns (i + 2) = mems ns (ns.getD i nd0).lo ++ (mems ns (ns.getD i nd0).hi).map fun x => x + 2 ^ (ns.getD i nd0).l := by
  obtain ⟨a1, a2, _⟩ := h.ok i hi
  have e : ns.take (i + 1) = ns.take i ++ [ns.getD i nd0] := by
    rw [List.take_add_one, List.getD_eq_getElem?_getD, List.getElem?_eq_getElem hi]; rfl
  have hl : (ns.take i).length = i := by rw [List.length_take]; omega
  have hp : ns.take i <+: ns := List.take_prefix _ _
  have hp1 : ns.take (i + 1) <+: ns := List.take_prefix _ _
  rw [mems_pre hp1 (by rw [List.length_take]; omega), e]
  have := mems_snoc_new (ns.take i) (ns.getD i nd0)
  rw [hl] at this
  rw [this, ← mems_pre hp (by rw [hl]; exact a1), ← mems_pre hp (by rw [hl]; exact a2)]
theorem bit_clear {x l : Nat} (h : 2 ^ (l + 1) ∣ x) : x.testBit l = false := by
  obtain ⟨k, rfl⟩ := h
  rw [Nat.testBit_eq_decide_div_mod_eq, show 2 ^ (l + 1) * k = 2 ^ l * (2 * k) by rw [Nat.pow_succ, Nat.mul_assoc], Nat.mul_div_cancel_left _ (Nat.two_pow_pos l)]
  simp
theorem bit_set {x l : Nat} (h : 2 ^ (l + 1) ∣ x) : (x + 2 ^ l).testBit l = true := by
  obtain ⟨k, rfl⟩ := h
  rw [Nat.testBit_eq_decide_div_mod_eq, show 2 ^ (l + 1) * k + 2 ^ l = 2 ^ l * (2 * k + 1) by rw [Nat.pow_succ, Nat.mul_add, Nat.mul_one, Nat.mul_assoc], Nat.mul_div_cancel_left _ (Nat.two_pow_pos l)]
  simp
theorem dvd_lt {a b x : Nat} (h : a < b) (hx : 2 ^ b ∣ x) : 2 ^ (a + 1) ∣ x := Nat.dvd_trans (Nat.pow_dvd_pow 2 h) hx
theorem dvd_up {l x : Nat} (h : 2 ^ (l + 1) ∣ x) : 2 ^ l ∣ x + 2 ^ l := Nat.dvd_add (Nat.dvd_trans (Nat.pow_dvd_pow 2 (Nat.le_succ l)) h) (Nat.dvd_refl _)
theorem up_lt {l x : Nat} (hl : l < 24) (h : 2 ^ (l + 1) ∣ x) (hx : x < 2 ^ 24) : x + 2 ^ l < 2 ^ 24 := by
  obtain ⟨k, rfl⟩ := h
  have e : 2 ^ 24 = 2 ^ (l + 1) * 2 ^ (23 - l) := by rw [← Nat.pow_add]; congr 1; omega
  rw [e] at hx ⊢
  have hk : k < 2 ^ (23 - l) := Nat.lt_of_mul_lt_mul_left hx
  have h1 : 2 ^ (l + 1) * (k + 1) ≤ 2 ^ (l + 1) * 2 ^ (23 - l) := Nat.mul_le_mul_left _ hk
  have h2 : 0 < 2 ^ l := Nat.two_pow_pos l
  have h3 : 2 ^ (l + 1) = 2 ^ l * 2 := Nat.pow_succ ..
  rw [Nat.mul_add, Nat.mul_one] at h1
  omega
theorem mems_bits (h : Wf ns) : ∀ id, id < ns.length + 2 → ∀ x, x ∈ mems ns id → 2 ^ lvl ns id ∣ x ∧ x < 2 ^ 24 := by
  intro id
  induction id using Nat.strongRecOn with
  | _ id ih =>
    intro hid x hx
    match id, ih, hid, hx with
    | 0, _, _, hx => rw [mems_0] at hx; cases hx
    | 1, _, _, hx =>
      rw [mems_1] at hx
      obtain rfl : x = 0 := by simpa using hx
      exact ⟨Nat.dvd_zero _, by decide⟩
    | i + 2, ih, hid, hx =>
      have hi : i < ns.length := by omega
      obtain ⟨a1, a2, a3, a4, a5, a6⟩ := h.ok i hi
      rw [mems_node h hi, List.mem_append, List.mem_map] at hx
      rw [lvl_node]
      rcases hx with hx | ⟨y, hy, rfl⟩
      · obtain ⟨g1, g2⟩ := ih _ a1 (by omega) x hx
        exact ⟨Nat.dvd_trans (Nat.pow_dvd_pow 2 (Nat.le_of_lt a4)) g1, g2⟩
      · obtain ⟨g1, g2⟩ := ih _ a2 (by omega) y hy
        exact ⟨dvd_up (dvd_lt a5 g1), up_lt a6 (dvd_lt a5 g1) g2⟩
theorem mems_ne (h : Wf ns) : ∀ id, id < ns.length + 2 → id ≠ 0 → ∃ x, x ∈ mems ns id := by
  intro id
  induction id using Nat.strongRecOn with
  | _ id ih =>
    intro hid h0
    match id, ih, hid, h0 with
    | 0, _, _, h0 => exact absurd rfl h0
    | 1, _, _, _ => exact ⟨0, by rw [mems_1]; exact List.mem_cons_self ..⟩
    | i + 2, ih, hid, _ =>
      have hi : i < ns.length := by omega
      obtain ⟨a1, a2, a3, _⟩ := h.ok i hi
      obtain ⟨y, hy⟩ := ih _ a2 (by omega) a3
      exact ⟨_, by rw [mems_node h hi]; exact List.mem_append_right _ (List.mem_map.2 ⟨y, hy, rfl⟩)⟩
theorem mems_nodup (h : Wf ns) : ∀ id, id < ns.length + 2 → (mems ns id).Nodup := by
  intro id
  induction id using Nat.strongRecOn with
  | _ id ih =>
    intro hid
    match id, ih, hid with
    | 0, _, _ => rw [mems_0]; exact List.nodup_nil
    | 1, _, _ => rw [mems_1]; simp
    | i + 2, ih, hid =>
      have hi : i < ns.length := by omega
      obtain ⟨a1, a2, a3, a4, a5, a6⟩ := h.ok i hi
      rw [mems_node h hi, List.nodup_append]
      refine ⟨ih _ a1 (by omega), ?_, fun x hx y hy e => ?_⟩
      · exact List.pairwise_map.2 ((ih _ a2 (by omega)).imp (fun hab e => hab (by omega)))
      · obtain ⟨z, hz, rfl⟩ := List.mem_map.1 hy
        have b1 := bit_clear (dvd_lt a4 (mems_bits h _ (by omega) x hx).1)
        have b2 := bit_set (dvd_lt a5 (mems_bits h _ (by omega) z hz).1)
        rw [e, b2] at b1
        cases b1
theorem lvl_le (h : Wf ns) {id : Nat} (hid : id < ns.length + 2) : lvl ns id ≤ 24 := by
  match id, hid with
  | 0, _ => exact Nat.le_refl _
  | 1, _ => exact Nat.le_refl _
  | i + 2, hid => rw [lvl_node]; exact Nat.le_of_lt (h.ok i (by omega)).2.2.2.2.2
theorem lvl_lt (h : Wf ns) {id : Nat} (hid : id < ns.length + 2) (h2 : 2 ≤ id) : lvl ns id < 24 := by
  obtain ⟨i, rfl⟩ : ∃ i, id = i + 2 := ⟨id - 2, by omega⟩
  rw [lvl_node]; exact (h.ok i (by omega)).2.2.2.2.2

/-! ### A family has one id -/
theorem one_id (h : Wf ns) : ∀ a, a < ns.length + 2 → ∀ b, b < ns.length + 2 → (∀ x, x ∈ mems ns a ↔ x ∈ mems ns b) → a = b := by
  have hne0 : ∀ b, b < ns.length + 2 → (∀ x, x ∈ mems ns 0 ↔ x ∈ mems ns b) → 0 = b := fun b hb hs => by
    by_cases e : b = 0
    · exact e.symm
    · obtain ⟨x, hx⟩ := mems_ne h b hb e
      have := (hs x).2 hx
      rw [mems_0] at this; cases this
  have hhi : ∀ i, i < ns.length → ∃ y, y ∈ mems ns (ns.getD i nd0).hi ∧ y + 2 ^ (ns.getD i nd0).l ∈ mems ns (i + 2) := fun i hi => by
    obtain ⟨a1, a2, a3, _⟩ := h.ok i hi
    obtain ⟨y, hy⟩ := mems_ne h _ (by omega) a3
    exact ⟨y, hy, by rw [mems_node h hi]; exact List.mem_append_right _ (List.mem_map.2 ⟨y, hy, rfl⟩)⟩
  have hne1 : ∀ i, i < ns.length → ¬ ∀ x, x ∈ mems ns 1 ↔ x ∈ mems ns (i + 2) := fun i hi hs => by
    obtain ⟨y, _, hy⟩ := hhi i hi
    have := (hs _).2 hy
    rw [mems_1] at this
    have h2 := Nat.two_pow_pos (ns.getD i nd0).l
    have h3 := List.mem_singleton.1 this
    omega
  have hlev : ∀ i j, i < ns.length → j < ns.length → (ns.getD i nd0).l < (ns.getD j nd0).l → ¬ ∀ x, x ∈ mems ns (i + 2) ↔ x ∈ mems ns (j + 2) := fun i j hi hj hl hs => by
    obtain ⟨y, hy, hm⟩ := hhi i hi
    have g1 := (mems_bits h _ (by omega) _ ((hs _).1 hm)).1
    rw [lvl_node] at g1
    obtain ⟨a1, a2, a3, a4, a5, a6⟩ := h.ok i hi
    have b1 := bit_clear (dvd_lt hl g1)
    rw [bit_set (dvd_lt a5 (mems_bits h _ (by omega) y hy).1)] at b1
    cases b1
  intro a
  induction a using Nat.strongRecOn with
  | _ a ih =>
    intro ha b hb hs
    match a, b, ih, ha, hb, hs with
    | 0, b, _, _, hb, hs => exact hne0 b hb hs
    | a + 1, 0, _, ha, _, hs => exact (hne0 (a + 1) ha (fun x => (hs x).symm)).symm
    | 1, 1, _, _, _, _ => rfl
    | 1, j + 2, _, _, hb, hs => exact absurd hs (hne1 j (by omega))
    | i + 2, 1, _, ha, _, hs => exact absurd (fun x => (hs x).symm) (hne1 i (by omega))
    | i + 2, j + 2, ih, ha, hb, hs =>
      have hi : i < ns.length := by omega
      have hj : j < ns.length := by omega
      have hl : (ns.getD i nd0).l = (ns.getD j nd0).l := by
        rcases Nat.lt_trichotomy (ns.getD i nd0).l (ns.getD j nd0).l with k | k | k
        · exact absurd hs (hlev i j hi hj k)
        · exact k
        · exact absurd (fun x => (hs x).symm) (hlev j i hj hi k)
      obtain ⟨a1, a2, a3, a4, a5, a6⟩ := h.ok i hi
      obtain ⟨c1, c2, c3, c4, c5, c6⟩ := h.ok j hj
      have hlo : (ns.getD i nd0).lo = (ns.getD j nd0).lo := ih _ a1 (by omega) _ (by omega) fun x => by
        have hx := hs x
        rw [mems_node h hi, mems_node h hj, List.mem_append, List.mem_append, List.mem_map, List.mem_map] at hx
        constructor
        · intro k
          have b1 := bit_clear (dvd_lt a4 (mems_bits h _ (by omega) x k).1)
          rcases hx.1 (.inl k) with q | ⟨y, hy, rfl⟩
          · exact q
          · rw [hl, bit_set (dvd_lt c5 (mems_bits h _ (by omega) y hy).1)] at b1; cases b1
        · intro k
          have b1 := bit_clear (dvd_lt c4 (mems_bits h _ (by omega) x k).1)
          rcases hx.2 (.inl k) with q | ⟨y, hy, rfl⟩
          · exact q
          · rw [← hl, bit_set (dvd_lt a5 (mems_bits h _ (by omega) y hy).1)] at b1; cases b1
      have hhi2 : (ns.getD i nd0).hi = (ns.getD j nd0).hi := ih _ a2 (by omega) _ (by omega) fun x => by
        have hx := hs (x + 2 ^ (ns.getD i nd0).l)
        rw [mems_node h hi, mems_node h hj, List.mem_append, List.mem_append, List.mem_map, List.mem_map] at hx
        constructor
        · intro k
          have b1 := bit_set (dvd_lt a5 (mems_bits h _ (by omega) x k).1)
          rcases hx.1 (.inr ⟨x, k, rfl⟩) with q | ⟨y, hy, e⟩
          · have b2 := bit_clear (dvd_lt c4 (mems_bits h _ (by omega) _ q).1)
            rw [← hl, b1] at b2; cases b2
          · rw [hl] at e
            obtain rfl : y = x := by omega
            exact hy
        · intro k
          have b1 := bit_set (dvd_lt c5 (mems_bits h _ (by omega) x k).1)
          rw [← hl] at b1
          rcases hx.2 (.inr ⟨x, k, by rw [hl]⟩) with q | ⟨y, hy, e⟩
          · rw [bit_clear (dvd_lt a4 (mems_bits h _ (by omega) _ q).1)] at b1; cases b1
          · obtain rfl : y = x := by omega
            exact hy
      have hn : ns.getD i nd0 = ns.getD j nd0 := by
        generalize ns.getD i nd0 = p at *
        generalize ns.getD j nd0 = q at *
        cases p; cases q
        simp only [Nd.mk.injEq]
        exact ⟨hl, hlo, hhi2⟩
      rw [List.getD_eq_getElem?_getD, List.getD_eq_getElem?_getD, List.getElem?_eq_getElem hi, List.getElem?_eq_getElem hj] at hn
      have := (List.getElem_inj h.nd).1 (show ns[i] = ns[j] from hn)
      omega
end
end

section
open Go Go.RowKit

/-! ### The map of ids -/
def idsL (ns : List Nd) : List (Nd × Int) := ns.zipIdx.map fun p => (p.1, ((p.2 + 2 : Nat) : Int))
theorem idsL_keys (ns : List Nd) : (idsL ns).map (·.1) = ns := by
  unfold idsL
  rw [List.map_map]
  exact List.zipIdx_map_fst 0 ns
theorem idsL_len (ns : List Nd) : (idsL ns).length = ns.length := by unfold idsL; simp
theorem idsL_snoc (ns : List Nd) (n : Nd) : idsL (ns ++ [n]) = idsL ns ++ [(n, ((ns.length + 2 : Nat) : Int))] := by
  unfold idsL
  rw [List.zipIdx_append, List.map_append]
  simp
theorem idsL_put {ns : List Nd} {n : Nd} (h : n ∉ ns) : putL (idsL ns) n ((ns.length + 2 : Nat) : Int) = idsL (ns ++ [n]) := by
  unfold putL
  rw [idsL_keys, if_neg h, idsL_snoc]
theorem idsL_some {ns : List Nd} (hn : ns.Nodup) {n : Nd} {v : Int} (h : getL (idsL ns) n = some v) : ∃ i, i < ns.length ∧ ns.getD i nd0 = n ∧ v = ((i + 2 : Nat) : Int) := by
  have hm := (getL_some (by rw [idsL_keys]; exact hn)).1 h
  unfold idsL at hm
  obtain ⟨p, hp, e⟩ := List.mem_map.1 hm
  simp only [Prod.mk.injEq] at e
  obtain ⟨e1, e2⟩ := e
  have h2 := List.mem_zipIdx hp
  refine ⟨p.2, by omega, ?_, e2.symm⟩
  rw [List.getD_eq_getElem?_getD, List.getElem?_eq_getElem (by omega), ← e1]
  have := h2.2.2
  simp only [Nat.sub_zero] at this
  simp [this]
theorem idsL_none {ns : List Nd} {n : Nd} (h : getL (idsL ns) n = none) : n ∉ ns := by
  have := getL_none.1 h
  rwa [idsL_keys] at this

/-! ### What a deed leaves as it was -/
/-- All old blocks are as they were, but for those of xs and those of type Tn, from block N on. -/
structure Dx (Tn : TypeId) (N : Nat) (xs : List Nat) (w w' : World) : Prop where
  os : w'.os = w.os
  tape : w'.tape = w.tape
  output : w'.output = w.output
  size : w.heap.size ≤ w'.heap.size
  block : ∀ k, k < w.heap.size → (k < N ∨ (k ∉ xs ∧ ∀ c fr, w.heap[k]? ≠ some (.cells c Tn fr))) → w'.heap[k]? = w.heap[k]?

section
variable {Tn T : TypeId} {N : Nat} {xs : List Nat} {w w' w'' : World}
theorem Dx.refl : Dx Tn N xs w w := ⟨rfl, rfl, rfl, Nat.le_refl _, fun _ _ _ => rfl⟩
theorem Dx.trans (h : Dx Tn N xs w w') (k : Dx Tn N xs w' w'') : Dx Tn N xs w w'' := by
  refine ⟨k.os.trans h.os, k.tape.trans h.tape, k.output.trans h.output, Nat.le_trans h.size k.size, fun j hj hc => ?_⟩
  have e := h.block j hj hc
  rw [k.block j (Nat.lt_of_lt_of_le hj h.size) (hc.imp id fun ⟨a, b⟩ => ⟨a, fun c fr => by rw [e]; exact b c fr⟩), e]
theorem Dx.ext (h : Ext w w') : Dx Tn N xs w w' := ⟨Below.os h, Below.tape h, Below.output h, Below.size h, fun k hk _ => Below.block h k hk⟩
theorem Dx.grown {b : Nat} (h : w.grownBy w' (some b)) (hb : b ∈ xs) (hN : N ≤ b) : Dx Tn N xs w w' := by
  refine ⟨h.os, h.tape, h.output, h.size, fun k hk hc => h.block k hk fun e => ?_⟩
  cases e
  rcases hc with hc | ⟨hc, _⟩
  · omega
  · exact hc hb
theorem Dx.row {α : Type} {enc : α → List Value} {sz : Nat} {v : Value} {l : List α} (k : OwT enc sz Tn w N v l) (h : w.grownBy w' v.ownBlock) : Dx Tn N xs w w' := by
  refine ⟨h.os, h.tape, h.output, h.size, fun j hj hc => h.block j hj fun e => ?_⟩
  obtain ⟨_, h2 | ⟨g, cap, cur, h3, hg, hh, _⟩⟩ := k
  · rw [h2.1] at e; cases e
  · rw [h3] at e
    obtain rfl : j = g := Option.some.inj e
    rcases hc with hc | ⟨_, hc⟩
    · omega
    · exact hc _ _ hh
theorem Dx.mono {ys : List Nat} (h : Dx Tn N xs w w') (hs : ∀ x, x ∈ xs → x ∈ ys) : Dx Tn N ys w w' := ⟨h.os, h.tape, h.output, h.size, fun k hk hc => h.block k hk (hc.imp id fun ⟨a, b⟩ => ⟨fun q => a (hs k q), b⟩)⟩
/-- A block that was not there at first is no loss. -/
theorem Dx.new {b : Nat} (h : Dx Tn N xs w w') (hb : w.heap.size ≤ b) (k : Dx Tn N (b :: xs) w' w'') : Dx Tn N xs w w'' := by
  refine ⟨k.os.trans h.os, k.tape.trans h.tape, k.output.trans h.output, Nat.le_trans h.size k.size, fun j hj hc => ?_⟩
  have e := h.block j hj hc
  rw [k.block j (Nat.lt_of_lt_of_le hj h.size) (hc.imp id fun ⟨a, q⟩ => ⟨fun m => (List.mem_cons.1 m).elim (fun e => by omega) a, fun c fr => by rw [e]; exact q c fr⟩), e]
theorem Below.dx {B : Nat} {w0 : World} (hB : Go.RowKit.Below B w0 w) (hN : B ≤ N) (hs : B ≤ w0.heap.size) (h : Dx Tn N xs w w') : Go.RowKit.Below B w0 w' :=
  ⟨h.os.trans hB.os, h.tape.trans hB.tape, h.output.trans hB.output, Nat.le_trans hB.size h.size, fun k hk => (h.block k (by have := hB.size; omega) (.inl (by omega))).trans (hB.block k hk)⟩
end

/-! ### An arena -/
structure Dia (Ta Tn : TypeId) (N ba bm R : Nat) (w : World) (ns : List Nd) : Prop where
  out : ∃ nv, At w ba #[.int .i64 (R : Int), nv, .map (some bm)] Ta ∧ OwT encN 3 Tn w N nv ns
  hm : MapT keyN keyI w bm (idsL ns)
  la : N ≤ ba
  lm : N ≤ bm
  wf : Wf ns
  room : ns.length ≤ R
  top : R ≤ 20000

section
variable {Ta Tn T T' : TypeId} {N N' ba bm R b sz : Nat} {xs : List Nat} {w w' W : World} {ns : List Nd} {c : Array Value} {v : Value}
theorem Dia.ext (h : Ext w w') (k : Dia Ta Tn N ba bm R w ns) : Dia Ta Tn N ba bm R w' ns := by
  obtain ⟨nv, h1, h2⟩ := k.out
  exact ⟨⟨nv, h.at h1, h.ow h2⟩, h.mapT k.hm, k.la, k.lm, k.wf, k.room, k.top⟩
theorem Dia.mono (k : Dia Ta Tn N ba bm R w ns) (h : N' ≤ N) : Dia Ta Tn N' ba bm R w ns := by
  obtain ⟨nv, h1, h2⟩ := k.out
  exact ⟨⟨nv, h1, h2.mono h⟩, k.hm, Nat.le_trans h k.la, Nat.le_trans h k.lm, k.wf, k.room, k.top⟩
theorem Below.ow {α : Type} {enc : α → List Value} {l : List α} (h : Go.RowKit.Below w.heap.size w W) (k : OwT enc sz T w N v l) : OwT enc sz T W N v l :=
  World.ownsRow.kept k (row := none) ⟨h.os, h.tape, h.output, h.size, fun j hj _ => h.block j hj⟩ (by cases v.ownBlock <;> simp)
theorem Below.mapI {α β : Type} {enc : α → Value} {encV : β → Value} {l : List (α × β)} (h : Go.RowKit.Below w.heap.size w W) (k : MapT enc encV w b l) : MapT enc encV W b l := k.moved (h.block b k.lt)
theorem Dia.below (h : Go.RowKit.Below w.heap.size w W) (k : Dia Ta Tn N ba bm R w ns) : Dia Ta Tn N ba bm R W ns := by
  obtain ⟨nv, h1, h2⟩ := k.out
  exact ⟨⟨nv, Below.atI h h1, Below.ow h h2⟩, Below.mapI h k.hm, k.la, k.lm, k.wf, k.room, k.top⟩
theorem Dia.grownAt (k : Dia Ta Tn N ba bm R w ns) (hm : At w b c T) (hG : w.grownBy w' (some b)) (hTa : T ≠ Ta) (hTn : T ≠ Tn) : Dia Ta Tn N ba bm R w' ns := by
  obtain ⟨nv, h1, h2⟩ := k.out
  exact ⟨⟨nv, h1.grownAt hm hG hTa.symm, h2.grownAt hm hG hTn⟩, k.hm.grownAt hm hG, k.la, k.lm, k.wf, k.room, k.top⟩
theorem Dia.grownOw {α : Type} {enc : α → List Value} {l : List α} (k : Dia Ta Tn N ba bm R w ns) (ho : OwT enc sz T w N' v l) (hG : w.grownBy w' v.ownBlock) (hTa : T ≠ Ta) (hTn : T ≠ Tn) : Dia Ta Tn N ba bm R w' ns := by
  obtain ⟨nv, h1, h2⟩ := k.out
  exact ⟨⟨nv, h1.grownOw ho hG hTa.symm, h2.grownOw ho hG hTn.symm⟩, k.hm.grownOw ho hG, k.la, k.lm, k.wf, k.room, k.top⟩
theorem Dia.grownMap {α β : Type} {enc : α → Value} {encV : β → Value} {l : List (α × β)} (k : Dia Ta Tn N ba bm R w ns) (hm : MapT enc encV w b l) (hne : b ≠ bm) (hG : w.grownBy w' (some b)) : Dia Ta Tn N ba bm R w' ns := by
  obtain ⟨nv, h1, h2⟩ := k.out
  exact ⟨⟨nv, h1.grownMap hm hG, h2.grownMap hm hG⟩, k.hm.grownNe hne.symm hG, k.la, k.lm, k.wf, k.room, k.top⟩
theorem Dia.ne (k : Dia Ta Tn N ba bm R w ns) (hm : At w b c T) (hTa : T ≠ Ta) : b ≠ ba ∧ b ≠ bm := by
  obtain ⟨nv, h1, h2⟩ := k.out
  exact ⟨fun e => by subst e; exact At.neT hm h1 hTa rfl, fun e => by subst e; exact At.ne_map hm k.hm rfl⟩
theorem At.dx (k : Dia Ta Tn N ba bm R w ns) (hx : Dx Tn N [ba, bm] w w') (hm : At w b c T) (hTa : T ≠ Ta) (hTn : T ≠ Tn) : At w' b c T := by
  obtain ⟨n1, n2⟩ := k.ne hm hTa
  unfold At at *
  rw [hx.block b (lt_of_block hm) (.inr ⟨by simp [n1, n2], fun c' fr e => by rw [hm] at e; simp at e; exact hTn e.2.1⟩)]
  exact hm
theorem At.dx3 {bx : Nat} (k : Dia Ta Tn N ba bm R w ns) (hx : Dx Tn N [bx, ba, bm] w w') (hm : At w b c T) (hTa : T ≠ Ta) (hTn : T ≠ Tn) (hne : b ≠ bx) : At w' b c T := by
  obtain ⟨n1, n2⟩ := k.ne hm hTa
  unfold At at *
  rw [hx.block b (lt_of_block hm) (.inr ⟨by simp [n1, n2, hne], fun c' fr e => by rw [hm] at e; simp at e; exact hTn e.2.1⟩)]
  exact hm
theorem OwT.dx {α : Type} {enc : α → List Value} {l : List α} (k : Dia Ta Tn N ba bm R w ns) (hx : Dx Tn N [ba, bm] w w') (ho : OwT enc sz T w N' v l) (hTa : T ≠ Ta) (hTn : T ≠ Tn) : OwT enc sz T w' N' v l := by
  obtain ⟨h1, h2 | ⟨g, cap, cur, h3, hg, hh, r⟩⟩ := ho
  · exact ⟨h1, .inl h2⟩
  · refine ⟨h1, .inr ⟨g, cap, cur, h3, hg, ?_, r⟩⟩
    exact At.dx (c := cur) k hx hh hTa hTn
theorem MapT.dx {α β : Type} {enc : α → Value} {encV : β → Value} {l : List (α × β)} (k : Dia Ta Tn N ba bm R w ns) (hx : Dx Tn N [ba, bm] w w') (hm : MapT enc encV w b l) (hne : b ≠ bm) : MapT enc encV w' b l := by
  obtain ⟨nv, h1, h2⟩ := k.out
  obtain ⟨f, ck, hf⟩ := hm
  refine ⟨f, ck, hf.moved (hx.block b hf.lt (.inr ⟨?_, fun c' fr e => ?_⟩))⟩
  · have : b ≠ ba := fun e => by subst e; exact At.ne_map h1 ⟨f, ck, hf⟩ rfl
    simp [this, hne]
  · rw [hf.heap] at e; cases e
end

/-! ### Outcomes -/
/-- A deed comes to the id of S, or no node is left. -/
structure Got (ns ns' : List Nd) (R c l : Nat) (S : Nat → Prop) (id : Nat) (er : Int) : Prop where
  pre : ns <+: ns'
  cost : ns'.length ≤ ns.length + c
  res : (er = 0 ∧ id < ns'.length + 2 ∧ l ≤ lvl ns' id ∧ ∀ x, x ∈ mems ns' id ↔ S x) ∨ (er = 5 ∧ id = 0 ∧ R ≤ ns'.length)
def PO (Ta Tn : TypeId) (N ba bm R : Nat) (w : World) (ns : List Nd) (c l : Nat) (S : Nat → Prop) (v : Value) (w' : World) : Prop :=
  ∃ (ns' : List Nd) (id : Nat) (er : Int), v = .tuple #[.int .i64 (id : Int), .int .i64 er] ∧ Dx Tn N [ba, bm] w w' ∧ Dia Ta Tn N ba bm R w' ns' ∧ Got ns ns' R c l S id er

section
variable {ns ns' ns1 ns2 ns3 : List Nd} {R c c1 c2 l : Nat} {S S1 S2 : Nat → Prop} {id f : Nat} {er : Int}
theorem pre_len (h : ns <+: ns') : ns.length ≤ ns'.length := h.length_le
theorem Got.same (hid : id < ns.length + 2) (hl : l ≤ lvl ns id) (h : ∀ x, x ∈ mems ns id ↔ S x) : Got ns ns R c l S id 0 := ⟨List.prefix_refl _, by omega, .inl ⟨rfl, hid, hl, h⟩⟩
theorem Got.fail (g : Got ns ns1 R c1 l S1 id er) (he : ¬ er = 0) (hc : c1 ≤ c) {l2 : Nat} : Got ns ns1 R c l2 S 0 er := by
  refine ⟨g.pre, by have := g.cost; omega, .inr ?_⟩
  rcases g.res with h | h
  · exact absurd h.1 he
  · exact ⟨h.1, rfl, h.2.2⟩
theorem Got.fail2 (g : Got ns ns1 R c1 l S1 id er) {l1 l2 id1 : Nat} {er1 : Int} (g2 : Got ns1 ns2 R c2 l1 S2 id1 er1) (he : ¬ er1 = 0) (hc : c1 + c2 ≤ c) : Got ns ns2 R c l2 S 0 er1 := by
  have h := Got.fail (S := S) (l2 := l2) g2 he (Nat.le_refl _)
  refine ⟨g.pre.trans h.pre, by have := g.cost; have := h.cost; omega, h.res⟩
theorem Got.ok (g : Got ns ns1 R c1 l S1 id er) (he : er = 0) : id < ns1.length + 2 ∧ l ≤ lvl ns1 id ∧ ∀ x, x ∈ mems ns1 id ↔ S1 x := by
  rcases g.res with h | h
  · exact h.2
  · rw [h.1] at he; cases he
theorem Got.weak (g : Got ns ns1 R c1 l S1 id er) (hc : c1 ≤ c) (h : ∀ x, S1 x ↔ S x) : Got ns ns1 R c l S id er :=
  ⟨g.pre, by have := g.cost; omega, g.res.imp (fun ⟨a, b, d, e⟩ => ⟨a, b, d, fun x => (e x).trans (h x)⟩) _root_.id⟩
theorem Got.then' (g : Got ns ns1 R c1 l S1 id er) {l2 id2 : Nat} {er2 : Int} (g2 : Got ns1 ns2 R c2 l2 S id2 er2) (hc : c1 + c2 ≤ c) : Got ns ns2 R c l2 S id2 er2 :=
  ⟨g.pre.trans g2.pre, by have := g.cost; have := g2.cost; omega, g2.res⟩
/-- An id's members, in what has come since. -/
theorem Got.old (g : Got ns ns1 R c1 l S1 id er) (h : f < ns.length + 2) : f < ns1.length + 2 ∧ mems ns1 f = mems ns f ∧ lvl ns1 f = lvl ns f :=
  ⟨by have := pre_len g.pre; omega, mems_pre g.pre h, lvl_pre g.pre h⟩
end

/-! ### Halves -/
def up (l : Nat) (P Q : Nat → Prop) (x : Nat) : Prop := P x ∨ ∃ y, Q y ∧ x = y + 2 ^ l
def halfA (ns : List Nd) (f l : Nat) : Nat := if 2 ≤ f ∧ lvl ns f = l then (ns.getD (f - 2) nd0).lo else f
def halfB (ns : List Nd) (f l : Nat) : Nat := if 2 ≤ f ∧ lvl ns f = l then (ns.getD (f - 2) nd0).hi else 0
structure Half (ns : List Nd) (f l a b : Nat) : Prop where
  va : a < ns.length + 2
  vb : b < ns.length + 2
  la : l < lvl ns a
  lb : l < lvl ns b
  mem : ∀ x, x ∈ mems ns f ↔ up l (· ∈ mems ns a) (· ∈ mems ns b) x
  cnt : (mems ns f).length = (mems ns a).length + (mems ns b).length
theorem half_of {ns : List Nd} (h : Wf ns) {f l : Nat} (hf : f < ns.length + 2) (hl : l ≤ lvl ns f) (h24 : l < 24) : Half ns f l (halfA ns f l) (halfB ns f l) := by
  unfold halfA halfB
  by_cases hc : 2 ≤ f ∧ lvl ns f = l
  · rw [if_pos hc, if_pos hc]
    obtain ⟨i, rfl⟩ : ∃ i, f = i + 2 := ⟨f - 2, by omega⟩
    have hi : i < ns.length := by omega
    obtain ⟨a1, a2, a3, a4, a5, a6⟩ := h.ok i hi
    have hl2 := hc.2
    rw [lvl_node] at hl2
    rw [Nat.add_sub_cancel]
    refine ⟨by omega, by omega, by omega, by omega, fun x => ?_, ?_⟩
    · rw [mems_node h hi, List.mem_append, List.mem_map, hl2]
      exact or_congr Iff.rfl ⟨fun ⟨y, h1, h2⟩ => ⟨y, h1, h2.symm⟩, fun ⟨y, h1, h2⟩ => ⟨y, h1, h2.symm⟩⟩
    · rw [mems_node h hi, List.length_append, List.length_map]
  · rw [if_neg hc, if_neg hc]
    have hlt : l < lvl ns f := by
      rcases Nat.lt_or_ge l (lvl ns f) with k | k
      · exact k
      · exfalso
        have e : lvl ns f = l := by omega
        have : ¬ 2 ≤ f := fun q => hc ⟨q, e⟩
        rw [lvl_small (by omega)] at e
        omega
    refine ⟨hf, by omega, hlt, by rw [lvl_small (by decide)]; exact h24, fun x => ?_, by rw [mems_0]; rfl⟩
    unfold up
    rw [mems_0]
    simp
end

section
open Go Go.RowKit

abbrev M (ns : List Nd) (f : Nat) : Nat → Prop := fun x => x ∈ mems ns f
theorem M_pre {ns ns' : List Nd} {f : Nat} (hp : ns <+: ns') (h : f < ns.length + 2) : M ns' f = M ns f := by
  unfold M; rw [mems_pre hp h]
/-- All members stand above a level. -/
def lev (l : Nat) (P : Nat → Prop) : Prop := ∀ x, P x → 2 ^ (l + 1) ∣ x
theorem lev_M {ns : List Nd} (h : Wf ns) {f l : Nat} (hf : f < ns.length + 2) (hl : l < lvl ns f) : lev l (M ns f) := fun x hx => dvd_lt hl (mems_bits h f hf x hx).1
theorem set_ext' {P Q : Nat → Prop} (h : ∀ x, P x ↔ Q x) : P = Q := funext fun x => propext (h x)

/-! ### Numbers as sets -/
theorem or_up1 {l a b : Nat} (ha : 2 ^ (l + 1) ∣ a) (hb : 2 ^ (l + 1) ∣ b) : (a + 2 ^ l) ||| b = (a ||| b) + 2 ^ l ∧ a ||| (b + 2 ^ l) = (a ||| b) + 2 ^ l ∧ (a + 2 ^ l) ||| (b + 2 ^ l) = (a ||| b) + 2 ^ l ∧ 2 ^ (l + 1) ∣ a ||| b := by
  obtain ⟨p, rfl⟩ := ha
  obtain ⟨q, rfl⟩ := hb
  have sh : ∀ u v : Nat, 2 ^ l * u ||| 2 ^ l * v = 2 ^ l * (u ||| v) := fun u v => by
    rw [Nat.mul_comm, Nat.mul_comm (2 ^ l) v, Nat.mul_comm (2 ^ l) (u ||| v), ← Nat.shiftLeft_eq, ← Nat.shiftLeft_eq, ← Nat.shiftLeft_eq, Nat.shiftLeft_or_distrib]
  have e0 : ∀ u : Nat, 2 ^ (l + 1) * u = 2 ^ l * (2 * u) := fun u => by rw [Nat.pow_succ, Nat.mul_assoc]
  have e1 : ∀ u : Nat, 2 ^ l * (2 * u) + 2 ^ l = 2 ^ l * (2 * u + 1) := fun u => by rw [Nat.mul_add, Nat.mul_one]
  have b0 : ∀ u v : Nat, 2 * u ||| 2 * v = 2 * (u ||| v) := fun u v => by
    have := fun u v => (Nat.shiftLeft_or_distrib (a := u) (b := v) (i := 1))
    simp only [Nat.shiftLeft_eq, Nat.pow_one] at this
    rw [Nat.mul_comm 2 u, Nat.mul_comm 2 v, Nat.mul_comm 2 (u ||| v), this]
  have odd : ∀ u v : Nat, (u % 2 = 1 ∨ v % 2 = 1) → u ||| v = 2 * (u / 2 ||| v / 2) + 1 := fun u v h => by
    refine Nat.eq_of_testBit_eq fun i => ?_
    cases i with
    | zero =>
      rw [Nat.testBit_or, Nat.testBit_zero, Nat.testBit_zero, Nat.testBit_zero]
      rcases h with h | h <;> simp [h] <;> omega
    | succ i =>
      rw [Nat.testBit_or, Nat.testBit_succ, Nat.testBit_succ, Nat.testBit_succ, ← Nat.testBit_or]
      congr 1
      omega
  have o1 : (2 * p + 1) ||| (2 * q) = 2 * (p ||| q) + 1 := by
    rw [odd _ _ (.inl (by omega)), show (2 * p + 1) / 2 = p by omega, show 2 * q / 2 = q by omega]
  have o2 : (2 * p) ||| (2 * q + 1) = 2 * (p ||| q) + 1 := by
    rw [odd _ _ (.inr (by omega)), show (2 * q + 1) / 2 = q by omega, show 2 * p / 2 = p by omega]
  have o3 : (2 * p + 1) ||| (2 * q + 1) = 2 * (p ||| q) + 1 := by
    rw [odd _ _ (.inl (by omega)), show (2 * p + 1) / 2 = p by omega, show (2 * q + 1) / 2 = q by omega]
  rw [e0, e0, e1, e1]
  refine ⟨?_, ?_, ?_, ?_⟩
  · rw [sh, sh, o1, b0, e1]
  · rw [sh, sh, o2, b0, e1]
  · rw [sh, sh, o3, b0, e1]
  · exact ⟨p ||| q, by rw [sh, b0, e0]⟩

/-- Does x hold y? -/
def holdsN (x y : Nat) : Prop := x ||| y = x
theorem up_dj {l : Nat} {P Q : Nat → Prop} (hP : lev l P) (hQ : lev l Q) {x : Nat} : (x.testBit l = false → (up l P Q x ↔ P x)) ∧ ∀ y, 2 ^ (l + 1) ∣ y → (up l P Q (y + 2 ^ l) ↔ Q y) := by
  refine ⟨fun hb => ⟨fun h => ?_, .inl⟩, fun y hy => ⟨fun h => ?_, fun h => .inr ⟨y, h, rfl⟩⟩⟩
  · rcases h with h | ⟨y, hy, rfl⟩
    · exact h
    · rw [bit_set (hQ y hy)] at hb; cases hb
  · rcases h with h | ⟨z, hz, e⟩
    · have := bit_clear (hP _ h)
      rw [bit_set hy] at this; cases this
    · obtain rfl : y = z := by omega
      exact hz

/-! ### How great the members are -/
def bl (x : Nat) : Nat := if x = 0 then 0 else Nat.log2 x + 1
theorem bl_le {x T : Nat} : bl x ≤ T ↔ x < 2 ^ T := by
  unfold bl
  by_cases h : x = 0
  · rw [if_pos h, h]
    exact ⟨fun _ => Nat.two_pow_pos T, fun _ => Nat.zero_le _⟩
  · rw [if_neg h, ← Nat.log2_lt h]; omega
def tpL (l : List Nat) : Nat := l.foldr (fun x t => max (bl x) t) 0
theorem tpL_le {T : Nat} : ∀ {l : List Nat}, tpL l ≤ T ↔ ∀ x, x ∈ l → x < 2 ^ T
  | [] => ⟨fun _ x h => by (cases h), fun _ => Nat.zero_le _⟩
  | y :: l => by
    have ih := tpL_le (T := T) (l := l)
    have e : tpL (y :: l) = max (bl y) (tpL l) := rfl
    rw [e, Nat.max_le, bl_le, ih]
    exact ⟨fun ⟨h1, h2⟩ x hx => by
      (rcases List.mem_cons.1 hx with rfl | hx
       · exact h1
       · exact h2 x hx), fun h => ⟨h y (List.mem_cons_self ..), fun x hx => h x (List.mem_cons_of_mem _ hx)⟩⟩
/-- No member reaches an item. -/
def tp (ns : List Nd) (f : Nat) : Nat := tpL (mems ns f)
theorem tp_le {ns : List Nd} {f T : Nat} : tp ns f ≤ T ↔ ∀ x, x ∈ mems ns f → x < 2 ^ T := tpL_le
theorem tp_pre {ns ns' : List Nd} {f : Nat} (hp : ns <+: ns') (h : f < ns.length + 2) : tp ns' f = tp ns f := by unfold tp; rw [mems_pre hp h]
theorem Half.tpa {ns : List Nd} {f l a b : Nat} (H : Half ns f l a b) : tp ns a ≤ tp ns f := tp_le.2 fun x hx => tp_le.1 (Nat.le_refl _) x ((H.mem x).2 (.inl hx))
theorem Half.tpb {ns : List Nd} {f l a b : Nat} (H : Half ns f l a b) : tp ns b ≤ tp ns f := tp_le.2 fun x hx => by
  have := tp_le.1 (Nat.le_refl (tp ns f)) (x + 2 ^ l) ((H.mem _).2 (.inr ⟨x, hx, rfl⟩))
  exact Nat.lt_of_le_of_lt (Nat.le_add_right _ _) this
theorem node_top {ns : List Nd} (h : Wf ns) {f : Nat} (hf : f < ns.length + 2) (h2 : 2 ≤ f) : lvl ns f < tp ns f := by
  have h24 := lvl_lt h hf h2
  have H := half_of h hf (Nat.le_refl _) h24
  have e : halfB ns f (lvl ns f) = (ns.getD (f - 2) nd0).hi := if_pos ⟨h2, rfl⟩
  obtain ⟨i, rfl⟩ : ∃ i, f = i + 2 := ⟨f - 2, by omega⟩
  rw [Nat.add_sub_cancel] at e
  have hne : halfB ns (i + 2) (lvl ns (i + 2)) ≠ 0 := by rw [e]; exact (h.ok i (by omega)).2.2.1
  obtain ⟨y, hy⟩ := mems_ne h _ H.vb hne
  have hm : y + 2 ^ lvl ns (i + 2) ∈ mems ns (i + 2) := (H.mem _).2 (.inr ⟨y, hy, rfl⟩)
  have := tp_le.1 (Nat.le_refl (tp ns (i + 2))) _ hm
  exact (Nat.pow_lt_pow_iff_right (a := 2) (by decide)).1 (Nat.lt_of_le_of_lt (Nat.le_add_left _ _) this)
theorem halfA_pre {ns ns' : List Nd} {f l : Nat} (hp : ns <+: ns') (h : f < ns.length + 2) : halfA ns' f l = halfA ns f l ∧ halfB ns' f l = halfB ns f l := by
  unfold halfA halfB
  rw [lvl_pre hp h]
  by_cases hc : 2 ≤ f ∧ lvl ns f = l
  · rw [if_pos hc, if_pos hc, if_pos hc, if_pos hc, getD_pre hp (by omega)]
    exact ⟨rfl, rfl⟩
  · rw [if_neg hc, if_neg hc, if_neg hc, if_neg hc]
    exact ⟨rfl, rfl⟩

/-! ### Deeds -/
structure Op where
  res : (Nat → Prop) → (Nat → Prop) → Nat → Prop
  resH : (Nat → Prop) → (Nat → Prop) → (Nat → Prop) → (Nat → Prop) → Nat → Prop
  ends : Nat → Nat → Nat × Bool
  cst : List Nd → Nat → Nat → Nat
  hcst : List Nd → Nat → Nat → Nat → Nat → Nat → Nat
structure OpOk (o : Op) : Prop where
  dec : ∀ l A0 A1 B0 B1, lev l A0 → lev l A1 → lev l B0 → lev l B1 → ∀ x, o.res (up l A0 A1) (up l B0 B1) x ↔ up l (o.res A0 B0) (o.resH A0 A1 B0 B1) x
  endT : ∀ ns f g, Wf ns → f < ns.length + 2 → g < ns.length + 2 → (o.ends f g).2 = true → (o.ends f g).1 < ns.length + 2 ∧ min (lvl ns f) (lvl ns g) ≤ lvl ns (o.ends f g).1 ∧ ∀ x, x ∈ mems ns (o.ends f g).1 ↔ o.res (M ns f) (M ns g) x
  endF : ∀ f g, (o.ends f g).2 = false → f ≠ 0 ∧ g ≠ 0 ∧ ¬ (f < 2 ∧ g < 2)
  cost : ∀ ns f g l, Wf ns → f < ns.length + 2 → g < ns.length + 2 → (o.ends f g).2 = false → l = min (lvl ns f) (lvl ns g) → l < 24 → o.cst ns (halfA ns f l) (halfA ns g l) + o.hcst ns l (halfA ns f l) (halfB ns f l) (halfA ns g l) (halfB ns g l) + 1 ≤ o.cst ns f g
  hpre : ∀ ns ns' l f0 f1 g0 g1, ns <+: ns' → Wf ns → f0 < ns.length + 2 → f1 < ns.length + 2 → g0 < ns.length + 2 → g1 < ns.length + 2 → o.hcst ns' l f0 f1 g0 g1 = o.hcst ns l f0 f1 g0 g1
theorem costP : ∀ k k1 a0 a1 b0 b1, k1 < k → 1 ≤ a0 + a1 → 1 ≤ b0 + b1 → k1 * min a0 b0 + (k - 1) * min a1 b1 + 1 ≤ k * min (a0 + a1) (b0 + b1) := by
  intro k k1 a0 a1 b0 b1 hk h1 h2
  obtain ⟨m, rfl⟩ : ∃ m, k = m + 1 := ⟨k - 1, by omega⟩
  rw [Nat.add_sub_cancel]
  have e1 : k1 * min a0 b0 ≤ m * min a0 b0 := Nat.mul_le_mul_right _ (by omega)
  have e2 : m * min a0 b0 + m * min a1 b1 ≤ m * min (a0 + a1) (b0 + b1) := by
    rw [← Nat.mul_add]
    exact Nat.mul_le_mul_left _ (by omega)
  have e3 : 1 ≤ min (a0 + a1) (b0 + b1) := by omega
  rw [Nat.add_mul, Nat.one_mul]
  omega
/-- What a deed may need, step by step. -/
def cP (en : Nat → Nat → Nat × Bool) : Nat → List Nd → Nat → Nat → Nat
  | 0, _, _, _ => 0
  | n + 1, ns, f, g => if (en f g).2 = true then 0 else cP en n ns (halfA ns f (min (lvl ns f) (lvl ns g))) (halfA ns g (min (lvl ns f) (lvl ns g))) + cP en n ns (halfB ns f (min (lvl ns f) (lvl ns g))) (halfB ns g (min (lvl ns f) (lvl ns g))) + 1
def cE (en : Nat → Nat → Nat × Bool) (ns : List Nd) (f g : Nat) : Nat := cP en (25 - min (lvl ns f) (lvl ns g)) ns f g
def hE (en : Nat → Nat → Nat × Bool) (ns : List Nd) (_ _ f1 _ g1 : Nat) : Nat := cE en ns f1 g1
section
variable {en : Nat → Nat → Nat × Bool} {ns ns' : List Nd}
theorem cP_succ : ∀ (n f g : Nat), cP en n ns f g ≤ cP en (n + 1) ns f g
  | 0, _, _ => Nat.zero_le _
  | n + 1, f, g => by
    rw [cP, cP]
    by_cases h : (en f g).2 = true
    · rw [if_pos h, if_pos h]; exact Nat.le_refl _
    · rw [if_neg h, if_neg h]
      have h1 := cP_succ n (halfA ns f (min (lvl ns f) (lvl ns g))) (halfA ns g (min (lvl ns f) (lvl ns g)))
      have h2 := cP_succ n (halfB ns f (min (lvl ns f) (lvl ns g))) (halfB ns g (min (lvl ns f) (lvl ns g)))
      omega
theorem cP_mono {n m : Nat} (h : n ≤ m) (f g : Nat) : cP en n ns f g ≤ cP en m ns f g := by
  obtain ⟨d, rfl⟩ : ∃ d, m = n + d := ⟨m - n, by omega⟩
  clear h
  induction d with
  | zero => exact Nat.le_refl _
  | succ d ih => exact Nat.le_trans ih (cP_succ _ _ _)
theorem half_v (h : Wf ns) {f l : Nat} (hf : f < ns.length + 2) (hl : l ≤ lvl ns f) : halfA ns f l < ns.length + 2 ∧ halfB ns f l < ns.length + 2 := by
  by_cases h24 : l < 24
  · have H := half_of h hf hl h24
    exact ⟨H.va, H.vb⟩
  · have : ¬ 2 ≤ f := fun q => by have := lvl_lt h hf q; omega
    unfold halfA halfB
    rw [if_neg (fun k => this k.1), if_neg (fun k => this k.1)]
    exact ⟨hf, by omega⟩
theorem cP_pre (hp : ns <+: ns') (h : Wf ns) : ∀ (n f g : Nat), f < ns.length + 2 → g < ns.length + 2 → cP en n ns' f g = cP en n ns f g
  | 0, _, _, _, _ => rfl
  | n + 1, f, g, hf, hg => by
    rw [cP, cP, lvl_pre hp hf, lvl_pre hp hg, (halfA_pre hp hf).1, (halfA_pre hp hf).2, (halfA_pre hp hg).1, (halfA_pre hp hg).2]
    obtain ⟨v1, v2⟩ := half_v h hf (Nat.min_le_left (lvl ns f) (lvl ns g))
    obtain ⟨v3, v4⟩ := half_v h hg (Nat.min_le_right (lvl ns f) (lvl ns g))
    rw [cP_pre hp h n _ _ v1 v3, cP_pre hp h n _ _ v2 v4]
theorem cE_pre (hp : ns <+: ns') (h : Wf ns) {f g : Nat} (hf : f < ns.length + 2) (hg : g < ns.length + 2) : cE en ns' f g = cE en ns f g := by
  unfold cE
  rw [lvl_pre hp hf, lvl_pre hp hg, cP_pre hp h _ _ _ hf hg]
theorem cE_step (h : Wf ns) {f g l : Nat} (hf : f < ns.length + 2) (hg : g < ns.length + 2) (he : (en f g).2 = false) (hl : l = min (lvl ns f) (lvl ns g)) (h24 : l < 24) :
    cE en ns (halfA ns f l) (halfA ns g l) + hE en ns l (halfA ns f l) (halfB ns f l) (halfA ns g l) (halfB ns g l) + 1 ≤ cE en ns f g := by
  have H1 := half_of h hf (l := l) (by omega) h24
  have H2 := half_of h hg (l := l) (by omega) h24
  have k1 := H1.la
  have k2 := H1.lb
  have k3 := H2.la
  have k4 := H2.lb
  unfold hE
  rw [show cE en ns f g = cP en (24 - l + 1) ns f g by unfold cE; rw [← hl]; congr 1; omega, cP, if_neg (by rw [he]; decide), ← hl]
  have h1 := cP_mono (en := en) (ns := ns) (show 25 - min (lvl ns (halfA ns f l)) (lvl ns (halfA ns g l)) ≤ 24 - l by omega) (halfA ns f l) (halfA ns g l)
  have h2 := cP_mono (en := en) (ns := ns) (show 25 - min (lvl ns (halfB ns f l)) (lvl ns (halfB ns g l)) ≤ 24 - l by omega) (halfB ns f l) (halfB ns g l)
  unfold cE
  omega
/-- With levels below T. -/
theorem cP_T (h : Wf ns) (hen : ∀ f g, (en f g).2 = false → f ≠ 0 ∧ g ≠ 0 ∧ ¬ (f < 2 ∧ g < 2)) (T : Nat) : ∀ (n f g : Nat), f < ns.length + 2 → g < ns.length + 2 → tp ns f ≤ T → tp ns g ≤ T → cP en n ns f g ≤ (T - min (lvl ns f) (lvl ns g)) * min (mems ns f).length (mems ns g).length
  | 0, _, _, _, _, _, _ => Nat.zero_le _
  | n + 1, f, g, hf, hg, tf, tg => by
    rw [cP]
    by_cases he : (en f g).2 = true
    · rw [if_pos he]; exact Nat.zero_le _
    · rw [if_neg he]
      obtain ⟨f0, g0, fg⟩ := hen f g (by simpa using he)
      have h1f := lvl_le h hf
      have h1g := lvl_le h hg
      have hlt : min (lvl ns f) (lvl ns g) < 24 ∧ min (lvl ns f) (lvl ns g) < T := by
        by_cases q : 2 ≤ f
        · have := lvl_lt h hf q
          have := node_top h hf q
          omega
        · have q2 : 2 ≤ g := by omega
          have := lvl_lt h hg q2
          have := node_top h hg q2
          omega
      generalize hl : min (lvl ns f) (lvl ns g) = l at hlt ⊢
      have H1 := half_of h hf (l := l) (by omega) hlt.1
      have H2 := half_of h hg (l := l) (by omega) hlt.1
      have k1 := H1.la
      have k2 := H1.lb
      have k3 := H2.la
      have k4 := H2.lb
      have n1 := List.length_pos_of_mem (mems_ne h f hf f0).choose_spec
      have n2 := List.length_pos_of_mem (mems_ne h g hg g0).choose_spec
      have r1 := cP_T h hen T n _ _ H1.va H2.va (Nat.le_trans H1.tpa tf) (Nat.le_trans H2.tpa tg)
      have r2 := cP_T h hen T n _ _ H1.vb H2.vb (Nat.le_trans H1.tpb tf) (Nat.le_trans H2.tpb tg)
      have r3 := costP (T - l) (T - l - 1) (mems ns (halfA ns f l)).length (mems ns (halfB ns f l)).length (mems ns (halfA ns g l)).length (mems ns (halfB ns g l)).length (by omega) (by have := H1.cnt; omega) (by have := H2.cnt; omega)
      rw [← H1.cnt, ← H2.cnt] at r3
      have r4 : (T - min (lvl ns (halfA ns f l)) (lvl ns (halfA ns g l))) * min (mems ns (halfA ns f l)).length (mems ns (halfA ns g l)).length ≤ (T - l - 1) * min (mems ns (halfA ns f l)).length (mems ns (halfA ns g l)).length := Nat.mul_le_mul_right _ (by omega)
      have r5 : (T - min (lvl ns (halfB ns f l)) (lvl ns (halfB ns g l))) * min (mems ns (halfB ns f l)).length (mems ns (halfB ns g l)).length ≤ (T - l - 1) * min (mems ns (halfB ns f l)).length (mems ns (halfB ns g l)).length := Nat.mul_le_mul_right _ (by omega)
      omega
theorem cE_T (h : Wf ns) (hen : ∀ f g, (en f g).2 = false → f ≠ 0 ∧ g ≠ 0 ∧ ¬ (f < 2 ∧ g < 2)) {T f g : Nat} (hf : f < ns.length + 2) (hg : g < ns.length + 2) (tf : tp ns f ≤ T) (tg : tp ns g ≤ T) : cE en ns f g ≤ (T - min (lvl ns f) (lvl ns g)) * min (mems ns f).length (mems ns g).length := cP_T h hen T _ f g hf hg tf tg
end
def enU (f g : Nat) : Nat × Bool := if f = 0 ∨ f = g then (g, true) else (f, decide (g = 0))
def enL (f g : Nat) : Nat × Bool := if f = 0 ∨ f = g then (0, true) else (f, decide (g = 0))
def opU : Op := ⟨fun F G x => F x ∨ G x, fun _ A1 _ B1 x => A1 x ∨ B1 x, enU, cE enU, hE enU⟩
def opL : Op := ⟨fun F G x => F x ∧ ¬ G x, fun _ A1 _ B1 x => A1 x ∧ ¬ B1 x, enL, cE enL, hE enL⟩
theorem M_0 (ns : List Nd) (x : Nat) : ¬ M ns 0 x := by unfold M; rw [mems_0]; exact fun h => by cases h
theorem lvl0 (ns : List Nd) : lvl ns 0 = 24 := lvl_small (by decide)

theorem opU_ok : OpOk opU := by
  refine ⟨fun l A0 A1 B0 B1 _ _ _ _ x => ?_, fun ns f g h hf hg ht => ?_, fun f g hf => ?_, fun ns f g l h hf hg he hl h24 => cE_step h hf hg he hl h24, fun ns ns' l f0 f1 g0 g1 hp h v0 v1 v2 v3 => cE_pre hp h v1 v3⟩
  · simp only [opU, up]
    constructor
    · rintro ((h | ⟨y, h, e⟩) | (h | ⟨y, h, e⟩))
      · exact .inl (.inl h)
      · exact .inr ⟨y, .inl h, e⟩
      · exact .inl (.inr h)
      · exact .inr ⟨y, .inr h, e⟩
    · rintro ((h | h) | ⟨y, h | h, e⟩)
      · exact .inl (.inl h)
      · exact .inr (.inl h)
      · exact .inl (.inr ⟨y, h, e⟩)
      · exact .inr (.inr ⟨y, h, e⟩)
  · simp only [opU, enU] at ht ⊢
    by_cases hc : f = 0 ∨ f = g
    · rw [if_pos hc]
      refine ⟨hg, Nat.min_le_right _ _, fun x => ⟨.inr, fun h => ?_⟩⟩
      rcases h with h | h
      · rcases hc with rfl | rfl
        · exact absurd h (M_0 ns x)
        · exact h
      · exact h
    · rw [if_neg hc] at ht ⊢
      obtain rfl : g = 0 := of_decide_eq_true ht
      exact ⟨hf, Nat.min_le_left _ _, fun x => ⟨.inl, fun h => h.elim id (fun h => absurd h (M_0 ns x))⟩⟩
  · simp only [opU, enU] at hf
    by_cases hc : f = 0 ∨ f = g
    · rw [if_pos hc] at hf; cases hf
    · rw [if_neg hc] at hf
      have := of_decide_eq_false hf
      omega
theorem opL_ok : OpOk opL := by
  refine ⟨fun l A0 A1 B0 B1 hA0 hA1 hB0 hB1 x => ?_, fun ns f g h hf hg ht => ?_, fun f g hf => ?_, fun ns f g l h hf hg he hl h24 => cE_step h hf hg he hl h24, fun ns ns' l f0 f1 g0 g1 hp h v0 v1 v2 v3 => cE_pre hp h v1 v3⟩
  · simp only [opL]
    constructor
    · rintro ⟨h, k⟩
      rcases h with h | ⟨y, h, rfl⟩
      · exact .inl ⟨h, fun q => k (.inl q)⟩
      · exact .inr ⟨y, ⟨h, fun q => k (.inr ⟨y, q, rfl⟩)⟩, rfl⟩
    · rintro (⟨h, k⟩ | ⟨y, ⟨h, k⟩, rfl⟩)
      · exact ⟨.inl h, fun q => k (((up_dj hB0 hB1).1 (bit_clear (hA0 x h))).1 q)⟩
      · exact ⟨.inr ⟨y, h, rfl⟩, fun q => k (((up_dj (x := 0) hB0 hB1).2 y (hA1 y h)).1 q)⟩
  · simp only [opL, enL] at ht ⊢
    have := lvl_le h hf
    by_cases hc : f = 0 ∨ f = g
    · rw [if_pos hc]
      refine ⟨by omega, by rw [lvl0]; omega, fun x => ⟨fun k => absurd k (M_0 ns x), fun ⟨h1, h2⟩ => ?_⟩⟩
      rcases hc with rfl | rfl
      · exact absurd h1 (M_0 ns x)
      · exact absurd h1 h2
    · rw [if_neg hc] at ht ⊢
      obtain rfl : g = 0 := of_decide_eq_true ht
      exact ⟨hf, Nat.min_le_left _ _, fun x => ⟨fun k => ⟨k, M_0 ns x⟩, fun k => k.1⟩⟩
  · simp only [opL, enL] at hf
    by_cases hc : f = 0 ∨ f = g
    · rw [if_pos hc] at hf; cases hf
    · rw [if_neg hc] at hf
      have := of_decide_eq_false hf
      omega

/-! ### Join -/
def joinS (F G : Nat → Prop) (x : Nat) : Prop := ∃ a b, F a ∧ G b ∧ x = a ||| b
def enJ (f g : Nat) : Nat × Bool := if f = 0 ∨ g = 0 then (0, true) else if f = 1 then (g, true) else (f, decide (g = 1))
/-- What putting three joins together may need. -/
def kJ (ns : List Nd) (f0 f1 g0 g1 : Nat) : Nat := max (max (tp ns f0) (tp ns f1)) (max (tp ns g0) (tp ns g1))
def uJ (k a0 a1 b0 b1 : Nat) : Nat := k * min (a1 * b0) (a0 * b1) + k * min (a1 * b0 + a0 * b1) (a1 * b1)
def uJE (ns : List Nd) (l f0 f1 g0 g1 : Nat) : Nat := uJ (kJ ns f0 f1 g0 g1 - (l + 1)) (mems ns f0).length (mems ns f1).length (mems ns g0).length (mems ns g1).length
def cJn : Nat → List Nd → Nat → Nat → Nat
  | 0, _, _, _ => 0
  | n + 1, ns, f, g => if (enJ f g).2 = true then 0 else cJn n ns (halfA ns f (min (lvl ns f) (lvl ns g))) (halfA ns g (min (lvl ns f) (lvl ns g))) + (cJn n ns (halfB ns f (min (lvl ns f) (lvl ns g))) (halfA ns g (min (lvl ns f) (lvl ns g))) + cJn n ns (halfA ns f (min (lvl ns f) (lvl ns g))) (halfB ns g (min (lvl ns f) (lvl ns g))) + cJn n ns (halfB ns f (min (lvl ns f) (lvl ns g))) (halfB ns g (min (lvl ns f) (lvl ns g))) + uJE ns (min (lvl ns f) (lvl ns g)) (halfA ns f (min (lvl ns f) (lvl ns g))) (halfB ns f (min (lvl ns f) (lvl ns g))) (halfA ns g (min (lvl ns f) (lvl ns g))) (halfB ns g (min (lvl ns f) (lvl ns g)))) + 1
def cJE (ns : List Nd) (f g : Nat) : Nat := cJn (25 - min (lvl ns f) (lvl ns g)) ns f g
def hJE (ns : List Nd) (l f0 f1 g0 g1 : Nat) : Nat := cJE ns f1 g0 + cJE ns f0 g1 + cJE ns f1 g1 + uJE ns l f0 f1 g0 g1
def opJ : Op := ⟨joinS, fun A0 A1 B0 B1 x => joinS A1 B0 x ∨ joinS A0 B1 x ∨ joinS A1 B1 x, enJ, cJE, hJE⟩
theorem enJ_F {f g : Nat} (hf : (enJ f g).2 = false) : f ≠ 0 ∧ g ≠ 0 ∧ ¬ (f < 2 ∧ g < 2) := by
  simp only [enJ] at hf
  by_cases hc : f = 0 ∨ g = 0
  · rw [if_pos hc] at hf; cases hf
  · rw [if_neg hc] at hf
    by_cases h1 : f = 1
    · rw [if_pos h1] at hf; cases hf
    · rw [if_neg h1] at hf
      have := of_decide_eq_false hf
      omega
section
variable {ns ns' : List Nd}
theorem cJn_succ : ∀ (n f g : Nat), cJn n ns f g ≤ cJn (n + 1) ns f g
  | 0, _, _ => Nat.zero_le _
  | n + 1, f, g => by
    rw [cJn, cJn]
    by_cases h : (enJ f g).2 = true
    · rw [if_pos h, if_pos h]; exact Nat.le_refl _
    · rw [if_neg h, if_neg h]
      generalize min (lvl ns f) (lvl ns g) = l
      have h1 := cJn_succ n (halfA ns f l) (halfA ns g l)
      have h2 := cJn_succ n (halfB ns f l) (halfA ns g l)
      have h3 := cJn_succ n (halfA ns f l) (halfB ns g l)
      have h4 := cJn_succ n (halfB ns f l) (halfB ns g l)
      omega
theorem cJn_mono {n m : Nat} (h : n ≤ m) (f g : Nat) : cJn n ns f g ≤ cJn m ns f g := by
  obtain ⟨d, rfl⟩ : ∃ d, m = n + d := ⟨m - n, by omega⟩
  clear h
  induction d with
  | zero => exact Nat.le_refl _
  | succ d ih => exact Nat.le_trans ih (cJn_succ _ _ _)
theorem uJE_pre (hp : ns <+: ns') {l f0 f1 g0 g1 : Nat} (v0 : f0 < ns.length + 2) (v1 : f1 < ns.length + 2) (v2 : g0 < ns.length + 2) (v3 : g1 < ns.length + 2) : uJE ns' l f0 f1 g0 g1 = uJE ns l f0 f1 g0 g1 := by
  unfold uJE kJ
  rw [tp_pre hp v0, tp_pre hp v1, tp_pre hp v2, tp_pre hp v3, mems_pre hp v0, mems_pre hp v1, mems_pre hp v2, mems_pre hp v3]
theorem cJn_pre (hp : ns <+: ns') (h : Wf ns) : ∀ (n f g : Nat), f < ns.length + 2 → g < ns.length + 2 → cJn n ns' f g = cJn n ns f g
  | 0, _, _, _, _ => rfl
  | n + 1, f, g, hf, hg => by
    rw [cJn, cJn, lvl_pre hp hf, lvl_pre hp hg, (halfA_pre hp hf).1, (halfA_pre hp hf).2, (halfA_pre hp hg).1, (halfA_pre hp hg).2]
    obtain ⟨v1, v2⟩ := half_v h hf (Nat.min_le_left (lvl ns f) (lvl ns g))
    obtain ⟨v3, v4⟩ := half_v h hg (Nat.min_le_right (lvl ns f) (lvl ns g))
    rw [cJn_pre hp h n _ _ v1 v3, cJn_pre hp h n _ _ v2 v3, cJn_pre hp h n _ _ v1 v4, cJn_pre hp h n _ _ v2 v4, uJE_pre hp v1 v2 v3 v4]
theorem cJE_pre (hp : ns <+: ns') (h : Wf ns) {f g : Nat} (hf : f < ns.length + 2) (hg : g < ns.length + 2) : cJE ns' f g = cJE ns f g := by
  unfold cJE
  rw [lvl_pre hp hf, lvl_pre hp hg, cJn_pre hp h _ _ _ hf hg]
theorem cJE_step (h : Wf ns) {f g l : Nat} (hf : f < ns.length + 2) (hg : g < ns.length + 2) (he : (enJ f g).2 = false) (hl : l = min (lvl ns f) (lvl ns g)) (h24 : l < 24) :
    cJE ns (halfA ns f l) (halfA ns g l) + hJE ns l (halfA ns f l) (halfB ns f l) (halfA ns g l) (halfB ns g l) + 1 ≤ cJE ns f g := by
  have H1 := half_of h hf (l := l) (by omega) h24
  have H2 := half_of h hg (l := l) (by omega) h24
  have k1 := H1.la
  have k2 := H1.lb
  have k3 := H2.la
  have k4 := H2.lb
  unfold hJE
  rw [show cJE ns f g = cJn (24 - l + 1) ns f g by unfold cJE; rw [← hl]; congr 1; omega, cJn, if_neg (by rw [he]; decide), ← hl]
  have h1 := cJn_mono (ns := ns) (show 25 - min (lvl ns (halfA ns f l)) (lvl ns (halfA ns g l)) ≤ 24 - l by omega) (halfA ns f l) (halfA ns g l)
  have h2 := cJn_mono (ns := ns) (show 25 - min (lvl ns (halfB ns f l)) (lvl ns (halfA ns g l)) ≤ 24 - l by omega) (halfB ns f l) (halfA ns g l)
  have h3 := cJn_mono (ns := ns) (show 25 - min (lvl ns (halfA ns f l)) (lvl ns (halfB ns g l)) ≤ 24 - l by omega) (halfA ns f l) (halfB ns g l)
  have h4 := cJn_mono (ns := ns) (show 25 - min (lvl ns (halfB ns f l)) (lvl ns (halfB ns g l)) ≤ 24 - l by omega) (halfB ns f l) (halfB ns g l)
  unfold cJE
  omega
end
theorem opJ_ok : OpOk opJ := by
  refine ⟨fun l A0 A1 B0 B1 hA0 hA1 hB0 hB1 x => ?_, fun ns f g h hf hg ht => ?_, fun f g hf => enJ_F hf, fun ns f g l h hf hg he hl h24 => cJE_step h hf hg he hl h24, fun ns ns' l f0 f1 g0 g1 hp h v0 v1 v2 v3 => ?_⟩
  · simp only [opJ, joinS]
    constructor
    · rintro ⟨a, b, ha | ⟨p, ha, rfl⟩, hb | ⟨q, hb, rfl⟩, rfl⟩
      · exact .inl ⟨a, b, ha, hb, rfl⟩
      · exact .inr ⟨a ||| q, .inr (.inl ⟨a, q, ha, hb, rfl⟩), (or_up1 (hA0 a ha) (hB1 q hb)).2.1⟩
      · exact .inr ⟨p ||| b, .inl ⟨p, b, ha, hb, rfl⟩, (or_up1 (hA1 p ha) (hB0 b hb)).1⟩
      · exact .inr ⟨p ||| q, .inr (.inr ⟨p, q, ha, hb, rfl⟩), (or_up1 (hA1 p ha) (hB1 q hb)).2.2.1⟩
    · rintro (⟨a, b, ha, hb, rfl⟩ | ⟨y, ⟨a, b, ha, hb, rfl⟩ | ⟨a, b, ha, hb, rfl⟩ | ⟨a, b, ha, hb, rfl⟩, rfl⟩)
      · exact ⟨a, b, .inl ha, .inl hb, rfl⟩
      · exact ⟨a + 2 ^ l, b, .inr ⟨a, ha, rfl⟩, .inl hb, (or_up1 (hA1 a ha) (hB0 b hb)).1.symm⟩
      · exact ⟨a, b + 2 ^ l, .inl ha, .inr ⟨b, hb, rfl⟩, (or_up1 (hA0 a ha) (hB1 b hb)).2.1.symm⟩
      · exact ⟨a + 2 ^ l, b + 2 ^ l, .inr ⟨a, ha, rfl⟩, .inr ⟨b, hb, rfl⟩, (or_up1 (hA1 a ha) (hB1 b hb)).2.2.1.symm⟩
  · have hm1 : ∀ x, M ns 1 x ↔ x = 0 := fun x => by unfold M; rw [mems_1]; exact List.mem_singleton
    simp only [opJ, enJ] at ht ⊢
    have := lvl_le h hf
    by_cases hc : f = 0 ∨ g = 0
    · rw [if_pos hc]
      refine ⟨by omega, by rw [lvl0]; omega, fun x => ⟨fun k => absurd k (M_0 ns x), fun ⟨a, b, h1, h2, _⟩ => ?_⟩⟩
      rcases hc with rfl | rfl
      · exact absurd h1 (M_0 ns a)
      · exact absurd h2 (M_0 ns b)
    · rw [if_neg hc] at ht ⊢
      by_cases h1 : f = 1
      · subst h1
        rw [if_pos rfl]
        refine ⟨hg, Nat.min_le_right _ _, fun x => ⟨fun k => ⟨0, x, (hm1 0).2 rfl, k, by simp⟩, ?_⟩⟩
        rintro ⟨a, b, ha, hb, rfl⟩
        rw [(hm1 a).1 ha, Nat.zero_or]
        exact hb
      · rw [if_neg h1] at ht ⊢
        obtain rfl : g = 1 := of_decide_eq_true ht
        refine ⟨hf, Nat.min_le_left _ _, fun x => ⟨fun k => ⟨x, 0, k, (hm1 0).2 rfl, by simp⟩, ?_⟩⟩
        rintro ⟨a, b, ha, hb, rfl⟩
        rw [(hm1 b).1 hb, Nat.or_zero]
        exact ha
  · show hJE ns' l f0 f1 g0 g1 = hJE ns l f0 f1 g0 g1
    unfold hJE
    rw [cJE_pre hp h v1 v2, cJE_pre hp h v0 v3, cJE_pre hp h v1 v3, uJE_pre hp v0 v1 v2 v3]

/-! ### What has been done -/
def key2 (p : Nat × Nat) : Value := .agg #[.int .i64 (p.1 : Int), .int .i64 (p.2 : Int)]
theorem key2_inj (a b : Nat × Nat) (h : key2 a = key2 b) : a = b := by
  obtain ⟨a1, a2⟩ := a
  obtain ⟨b1, b2⟩ := b
  simp only [key2, Value.agg.injEq, Array.mk.injEq, List.cons.injEq, Value.int.injEq, true_and, and_true] at h
  simp only [Prod.mk.injEq]
  omega
structure DoneP (res : (Nat → Prop) → (Nat → Prop) → Nat → Prop) (ns : List Nd) (p : (Nat × Nat) × Int) : Prop where
  v1 : p.1.1 < ns.length + 2
  v2 : p.1.2 < ns.length + 2
  id : ∃ id : Nat, p.2 = (id : Int) ∧ id < ns.length + 2 ∧ min (lvl ns p.1.1) (lvl ns p.1.2) ≤ lvl ns id ∧ ∀ x, x ∈ mems ns id ↔ res (M ns p.1.1) (M ns p.1.2) x
def Done (res : (Nat → Prop) → (Nat → Prop) → Nat → Prop) (ns : List Nd) (dl : List ((Nat × Nat) × Int)) : Prop := ∀ p, p ∈ dl → DoneP res ns p
theorem DoneP.pre {res : (Nat → Prop) → (Nat → Prop) → Nat → Prop} {ns ns' : List Nd} {p : (Nat × Nat) × Int} (hp : ns <+: ns') (h : DoneP res ns p) : DoneP res ns' p := by
  have hl := pre_len hp
  obtain ⟨id, h1, h2, h3, h4⟩ := h.id
  refine ⟨by have := h.v1; omega, by have := h.v2; omega, id, h1, by omega, ?_, ?_⟩
  · rw [lvl_pre hp h.v1, lvl_pre hp h.v2, lvl_pre hp h2]; exact h3
  · rw [M_pre hp h.v1, M_pre hp h.v2, mems_pre hp h2]; exact h4
theorem Done.pre {res : (Nat → Prop) → (Nat → Prop) → Nat → Prop} {ns ns' : List Nd} {dl : List ((Nat × Nat) × Int)} (hp : ns <+: ns') (h : Done res ns dl) : Done res ns' dl := fun p q => (h p q).pre hp
theorem mem_putL {α β : Type} [DecidableEq α] {l : List (α × β)} {k : α} {v : β} {p : α × β} (h : p ∈ putL l k v) : p ∈ l ∨ p = (k, v) := by
  unfold putL at h
  split at h
  · obtain ⟨q, hq, e⟩ := List.mem_map.1 h
    split at e
    · exact .inr e.symm
    · exact .inl (e ▸ hq)
  · rcases List.mem_append.1 h with h | h
    · exact .inl h
    · exact .inr (by simpa using h)
theorem getL_mem {α β : Type} [DecidableEq α] : ∀ {l : List (α × β)} {k : α} {v : β}, getL l k = some v → (k, v) ∈ l
  | [], _, _, h => by cases h
  | (a, b) :: r, k, v, h => by
    simp only [getL] at h
    by_cases e : a = k
    · rw [if_pos e] at h
      cases h; subst e
      exact List.mem_cons_self ..
    · rw [if_neg e] at h
      exact List.mem_cons_of_mem _ (getL_mem h)

/-! ### A deed's own step -/
section
variable {o : Op} {ns ns1 ns2 ns3 : List Nd} {R f g l l1 l2 c1 c2 c low high id : Nat} {er : Int}
theorem do_got (ho : OpOk o) (h : Wf ns) (hf : f < ns.length + 2) (hg : g < ns.length + 2) (hl : l = min (lvl ns f) (lvl ns g)) (h24 : l < 24)
    (g1 : Got ns ns1 R c1 l1 (o.res (M ns (halfA ns f l)) (M ns (halfA ns g l))) low 0)
    (g2 : Got ns1 ns2 R c2 l2 (o.resH (M ns1 (halfA ns f l)) (M ns1 (halfB ns f l)) (M ns1 (halfA ns g l)) (M ns1 (halfB ns g l))) high 0)
    (g3 : Got ns2 ns3 R 1 l (up l (M ns2 low) (M ns2 high)) id er) (hc : c1 + c2 + 1 ≤ c) : Got ns ns3 R c l (o.res (M ns f) (M ns g)) id er := by
  have H1 := half_of h hf (l := l) (by omega) h24
  have H2 := half_of h hg (l := l) (by omega) h24
  refine (((Got.then' g1 g2 (Nat.le_refl _)).then' g3 (Nat.le_refl _)).weak (c := c) (by omega) fun x => ?_)
  obtain ⟨v1, _, m1⟩ := g1.ok rfl
  obtain ⟨v2, _, m2⟩ := g2.ok rfl
  have eF : M ns f = up l (M ns (halfA ns f l)) (M ns (halfB ns f l)) := set_ext' H1.mem
  have eG : M ns g = up l (M ns (halfA ns g l)) (M ns (halfB ns g l)) := set_ext' H2.mem
  rw [eF, eG, ho.dec l _ _ _ _ (lev_M h H1.va H1.la) (lev_M h H1.vb H1.lb) (lev_M h H2.va H2.la) (lev_M h H2.vb H2.lb)]
  have e1 : M ns2 low = o.res (M ns (halfA ns f l)) (M ns (halfA ns g l)) := by
    rw [M_pre g2.pre v1]; exact set_ext' m1
  have e2 : M ns2 high = o.resH (M ns (halfA ns f l)) (M ns (halfB ns f l)) (M ns (halfA ns g l)) (M ns (halfB ns g l)) := by
    rw [← M_pre g1.pre H1.va, ← M_pre g1.pre H1.vb, ← M_pre g1.pre H2.va, ← M_pre g1.pre H2.vb]; exact set_ext' m2
  rw [e1, e2]
end
end

section
open Go Go.RowKit

section
variable {P : Program} {f : Nat → Value} {w : World} {d : Option Nat} {ty : TypeId} {ps : String} {af : Array Edge} {g : Option (Nat × Bool)} {x y : Operand} {t t2 e : TypeId}
theorem pointee_of (hu : P.underlying t = some (.pointer e)) : P.underlying t = some (.pointer (P.pointee t)) := by
  rw [hu]
  simp [Program.pointee, hu]
theorem r_ptrNil {a : Addr} (hx : evF f x = .pointer (some a)) (hy : evF f y = .pointer none) (hu : P.underlying t = some (.pointer e)) : (execOp (evF f) ⟨d, .binOp .eql t x y t2, ty, ps, af, g⟩).run P w = .ok (.value (.bool false)) w := by
  have h := run_eql_pointer_nil w t (some a) (pointee_of hu)
  simp [execOp, hx, hy, eqGuard, h]
theorem r_ptrNone (hx : evF f x = .pointer none) (hy : evF f y = .pointer none) (hu : P.underlying t = some (.pointer e)) : (execOp (evF f) ⟨d, .binOp .eql t x y t2, ty, ps, af, g⟩).run P w = .ok (.value (.bool true)) w := by
  have h := run_eql_pointer_nil w t none (pointee_of hu)
  simp [execOp, hx, hy, eqGuard, h]
theorem r_minN {m n : Nat} {k : IntKind} {tys : Array TypeId} (hx : evF f x = .int k (m : Int)) (hy : evF f y = .int k (n : Int)) : (execOp (evF f) ⟨d, .call ⟨.builtin .min, #[x, y], tys⟩, ty, ps, af, g⟩).run P w = .ok (.value (.int k ((min m n : Nat) : Int))) w := by
  simp [execOp, resolve, invoke, builtin, hx, hy, Builtin.min_, Builtin.min2]
  split <;> omega
theorem r_makeFunc1 {q : Nat} {a : Operand} {v : Value} (h : evF f a = v) :
    (execOp (evF f) ⟨d, .makeFunc (.func q) #[a] #[], ty, ps, af, g⟩).run P w = .ok (.value (.func (.func q) #[v] #[])) w := by
  simp [execOp, Instr.makeFunc, h]
theorem r_indexP {cs : Array Value} {n sz : Nat} {v : Value} {k : IntKind} {i : Nat} (hx : evF f x = .agg cs) (hy : evF f y = .int k (i : Int)) (hu : P.underlying t = some (.array n e)) (hi : i < n) (hs : (sizeOf e).run P w = .ok sz w) (hp : (part e cs (i * sz)).run P w = .ok v w) :
    (execOp (evF f) ⟨d, .index t x y, ty, ps, af, g⟩).run P w = .ok (.value v) w := by
  simp [execOp, hx, hy, Instr.index, asIntOf, run_underlying hu, hi, hs, hp]
end

section
variable {P : Program} {fr : Nat → Value} {w : World} {d : Option Nat} {ty : TypeId} {ps : String} {af : Array Edge} {g : Option (Nat × Bool)} {x y : Operand} {t kt et : TypeId} {b : Nat}
variable {α β : Type} [DecidableEq α] {enc : α → Value} {encV : β → Value} {l : List (α × β)} {k : α} {S : Value → Prop}
theorem r_lookup2 {z0 : Value} {v0 : β} (hx : evF fr x = .map (some b)) (hy : evF fr y = enc k) (hT : isMap P t = some (kt, et)) (KO : KeyOk P kt S) (hS : ∀ a, S (enc a)) (hi : ∀ a a', enc a = enc a' → a = a')
    (hz : zeroI P et = some z0) (hz0 : z0 = encV v0) (hm : MapT enc encV w b l) :
    (execOp (evF fr) ⟨d, .lookup t x y true, ty, ps, af, g⟩).run P w = .ok (.value (.tuple #[encV ((getL l k).getD v0), .bool (getL l k).isSome])) w := by
  subst hz0
  obtain ⟨f, clock, hm⟩ := hm
  unfold zeroI at hz
  obtain ⟨i, hi2, hzz⟩ := Option.bind_eq_some_iff.1 hz
  rcases find_map (P := P) (kt := kt) (encV := encV) KO hS hi (f := f) hm.nodup w k with ⟨h1, h2⟩ | ⟨j, v, h1, h2, h3⟩
  · rw [getL_none.2 h2]
    simp [execOp, hx, hy, Instr.lookup, run_underlying (isMap_spec hT), getObj, Sem.run, hm.heap, Result.andThen, KO.check w _ (hS k), h1, zeroValue, typeInfo, hi2, hzz]
  · rw [h3]
    simp [execOp, hx, hy, Instr.lookup, run_underlying (isMap_spec hT), getObj, Sem.run, hm.heap, Result.andThen, KO.check w _ (hS k), h1]
end

/-! ### A deed with what has been done -/
def PD (Ta Tn : TypeId) (N ba bm R bx : Nat) (res : (Nat → Prop) → (Nat → Prop) → Nat → Prop) (w : World) (ns : List Nd) (c l : Nat) (S : Nat → Prop) (v : Value) (w' : World) : Prop :=
  ∃ (ns' : List Nd) (id : Nat) (er : Int) (dl : List ((Nat × Nat) × Int)), v = .tuple #[.int .i64 (id : Int), .int .i64 er] ∧ Dx Tn N [bx, ba, bm] w w' ∧ Dia Ta Tn N ba bm R w' ns' ∧ Got ns ns' R c l S id er ∧ MapT key2 keyI w' bx dl ∧ Done res ns' dl
theorem PD.dx {Ta Tn : TypeId} {N ba bm R bx : Nat} {res : (Nat → Prop) → (Nat → Prop) → Nat → Prop} {w w' : World} {ns : List Nd} {c l : Nat} {S : Nat → Prop} {v : Value} (h : PD Ta Tn N ba bm R bx res w ns c l S v w') : Dx Tn N [bx, ba, bm] w w' := by
  obtain ⟨_, _, _, _, _, h, _⟩ := h; exact h
section
variable {Ta Tn T : TypeId} {N N' ba bm R b bx sz : Nat} {w w' : World} {ns : List Nd} {c : Array Value} {dl : List ((Nat × Nat) × Int)}
theorem At.dxm (k : Dia Ta Tn N ba bm R w ns) (hq : MapT key2 keyI w bx dl) (hx : Dx Tn N [bx, ba, bm] w w') (hm : At w b c T) (hTa : T ≠ Ta) (hTn : T ≠ Tn) : At w' b c T := At.dx3 k hx hm hTa hTn (At.ne_map hm hq)
theorem Dx.done {w0 : World} (h : Dx Tn N [bx, ba, bm] w0 w) (k : Dx Tn N [ba, bm] w w') : Dx Tn N [bx, ba, bm] w0 w' := h.trans (k.mono (fun x hx => List.mem_cons_of_mem _ hx))
theorem Dx.toX (k : Dx Tn N [ba, bm] w w') : Dx Tn N [bx, ba, bm] w w' := k.mono (fun x hx => List.mem_cons_of_mem _ hx)
end
end

section
open Go Go.RowKit

def thereB (ns : List Nd) (id : Int) : Bool := decide (2 ≤ id ∧ id < (ns.length : Int) + 2)
theorem th_f1 {ns : List Nd} {id : Int} (h : ¬ 2 ≤ id) : Value.bool false = .bool (thereB ns id) := congrArg Value.bool (decide_eq_false (fun k => h k.1)).symm
theorem th_f2 {ns : List Nd} {id : Int} (h : ¬ id - 2 < (ns.length : Int)) : Value.bool false = .bool (thereB ns id) := congrArg Value.bool (decide_eq_false (fun k => h (by omega))).symm
theorem th_t {ns : List Nd} {id : Int} {x : Nat} (h : 2 ≤ id) (h2 : id - 2 < (ns.length : Int)) : Value.bool (decide (¬ ((x : Nat) : Int) = -1)) = .bool (thereB ns id) := congrArg Value.bool (by
  rw [decide_eq_true (show ¬ ((x : Nat) : Int) = -1 by omega)]
  exact (decide_eq_true ⟨h, by omega⟩).symm)
theorem lv_s {ns : List Nd} {id : Nat} (h : (id : Int) = 0 ∨ (id : Int) = 1) : Value.int .i64 24 = .int .i64 ((lvl ns id : Nat) : Int) := by
  rw [lvl_small (by omega)]; rfl
theorem lv_n {ns : List Nd} {id : Nat} (h : ¬ (id : Int) = 0) (h2 : ¬ (id : Int) = 1) : Value.int .i64 (((ns.getD ((id : Int) - 2).toNat nd0).l : Nat) : Int) = .int .i64 ((lvl ns id : Nat) : Int) := by
  obtain ⟨i, rfl⟩ : ∃ i, id = i + 2 := ⟨id - 2, by omega⟩
  rw [lvl_node, show (((i + 2 : Nat) : Int) - 2).toNat = i by omega]
theorem lv_bad {ns : List Nd} {id : Nat} (hid : id < ns.length + 2) (h : ¬ (id : Int) = 0) (h2 : ¬ (id : Int) = 1) (h3 : thereB ns (id : Int) = false) : False := by
  have := of_decide_eq_false h3
  omega
def nodeI (ns : List Nd) (id : Int) : Nd := if thereB ns id = true then ns.getD (id - 2).toNat nd0 else nd0
theorem nodeI_f {ns : List Nd} {id : Int} (h : (!thereB ns id) = true) : thereB ns id = false ∧ nodeI ns id = nd0 := by
  have h2 : thereB ns id = false := by cases k : thereB ns id <;> simp_all
  exact ⟨h2, by unfold nodeI; rw [h2]; rfl⟩
theorem nodeI_t {ns : List Nd} {id : Int} (h : (!thereB ns id) = false) : thereB ns id = true ∧ nodeI ns id = ns.getD (id - 2).toNat nd0 := by
  have h2 : thereB ns id = true := by cases k : thereB ns id <;> simp_all
  exact ⟨h2, by unfold nodeI; rw [h2]; rfl⟩
theorem there_iff {ns : List Nd} {id : Int} : thereB ns id = true ↔ 2 ≤ id ∧ id < (ns.length : Int) + 2 := decide_eq_true_iff
def lvlI (ns : List Nd) (id : Int) : Int := if 0 ≤ id ∧ id < (ns.length : Int) + 2 then ((lvl ns id.toNat : Nat) : Int) else -1
theorem li_s {ns : List Nd} {id : Int} (h : id = 0 ∨ id = 1) : Value.int .i64 24 = .int .i64 (lvlI ns id) := by
  unfold lvlI
  rw [if_pos ⟨by omega, by omega⟩, lvl_small (by omega)]; rfl
theorem li_n {ns : List Nd} {id : Int} (h3 : thereB ns id = true) : Value.int .i64 (((nodeI ns id).l : Nat) : Int) = .int .i64 (lvlI ns id) := by
  have h4 := there_iff.1 h3
  unfold nodeI lvlI
  rw [h3, if_pos rfl, if_pos ⟨by omega, by omega⟩]
  obtain ⟨i, rfl⟩ : ∃ i : Nat, id = ((i + 2 : Nat) : Int) := ⟨(id - 2).toNat, by omega⟩
  rw [Int.toNat_natCast, lvl_node, show (((i + 2 : Nat) : Int) - 2).toNat = i by omega]
theorem li_f {ns : List Nd} {id : Int} (h : ¬ id = 0) (h2 : ¬ id = 1) (h3 : thereB ns id = false) : Value.int .i64 (-1) = .int .i64 (lvlI ns id) := by
  have := of_decide_eq_false h3
  unfold lvlI
  rw [if_neg (by omega)]
theorem lvlI_nat {ns : List Nd} {id : Nat} (h : id < ns.length + 2) : lvlI ns (id : Int) = ((lvl ns id : Nat) : Int) := by
  unfold lvlI
  rw [if_pos ⟨by omega, by omega⟩, Int.toNat_natCast]
def thereZ (ns : List Nd) (id : Int) : Bool := decide (0 ≤ id ∧ id < (ns.length : Int) + 2)
theorem tz_iff {ns : List Nd} {id : Int} : thereZ ns id = true ↔ 0 ≤ id ∧ id < (ns.length : Int) + 2 := decide_eq_true_iff
theorem tz_no {ns : List Nd} {id : Int} (h : lvlI ns id < 0) : ¬ thereZ ns id = true := fun k => by
  have := tz_iff.1 k
  unfold lvlI at h
  rw [if_pos this] at h
  omega
theorem tz_yes {ns : List Nd} {id : Int} (h : ¬ lvlI ns id < 0) : thereZ ns id = true := tz_iff.2 (by
  unfold lvlI at h
  split at h
  · assumption
  · omega)
theorem allZ_no {ns : List Nd} {li : List Int} {k : Nat} (hk : k < li.length) (h : lvlI ns (li.getD k 0) < 0) : Value.bool false = .bool (li.all (thereZ ns)) := congrArg Value.bool (Eq.symm (Bool.eq_false_iff.2 fun q => tz_no h (List.all_eq_true.1 q _ (getD_mem hk))))
theorem all_yes {ns : List Nd} {li : List Int} {k : Nat} (hk : k = li.length) (h : ∀ q, q < k → thereZ ns (li.getD q 0) = true) : Value.bool true = .bool (li.all (thereZ ns)) := congrArg Value.bool (Eq.symm (List.all_eq_true.2 fun x hx => by
  obtain ⟨j, hj, rfl⟩ := List.getElem_of_mem hx
  have := h j (by omega)
  rwa [List.getD_eq_getElem?_getD, List.getElem?_eq_getElem hj] at this))

/-! ### Making a node -/
theorem mk_met {ns : List Nd} (h : Wf ns) {n : Nd} (hs : (getL (idsL ns) n).isSome = true) : ∃ i, i < ns.length ∧ ns.getD i nd0 = n ∧ (getL (idsL ns) n).getD 0 = ((i + 2 : Nat) : Int) := by
  cases k : getL (idsL ns) n with
  | none => rw [k] at hs; cases hs
  | some v =>
    obtain ⟨i, h1, h2, h3⟩ := idsL_some h.nd k
    exact ⟨i, h1, h2, h3⟩
theorem mk_not {ns : List Nd} {n : Nd} (hs : (getL (idsL ns) n).isSome = false) : n ∉ ns := by
  cases k : getL (idsL ns) n with
  | none => exact idsL_none k
  | some v => rw [k] at hs; cases hs
theorem mk_got {ns : List Nd} (h : Wf ns) {i l lo hi R c : Nat} (hi' : i < ns.length) (hn : ns.getD i nd0 = ⟨l, lo, hi⟩) : Got ns ns R c l (up l (M ns lo) (M ns hi)) (i + 2) 0 := by
  refine Got.same (by omega) (by rw [lvl_node, hn]; exact Nat.le_refl _) fun x => ?_
  rw [mems_node h hi', hn, List.mem_append, List.mem_map]
  exact or_congr Iff.rfl ⟨fun ⟨y, a, b⟩ => ⟨y, a, b.symm⟩, fun ⟨y, a, b⟩ => ⟨y, a, b.symm⟩⟩
theorem mk_new {ns : List Nd} {l lo hi R : Nat} (hlo : lo < ns.length + 2) (hhi : hi < ns.length + 2) : Got ns (ns ++ [⟨l, lo, hi⟩]) R 1 l (up l (M ns lo) (M ns hi)) (ns.length + 2) 0 := by
  refine ⟨List.prefix_append _ _, by simp, .inl ⟨rfl, by simp, ?_, fun x => ?_⟩⟩
  · rw [lvl_node, List.getD_eq_getElem?_getD, List.getElem?_append_right (Nat.le_refl _), Nat.sub_self]
    exact Nat.le_refl _
  · rw [mems_snoc_new, List.mem_append, List.mem_map]
    exact or_congr Iff.rfl ⟨fun ⟨y, a, b⟩ => ⟨y, a, b.symm⟩, fun ⟨y, a, b⟩ => ⟨y, a, b.symm⟩⟩
theorem mk_full {ns : List Nd} {R c l : Nat} {S : Nat → Prop} (h : R ≤ ns.length) : Got ns ns R c l S 0 5 := ⟨List.prefix_refl _, by omega, .inr ⟨rfl, rfl, h⟩⟩
theorem node_zero {ns : List Nd} {l lo hi : Nat} (h : (hi : Int) = 0) : ∀ x, x ∈ mems ns lo ↔ up l (M ns lo) (M ns hi) x := fun x => by
  obtain rfl : hi = 0 := by omega
  unfold up
  exact ⟨.inl, fun k => k.elim _root_.id fun ⟨y, hy, _⟩ => absurd hy (M_0 ns y)⟩

/-! ### Halves, as numbers -/
theorem nodeI_nat {ns : List Nd} {f : Nat} (h : thereB ns (f : Int) = true) : 2 ≤ f ∧ nodeI ns (f : Int) = ns.getD (f - 2) nd0 ∧ lvl ns f = (nodeI ns (f : Int)).l := by
  have h4 := there_iff.1 h
  unfold nodeI
  rw [h, if_pos rfl]
  obtain ⟨i, rfl⟩ : ∃ i, f = i + 2 := ⟨f - 2, by omega⟩
  rw [show (((i + 2 : Nat) : Int) - 2).toNat = i by omega]
  exact ⟨by omega, rfl, lvl_node i⟩
theorem hv_t {ns : List Nd} {f l : Nat} (h : thereB ns (f : Int) = true) (hl : ((nodeI ns (f : Int)).l : Int) = (l : Int)) : Value.tuple #[.int .i64 ((nodeI ns (f : Int)).lo : Int), .int .i64 ((nodeI ns (f : Int)).hi : Int)] = .tuple #[.int .i64 ((halfA ns f l : Nat) : Int), .int .i64 ((halfB ns f l : Nat) : Int)] := by
  obtain ⟨h1, h2, h3⟩ := nodeI_nat h
  unfold halfA halfB
  rw [if_pos ⟨h1, by omega⟩, if_pos ⟨h1, by omega⟩, h2]
theorem hv_f {ns : List Nd} {f l : Nat} (hf : f < ns.length + 2) (h : ¬ (thereB ns (f : Int) = true ∧ ((nodeI ns (f : Int)).l : Int) = (l : Int))) : Value.tuple #[.int .i64 (f : Int), .int .i64 0] = .tuple #[.int .i64 ((halfA ns f l : Nat) : Int), .int .i64 ((halfB ns f l : Nat) : Int)] := by
  unfold halfA halfB
  have hc : ¬ (2 ≤ f ∧ lvl ns f = l) := fun ⟨a, b⟩ => h (by
    have ht : thereB ns (f : Int) = true := there_iff.2 (by omega)
    obtain ⟨_, _, h3⟩ := nodeI_nat ht
    exact ⟨ht, by omega⟩)
  rw [if_neg hc, if_neg hc]
  rfl
theorem Dx.below {Tn : TypeId} {N : Nat} {xs : List Nat} {w W : World} (h : Go.RowKit.Below w.heap.size w W) : Dx Tn N xs w W := ⟨h.os, h.tape, h.output, h.size, fun k hk _ => h.block k hk⟩
end

section
open Go Go.RowKit

theorem not_t' {b : Bool} (h : (!b) = true) : b = false := by cases b <;> simp_all
theorem dec_nat {a b : Nat} : decide ((a : Int) = (b : Int)) = decide (a = b) := by
  by_cases h : a = b
  · rw [decide_eq_true h, decide_eq_true (by omega)]
  · rw [decide_eq_false h, decide_eq_false (by omega)]
theorem eU_t {f g : Nat} (h : (f : Int) = 0 ∨ (f : Int) = (g : Int)) : Value.tuple #[.int .i64 (g : Int), .bool true] = .tuple #[.int .i64 ((opU.ends f g).1 : Int), .bool (opU.ends f g).2] := by
  have e : opU.ends f g = (g, true) := if_pos (by omega)
  rw [e]
theorem eU_f {f g : Nat} (h : ¬ (f : Int) = 0) (h2 : ¬ (f : Int) = (g : Int)) : Value.tuple #[.int .i64 (f : Int), .bool (decide ((g : Int) = 0))] = .tuple #[.int .i64 ((opU.ends f g).1 : Int), .bool (opU.ends f g).2] := by
  have e : opU.ends f g = (f, decide (g = 0)) := if_neg (by omega)
  rw [e, show decide ((g : Int) = 0) = decide (g = 0) from dec_nat (b := 0)]
theorem eL_t {f g : Nat} (h : (f : Int) = 0 ∨ (f : Int) = (g : Int)) : Value.tuple #[.int .i64 0, .bool true] = .tuple #[.int .i64 ((opL.ends f g).1 : Int), .bool (opL.ends f g).2] := by
  have e : opL.ends f g = (0, true) := if_pos (by omega)
  rw [e]; rfl
theorem eL_f {f g : Nat} (h : ¬ (f : Int) = 0) (h2 : ¬ (f : Int) = (g : Int)) : Value.tuple #[.int .i64 (f : Int), .bool (decide ((g : Int) = 0))] = .tuple #[.int .i64 ((opL.ends f g).1 : Int), .bool (opL.ends f g).2] := by
  have e : opL.ends f g = (f, decide (g = 0)) := if_neg (by omega)
  rw [e, show decide ((g : Int) = 0) = decide (g = 0) from dec_nat (b := 0)]
theorem eJ_t {f g : Nat} (h : (f : Int) = 0 ∨ (g : Int) = 0) : Value.tuple #[.int .i64 0, .bool true] = .tuple #[.int .i64 ((opJ.ends f g).1 : Int), .bool (opJ.ends f g).2] := by
  have e : opJ.ends f g = (0, true) := if_pos (by omega)
  rw [e]; rfl
theorem eJ_1 {f g : Nat} (h : ¬ (f : Int) = 0) (h2 : ¬ (g : Int) = 0) (h3 : (f : Int) = 1) : Value.tuple #[.int .i64 (g : Int), .bool true] = .tuple #[.int .i64 ((opJ.ends f g).1 : Int), .bool (opJ.ends f g).2] := by
  have e : opJ.ends f g = (g, true) := (if_neg (by omega)).trans (if_pos (by omega))
  rw [e]
theorem eJ_f {f g : Nat} (h : ¬ (f : Int) = 0) (h2 : ¬ (g : Int) = 0) (h3 : ¬ (f : Int) = 1) : Value.tuple #[.int .i64 (f : Int), .bool (decide ((g : Int) = 1))] = .tuple #[.int .i64 ((opJ.ends f g).1 : Int), .bool (opJ.ends f g).2] := by
  have e : opJ.ends f g = (f, decide (g = 1)) := (if_neg (by omega)).trans (if_neg (by omega))
  rw [e, show decide ((g : Int) = 1) = decide (g = 1) from dec_nat (b := 1)]

theorem Got.low {ns ns' : List Nd} {R c l l2 : Nat} {S : Nat → Prop} {id : Nat} {er : Int} (g : Got ns ns' R c l S id er) (h : l2 ≤ l) : Got ns ns' R c l2 S id er :=
  ⟨g.pre, g.cost, g.res.imp (fun ⟨a, b, d, e⟩ => ⟨a, b, by omega, e⟩) _root_.id⟩
theorem Got.cheap {ns ns' : List Nd} {R c c2 l : Nat} {S : Nat → Prop} {id : Nat} {er : Int} (g : Got ns ns' R c l S id er) (h : c ≤ c2) : Got ns ns' R c2 l S id er := g.weak h (fun _ => Iff.rfl)
theorem done_met {res : (Nat → Prop) → (Nat → Prop) → Nat → Prop} {ns : List Nd} {dl : List ((Nat × Nat) × Int)} {f g : Nat} (h : Done res ns dl) (hs : (getL dl (f, g)).isSome = true) :
    ∃ id : Nat, (getL dl (f, g)).getD 0 = (id : Int) ∧ id < ns.length + 2 ∧ min (lvl ns f) (lvl ns g) ≤ lvl ns id ∧ ∀ x, x ∈ mems ns id ↔ res (M ns f) (M ns g) x := by
  cases k : getL dl (f, g) with
  | none => rw [k] at hs; cases hs
  | some v =>
    obtain ⟨id, h1, h2, h3, h4⟩ := (h _ (getL_mem k)).id
    exact ⟨id, h1, h2, h3, h4⟩
theorem done_put {res : (Nat → Prop) → (Nat → Prop) → Nat → Prop} {ns ns' : List Nd} {dl : List ((Nat × Nat) × Int)} {f g id l R c : Nat} {er : Int} (h : Done res ns' dl) (hf : f < ns.length + 2) (hg : g < ns.length + 2) (hl : min (lvl ns f) (lvl ns g) = l) (hgot : Got ns ns' R c l (res (M ns f) (M ns g)) id er) (he : er = 0) : Done res ns' (putL dl (f, g) (id : Int)) := fun p hp => by
  rcases mem_putL hp with hp | rfl
  · exact h p hp
  · obtain ⟨v1, v2, v3⟩ := hgot.ok he
    obtain ⟨a1, a2, a3⟩ := hgot.old hf
    obtain ⟨b1, b2, b3⟩ := hgot.old hg
    refine ⟨a1, b1, id, rfl, v1, by rw [a3, b3, hl]; exact v2, ?_⟩
    rw [M_pre hgot.pre hf, M_pre hgot.pre hg]
    exact v3
theorem Done.nil {res : (Nat → Prop) → (Nat → Prop) → Nat → Prop} {ns : List Nd} : Done res ns [] := fun p h => by cases h
theorem nodupN_le : ∀ {l1 l2 : List Nat}, l1.Nodup → (∀ x, x ∈ l1 → x ∈ l2) → l1.length ≤ l2.length
  | [], _, _, _ => Nat.zero_le _
  | x :: xs, l2, hn, hs => by
    obtain ⟨h1, h2⟩ := List.nodup_cons.1 hn
    have hx := hs x (List.mem_cons_self ..)
    have := nodupN_le (l2 := l2.erase x) h2 (fun y hy => (List.mem_erase_of_ne (fun (e : y = x) => h1 (e ▸ hy))).2 (hs y (List.mem_cons_of_mem _ hy)))
    rw [List.length_erase_of_mem hx] at this
    have hp := List.length_pos_of_mem hx
    rw [List.length_cons]; omega
theorem card_join {ns ns' : List Nd} (h : Wf ns') {id a b : Nat} (hid : id < ns'.length + 2) (hs : ∀ x, x ∈ mems ns' id → joinS (M ns a) (M ns b) x) : (mems ns' id).length ≤ (mems ns a).length * (mems ns b).length := by
  have h1 := nodupN_le (l2 := (mems ns a).flatMap fun x => (mems ns b).map fun y => x ||| y) (mems_nodup h id hid) (fun x hx => by
    obtain ⟨p, q, hp, hq, rfl⟩ := hs x hx
    exact List.mem_flatMap.2 ⟨p, hp, List.mem_map.2 ⟨q, hq, rfl⟩⟩)
  have h2 : ∀ (l : List Nat), (l.flatMap fun x => (mems ns b).map fun y => x ||| y).length = l.length * (mems ns b).length := fun l => by
    induction l with
    | nil => simp
    | cons x l ih => rw [List.flatMap_cons, List.length_append, List.length_map, ih, List.length_cons, Nat.add_mul]; omega
  rw [h2] at h1
  exact h1

/-! ### Three joins -/
def pxN (f0 f1 i : Nat) : Nat := [f1, f0, f1].getD i 0
def pyN (g0 g1 i : Nat) : Nat := [g0, g1, g1].getD i 0
def JU (A0 A1 B0 B1 : Nat → Prop) (i : Nat) (x : Nat) : Prop := (1 ≤ i ∧ joinS A1 B0 x) ∨ (2 ≤ i ∧ joinS A0 B1 x) ∨ (3 ≤ i ∧ joinS A1 B1 x)
def jsz (a0 a1 b0 b1 : Nat) : Nat → Nat
  | 0 => 0
  | 1 => a1 * b0
  | 2 => a1 * b0 + a0 * b1
  | _ => a1 * b0 + a0 * b1 + a1 * b1
def cJs (ns : List Nd) (l f0 f1 g0 g1 : Nat) : Nat → Nat
  | 0 => 0
  | 1 => cJE ns f1 g0
  | 2 => cJE ns f1 g0 + cJE ns f0 g1 + (kJ ns f0 f1 g0 g1 - (l + 1)) * min ((mems ns f1).length * (mems ns g0).length) ((mems ns f0).length * (mems ns g1).length)
  | _ => cJE ns f1 g0 + cJE ns f0 g1 + cJE ns f1 g1 + uJE ns l f0 f1 g0 g1
theorem JU_0 (A0 A1 B0 B1 : Nat → Prop) (ns : List Nd) (x : Nat) : x ∈ mems ns 0 ↔ JU A0 A1 B0 B1 0 x := by
  rw [mems_0]
  unfold JU
  exact ⟨fun h => (by cases h), fun h => (by omega)⟩
theorem JU_3 (A0 A1 B0 B1 : Nat → Prop) (x : Nat) : JU A0 A1 B0 B1 3 x ↔ opJ.resH A0 A1 B0 B1 x := by
  unfold JU opJ
  simp
theorem JU_s {A0 A1 B0 B1 P Q : Nat → Prop} {i : Nat} (hi : i < 3) (hP : P = [A1, A0, A1].getD i A0) (hQ : Q = [B0, B1, B1].getD i B0) (x : Nat) : (JU A0 A1 B0 B1 i x ∨ joinS P Q x) ↔ JU A0 A1 B0 B1 (i + 1) x := by
  subst hP hQ
  have : i = 0 ∨ i = 1 ∨ i = 2 := by omega
  unfold JU
  rcases this with rfl | rfl | rfl
  · constructor
    · rintro (h | h)
      · omega
      · exact .inl ⟨by omega, h⟩
    · rintro (h | h | h)
      · exact .inr h.2
      · omega
      · omega
  · constructor
    · rintro ((h | h | h) | h)
      · exact .inl ⟨by omega, h.2⟩
      · omega
      · omega
      · exact .inr (.inl ⟨by omega, h⟩)
    · rintro (h | h | h)
      · exact .inl (.inl ⟨by omega, h.2⟩)
      · exact .inr h.2
      · omega
  · constructor
    · rintro ((h | h | h) | h)
      · exact .inl ⟨by omega, h.2⟩
      · exact .inr (.inl ⟨by omega, h.2⟩)
      · omega
      · exact .inr (.inr ⟨by omega, h⟩)
    · rintro (h | h | h)
      · exact .inl (.inl ⟨by omega, h.2⟩)
      · exact .inl (.inr (.inl ⟨by omega, h.2⟩))
      · exact .inr h.2
theorem cJ_s {ns : List Nd} {l f0 f1 g0 g1 i : Nat} (hi : i < 3) : cJs ns l f0 f1 g0 g1 i + (cJE ns (pxN f0 f1 i) (pyN g0 g1 i) + (kJ ns f0 f1 g0 g1 - (l + 1)) * min (jsz (mems ns f0).length (mems ns f1).length (mems ns g0).length (mems ns g1).length i) ((mems ns (pxN f0 f1 i)).length * (mems ns (pyN g0 g1 i)).length)) = cJs ns l f0 f1 g0 g1 (i + 1) := by
  have : i = 0 ∨ i = 1 ∨ i = 2 := by omega
  rcases this with rfl | rfl | rfl
  · show 0 + (cJE ns f1 g0 + _ * min 0 _) = cJE ns f1 g0
    rw [Nat.zero_min, Nat.mul_zero]; omega
  · show cJE ns f1 g0 + (cJE ns f0 g1 + _ * min _ _) = cJE ns f1 g0 + cJE ns f0 g1 + _ * min _ _
    exact (Nat.add_assoc _ _ _).symm
  · show cJE ns f1 g0 + cJE ns f0 g1 + (kJ ns f0 f1 g0 g1 - (l + 1)) * min ((mems ns f1).length * (mems ns g0).length) ((mems ns f0).length * (mems ns g1).length) + (cJE ns f1 g1 + (kJ ns f0 f1 g0 g1 - (l + 1)) * min ((mems ns f1).length * (mems ns g0).length + (mems ns f0).length * (mems ns g1).length) ((mems ns f1).length * (mems ns g1).length)) = cJE ns f1 g0 + cJE ns f0 g1 + cJE ns f1 g1 + uJE ns l f0 f1 g0 g1
    unfold uJE uJ
    omega
theorem cJ_le (ns : List Nd) (l f0 f1 g0 g1 : Nat) {i : Nat} (h : i ≤ 3) : cJs ns l f0 f1 g0 g1 i ≤ cJs ns l f0 f1 g0 g1 3 := by
  have s0 := cJ_s (ns := ns) (l := l) (f0 := f0) (f1 := f1) (g0 := g0) (g1 := g1) (show 0 < 3 by decide)
  have s1 := cJ_s (ns := ns) (l := l) (f0 := f0) (f1 := f1) (g0 := g0) (g1 := g1) (show 1 < 3 by decide)
  have s2 := cJ_s (ns := ns) (l := l) (f0 := f0) (f1 := f1) (g0 := g0) (g1 := g1) (show 2 < 3 by decide)
  simp only [Nat.zero_add, Nat.reduceAdd] at s0 s1 s2
  have : i = 0 ∨ i = 1 ∨ i = 2 ∨ i = 3 := by omega
  rcases this with rfl | rfl | rfl | rfl <;> omega
theorem cJ_do {ns : List Nd} {l f0 f1 g0 g1 i : Nat} (hi : i < 3) : cJs ns l f0 f1 g0 g1 i + cJE ns (pxN f0 f1 i) (pyN g0 g1 i) ≤ cJs ns l f0 f1 g0 g1 3 := by
  refine Nat.le_trans ?_ (cJ_le _ _ _ _ _ _ (show i + 1 ≤ 3 by omega))
  rw [← cJ_s hi]
  omega
theorem prod_len (F G : List Nat) : (F.flatMap fun x => G.map fun y => x ||| y).length = F.length * G.length := by
  induction F with
  | nil => simp
  | cons x F ih => rw [List.flatMap_cons, List.length_append, List.length_map, ih, List.length_cons, Nat.add_mul, Nat.one_mul]; omega
theorem mem_prod {F G : List Nat} {x : Nat} (h : joinS (· ∈ F) (· ∈ G) x) : x ∈ F.flatMap fun x => G.map fun y => x ||| y := by
  obtain ⟨p, q, hp, hq, rfl⟩ := h
  exact List.mem_flatMap.2 ⟨p, hp, List.mem_map.2 ⟨q, hq, rfl⟩⟩
theorem JU_card {ns nsc : List Nd} (h : Wf nsc) {f0 f1 g0 g1 i out : Nat} (ho : out < nsc.length + 2) (hi : i < 3) (hs : ∀ x, x ∈ mems nsc out → JU (M ns f0) (M ns f1) (M ns g0) (M ns g1) i x) : (mems nsc out).length ≤ jsz (mems ns f0).length (mems ns f1).length (mems ns g0).length (mems ns g1).length i := by
  have hn := mems_nodup h out ho
  have : i = 0 ∨ i = 1 ∨ i = 2 := by omega
  rcases this with rfl | rfl | rfl
  · have := nodupN_le (l2 := []) hn (fun x hx => by
      have := hs x hx
      unfold JU at this
      omega)
    exact this
  · have := nodupN_le (l2 := (mems ns f1).flatMap fun x => (mems ns g0).map fun y => x ||| y) hn (fun x hx => by
      rcases hs x hx with h | h | h
      · exact mem_prod h.2
      · omega
      · omega)
    rwa [prod_len] at this
  · have := nodupN_le (l2 := ((mems ns f1).flatMap fun x => (mems ns g0).map fun y => x ||| y) ++ ((mems ns f0).flatMap fun x => (mems ns g1).map fun y => x ||| y)) hn (fun x hx => by
      rcases hs x hx with h | h | h
      · exact List.mem_append.2 (.inl (mem_prod h.2))
      · exact List.mem_append.2 (.inr (mem_prod h.2))
      · omega)
    rwa [List.length_append, prod_len, prod_len] at this
theorem join_tp {ns : List Nd} {f g K x : Nat} (hf : tp ns f ≤ K) (hg : tp ns g ≤ K) (h : joinS (M ns f) (M ns g) x) : x < 2 ^ K := by
  obtain ⟨a, b, ha, hb, rfl⟩ := h
  exact Nat.or_lt_two_pow (tp_le.1 hf a ha) (tp_le.1 hg b hb)
theorem JU_tp {ns nsc : List Nd} {f0 f1 g0 g1 i out : Nat} (hs : ∀ x, x ∈ mems nsc out → JU (M ns f0) (M ns f1) (M ns g0) (M ns g1) i x) : tp nsc out ≤ kJ ns f0 f1 g0 g1 := tp_le.2 fun x hx => by
  have k : tp ns f0 ≤ kJ ns f0 f1 g0 g1 ∧ tp ns f1 ≤ kJ ns f0 f1 g0 g1 ∧ tp ns g0 ≤ kJ ns f0 f1 g0 g1 ∧ tp ns g1 ≤ kJ ns f0 f1 g0 g1 := by unfold kJ; omega
  rcases hs x hx with h | h | h
  · exact join_tp k.2.1 k.2.2.1 h.2
  · exact join_tp k.1 k.2.2.2 h.2
  · exact join_tp k.2.1 k.2.2.2 h.2
theorem px_cases {i : Nat} (hi : i < 3) (f0 f1 : Nat) : pxN f0 f1 i = f0 ∨ pxN f0 f1 i = f1 := by
  have : i = 0 ∨ i = 1 ∨ i = 2 := by omega
  rcases this with rfl | rfl | rfl
  · exact .inr rfl
  · exact .inl rfl
  · exact .inr rfl
theorem py_cases {i : Nat} (hi : i < 3) (g0 g1 : Nat) : pyN g0 g1 i = g0 ∨ pyN g0 g1 i = g1 := by
  have : i = 0 ∨ i = 1 ∨ i = 2 := by omega
  rcases this with rfl | rfl | rfl
  · exact .inl rfl
  · exact .inr rfl
  · exact .inr rfl
/-- One of the three joins more. -/
theorem j2_got {ns nsc ns1 ns2 : List Nd} {R l i f0 f1 g0 g1 out id id2 : Nat} {er2 : Int} (hw : Wf ns) (hcw : Wf nsc) (h1w : Wf ns1) (hi : i < 3) (hl : l < 24)
    (v0 : f0 < ns.length + 2) (v1 : f1 < ns.length + 2) (v2 : g0 < ns.length + 2) (v3 : g1 < ns.length + 2) (k0 : l < lvl ns f0) (k1 : l < lvl ns f1) (k2 : l < lvl ns g0) (k3 : l < lvl ns g1)
    (g : Got ns nsc R (cJs ns l f0 f1 g0 g1 i) (l + 1) (JU (M ns f0) (M ns f1) (M ns g0) (M ns g1) i) out 0)
    (gd : Got nsc ns1 R (opJ.cst nsc (pxN f0 f1 i) (pyN g0 g1 i)) (min (lvl nsc (pxN f0 f1 i)) (lvl nsc (pyN g0 g1 i))) (opJ.res (M nsc (pxN f0 f1 i)) (M nsc (pyN g0 g1 i))) id 0)
    (gu : Got ns1 ns2 R (opU.cst ns1 out id) (min (lvl ns1 out) (lvl ns1 id)) (opU.res (M ns1 out) (M ns1 id)) id2 er2) :
    Got ns ns2 R (cJs ns l f0 f1 g0 g1 (i + 1)) (l + 1) (JU (M ns f0) (M ns f1) (M ns g0) (M ns g1) (i + 1)) id2 er2 := by
  obtain ⟨o1, o2, o3⟩ := g.ok rfl
  obtain ⟨d1, d2, d3⟩ := gd.ok rfl
  obtain ⟨q1, q2, q3⟩ := gd.old o1
  have hpx : pxN f0 f1 i < ns.length + 2 := by rcases px_cases hi f0 f1 with e | e <;> rw [e] <;> assumption
  have hpy : pyN g0 g1 i < ns.length + 2 := by rcases py_cases hi g0 g1 with e | e <;> rw [e] <;> assumption
  have hlx : l < lvl ns (pxN f0 f1 i) := by rcases px_cases hi f0 f1 with e | e <;> rw [e] <;> assumption
  have hly : l < lvl ns (pyN g0 g1 i) := by rcases py_cases hi g0 g1 with e | e <;> rw [e] <;> assumption
  obtain ⟨x1, x2, x3⟩ := g.old hpx
  obtain ⟨y1, y2, y3⟩ := g.old hpy
  have hc := card_join (ns := nsc) h1w d1 (fun x hx => (d3 x).1 hx)
  rw [x2, y2] at hc
  have hco := JU_card hcw o1 hi (fun x hx => (o3 x).1 hx)
  have hto : tp ns1 out ≤ kJ ns f0 f1 g0 g1 := by rw [tp_pre gd.pre o1]; exact JU_tp (fun x hx => (o3 x).1 hx)
  have htd : tp ns1 id ≤ kJ ns f0 f1 g0 g1 := tp_le.2 fun x hx => by
    have h := (d3 x).1 hx
    rw [M_pre g.pre hpx, M_pre g.pre hpy] at h
    refine join_tp ?_ ?_ h
    · unfold kJ; rcases px_cases hi f0 f1 with e | e <;> rw [e] <;> omega
    · unfold kJ; rcases py_cases hi g0 g1 with e | e <;> rw [e] <;> omega
  have eu : opU.cst ns1 out id ≤ (kJ ns f0 f1 g0 g1 - (l + 1)) * min (jsz (mems ns f0).length (mems ns f1).length (mems ns g0).length (mems ns g1).length i) ((mems ns (pxN f0 f1 i)).length * (mems ns (pyN g0 g1 i)).length) := by
    refine Nat.le_trans (cE_T h1w opU_ok.endF q1 d1 hto htd) ?_
    rw [x3, y3] at d2
    rw [q3, q2]
    exact Nat.mul_le_mul (by omega) (by omega)
  have ed : opJ.cst nsc (pxN f0 f1 i) (pyN g0 g1 i) = cJE ns (pxN f0 f1 i) (pyN g0 g1 i) := cJE_pre g.pre hw hpx hpy
  rw [ed] at gd
  refine (((g.then' gd (Nat.le_refl _)).then' gu (Nat.le_refl _)).weak (c := cJs ns l f0 f1 g0 g1 (i + 1)) ?_ fun x => ?_).low (by rw [x3, y3] at d2; omega)
  · rw [← cJ_s hi]
    omega
  · have ePx : ([M ns f1, M ns f0, M ns f1].getD i (M ns f0)) = M ns (pxN f0 f1 i) := by
      have : i = 0 ∨ i = 1 ∨ i = 2 := by omega
      rcases this with rfl | rfl | rfl <;> rfl
    have ePy : ([M ns g0, M ns g1, M ns g1].getD i (M ns g0)) = M ns (pyN g0 g1 i) := by
      have : i = 0 ∨ i = 1 ∨ i = 2 := by omega
      rcases this with rfl | rfl | rfl <;> rfl
    rw [← JU_s hi rfl rfl, ePx, ePy]
    refine or_congr ?_ ?_
    · show x ∈ mems ns1 out ↔ _
      rw [q2]; exact o3 x
    · rw [← M_pre g.pre hpx, ← M_pre g.pre hpy]
      exact d3 x
end

section
open Go Go.RowKit

theorem and1_bit {n l : Nat} : ((n / 2 ^ l &&& 1 : Nat) : Int) = 1 ↔ n.testBit l = true := by
  rw [Nat.and_one_is_mod, Nat.testBit_eq_decide_div_mod_eq, decide_eq_true_eq]
  omega
section
variable {P : Program} {f : Nat → Value} {w : World} {d : Option Nat} {ty : TypeId} {ps : String} {af : Array Edge} {g : Option (Nat × Bool)} {x y : Operand} {t t2 : TypeId}
theorem r_shrI {a b : Int} {yk : IntKind} (hx : evF f x = .int .i64 a) (hy : evF f y = .int yk b) (h0 : 0 ≤ a) (hb : 0 ≤ b) (hl : b ≤ 64) : (execOp (evF f) ⟨d, .binOp .shr t x y t2, ty, ps, af, g⟩).run P w = .ok (.value (.int .i64 ((a.toNat / 2 ^ b.toNat : Nat) : Int))) w := by
  obtain ⟨m, rfl⟩ := Int.eq_ofNat_of_zero_le h0
  rw [r_shr hx hy hb (by simpa [IntKind.bits] using hl), Int.toNat_natCast]
end

/-! ### Building -/
def clr (n l : Nat) : Nat := n / 2 ^ l * 2 ^ l
theorem clr_s (n l : Nat) : clr n l = clr n (l + 1) + (if n.testBit l then 2 ^ l else 0) := by
  unfold clr
  have e : n / 2 ^ (l + 1) = n / 2 ^ l / 2 := by rw [Nat.div_div_eq_div_mul, Nat.pow_succ]
  have hb : n.testBit l = decide (n / 2 ^ l % 2 = 1) := Nat.testBit_eq_decide_div_mod_eq
  rw [e, hb, Nat.pow_succ]
  have h2 := Nat.div_add_mod (n / 2 ^ l) 2
  generalize n / 2 ^ l = q at *
  generalize 2 ^ l = p at *
  by_cases h : q % 2 = 1
  · rw [if_pos (decide_eq_true h)]
    rw [h] at h2
    conv => lhs; rw [← h2]
    rw [Nat.add_mul, Nat.one_mul]
    congr 1
    rw [Nat.mul_comm 2, Nat.mul_assoc, Nat.mul_comm 2 p]
  · have h0 : q % 2 = 0 := by omega
    rw [if_neg (by simpa using h)]
    rw [h0] at h2
    conv => lhs; rw [← h2]
    rw [Nat.add_zero, Nat.add_zero, Nat.mul_comm 2, Nat.mul_assoc, Nat.mul_comm 2 p]
theorem clr_24 {n : Nat} (h : n < 2 ^ 24) : clr n 24 = 0 := by
  unfold clr; rw [Nat.div_eq_of_lt h, Nat.zero_mul]
theorem clr_0 (n : Nat) : clr n 0 = n := by unfold clr; simp
def bS (l : List Int) (lv : Nat) (x : Nat) : Prop := ∃ m, m ∈ l ∧ x = clr m.toNat lv
def woT (l : List Int) (lv k : Nat) : List Int := (l.take k).filter fun m => !m.toNat.testBit lv
def wiT (l : List Int) (lv k : Nat) : List Int := (l.take k).filter fun m => m.toNat.testBit lv
theorem take_s {l : List Int} {k : Nat} (h : k < l.length) : l.take (k + 1) = l.take k ++ [l.getD k 0] := by
  rw [List.take_add_one, List.getD_eq_getElem?_getD, List.getElem?_eq_getElem h]; rfl
theorem wi_t {l : List Int} {lv k : Nat} (h : k < l.length) (hb : (l.getD k 0).toNat.testBit lv = true) : wiT l lv k ++ [l.getD k 0] = wiT l lv (k + 1) ∧ woT l lv k = woT l lv (k + 1) := by
  unfold wiT woT
  rw [take_s h, List.filter_append, List.filter_append]
  simp only [List.filter_cons, List.filter_nil, hb, Bool.not_true, if_true]
  simp
theorem wi_f {l : List Int} {lv k : Nat} (h : k < l.length) (hb : ¬ (l.getD k 0).toNat.testBit lv = true) : woT l lv k ++ [l.getD k 0] = woT l lv (k + 1) ∧ wiT l lv k = wiT l lv (k + 1) := by
  have hb2 : (l.getD k 0).toNat.testBit lv = false := Bool.eq_false_iff.2 hb
  unfold wiT woT
  rw [take_s h, List.filter_append, List.filter_append]
  simp only [List.filter_cons, List.filter_nil, hb2, Bool.not_false, if_true]
  simp
theorem wo_len (l : List Int) (lv : Nat) : ∀ k, (woT l lv k).length + (wiT l lv k).length = (l.take k).length := fun k => by
  unfold woT wiT
  generalize l.take k = q
  induction q with
  | nil => rfl
  | cons a q ih =>
    simp only [List.filter_cons]
    cases a.toNat.testBit lv <;> simp <;> omega
theorem wo_mem {l : List Int} {lv k : Nat} {m : Int} (h : m ∈ woT l lv k) : m ∈ l := List.mem_of_mem_take (List.mem_filter.1 h).1
theorem wi_mem {l : List Int} {lv k : Nat} {m : Int} (h : m ∈ wiT l lv k) : m ∈ l := List.mem_of_mem_take (List.mem_filter.1 h).1
theorem bS_split (l : List Int) (lv x : Nat) : up lv (bS (woT l lv l.length) (lv + 1)) (bS (wiT l lv l.length) (lv + 1)) x ↔ bS l lv x := by
  unfold up bS woT wiT
  rw [List.take_length]
  simp only [List.mem_filter]
  constructor
  · rintro (⟨m, ⟨h1, h2⟩, rfl⟩ | ⟨y, ⟨m, ⟨h1, h2⟩, rfl⟩, rfl⟩)
    · refine ⟨m, h1, ?_⟩
      have h3 : m.toNat.testBit lv = false := by simpa using h2
      rw [clr_s m.toNat lv, h3]; rfl
    · refine ⟨m, h1, ?_⟩
      rw [clr_s m.toNat lv, h2]; rfl
  · rintro ⟨m, h1, rfl⟩
    cases hb : m.toNat.testBit lv with
    | true => exact .inr ⟨_, ⟨m, ⟨h1, hb⟩, rfl⟩, by rw [clr_s m.toNat lv, hb]; rfl⟩
    | false => exact .inl ⟨m, ⟨h1, by rw [hb]; rfl⟩, by rw [clr_s m.toNat lv, hb]; rfl⟩
/-- How many items members have, from one on. -/
def bcN : Nat → Nat → Nat → Nat
  | 0, _, _ => 0
  | n + 1, lv, m => (if m.testBit lv = true then 1 else 0) + bcN n (lv + 1) m
def bcL (lv : Nat) : List Int → Nat
  | [] => 0
  | m :: l => bcN (24 - lv) lv m.toNat + bcL lv l
theorem bc_split {lv : Nat} (h24 : lv < 24) (l : List Int) : bcL lv l = bcL (lv + 1) (l.filter fun m => !m.toNat.testBit lv) + bcL (lv + 1) (l.filter fun m => m.toNat.testBit lv) + (l.filter fun m => m.toNat.testBit lv).length := by
  induction l with
  | nil => rfl
  | cons m l ih =>
    obtain ⟨n, hn⟩ : ∃ n, 24 - lv = n + 1 := ⟨24 - lv - 1, by omega⟩
    have e : 24 - (lv + 1) = n := by omega
    have h1 : bcL lv (m :: l) = (if m.toNat.testBit lv = true then 1 else 0) + bcN n (lv + 1) m.toNat + bcL lv l := by rw [bcL, hn, bcN]
    rw [h1, ih]
    cases hb : m.toNat.testBit lv
    · simp only [List.filter_cons, hb, Bool.not_false, if_true, Bool.false_eq_true, if_false, bcL, e]; omega
    · simp only [List.filter_cons, hb, Bool.not_true, if_true, Bool.false_eq_true, if_false, bcL, e, List.length_cons]; omega
theorem build_got {ns ns1 ns2 ns3 : List Nd} {l : List Int} {R lv low high id : Nat} {er : Int} (h2w : Wf ns2) (h24 : lv < 24) (hl : 1 ≤ l.length)
    (g1 : Got ns ns1 R (bcL (lv + 1) (woT l lv l.length)) (lv + 1) (bS (woT l lv l.length) (lv + 1)) low 0) (g2 : Got ns1 ns2 R (bcL (lv + 1) (wiT l lv l.length)) (lv + 1) (bS (wiT l lv l.length) (lv + 1)) high 0)
    (g3 : Got ns2 ns3 R (min high 1) lv (up lv (M ns2 low) (M ns2 high)) id er) : Got ns ns3 R (bcL lv l) lv (bS l lv) id er := by
  obtain ⟨v1, _, m1⟩ := g1.ok rfl
  obtain ⟨v2, _, m2⟩ := g2.ok rfl
  refine ((g1.then' g2 (Nat.le_refl _)).then' g3 (Nat.le_refl _)).weak ?_ fun x => ?_
  · have hs := bc_split h24 l
    have ew : woT l lv l.length = l.filter fun m => !m.toNat.testBit lv := by unfold woT; rw [List.take_length]
    have ei : wiT l lv l.length = l.filter fun m => m.toNat.testBit lv := by unfold wiT; rw [List.take_length]
    rw [← ew, ← ei] at hs
    by_cases h0 : high = 0
    · subst h0; omega
    · obtain ⟨y, hy⟩ := mems_ne h2w high v2 h0
      obtain ⟨m, hm, _⟩ := (m2 y).1 hy
      have := List.length_pos_of_mem hm
      omega
  · rw [← bS_split l lv x, show M ns2 low = bS (woT l lv l.length) (lv + 1) by rw [M_pre g2.pre v1]; exact set_ext' m1, show M ns2 high = bS (wiT l lv l.length) (lv + 1) from set_ext' m2]
theorem build_c1 {l : List Int} {lv : Nat} (h24 : lv < 24) : bcL (lv + 1) (woT l lv l.length) + bcL (lv + 1) (wiT l lv l.length) ≤ bcL lv l := by
  unfold woT wiT
  rw [List.take_length, bc_split h24 l]
  omega
theorem build_0 {ns : List Nd} {l : List Int} {lv : Nat} (h : ¬ (1 ≤ l.length)) (x : Nat) : x ∈ mems ns 0 ↔ bS l lv x := by
  rw [mems_0]
  have : l = [] := List.eq_nil_of_length_eq_zero (by omega)
  subst this
  exact ⟨fun h => (by cases h), fun ⟨m, h, _⟩ => (by cases h)⟩
theorem build_1 {ns : List Nd} {l : List Int} (h : 1 ≤ l.length) (hm : ∀ m, m ∈ l → 0 ≤ m ∧ m < 16777216) (x : Nat) : x ∈ mems ns 1 ↔ bS l 24 x := by
  rw [mems_1, List.mem_singleton]
  constructor
  · rintro rfl
    obtain ⟨m, hm2⟩ := List.exists_mem_of_length_pos (show 0 < l.length by omega)
    exact ⟨m, hm2, (clr_24 (by have := hm m hm2; omega)).symm⟩
  · rintro ⟨m, h2, rfl⟩
    exact clr_24 (by have := hm m h2; omega)

/-! ### Parts -/
structure NodeOf (ns : List Nd) (f : Nat) (n : Nd) : Prop where
  vlo : n.lo < ns.length + 2
  vhi : n.hi < ns.length + 2
  llo : n.l < lvl ns n.lo
  lhi : n.l < lvl ns n.hi
  l24 : n.l < 24
  lv : lvl ns f = n.l
  mem : M ns f = up n.l (M ns n.lo) (M ns n.hi)
  cnt : (mems ns f).length = (mems ns n.lo).length + (mems ns n.hi).length
  ltlo : n.lo < f
  lthi : n.hi < f
  two : 2 ≤ f
theorem node_of {ns : List Nd} (h : Wf ns) {f : Nat} (hf : f < ns.length + 2) (ht : thereB ns (f : Int) = true) : NodeOf ns f (nodeI ns (f : Int)) := by
  obtain ⟨h2, hn, hl⟩ := nodeI_nat ht
  obtain ⟨i, rfl⟩ : ∃ i, f = i + 2 := ⟨f - 2, by omega⟩
  have hi : i < ns.length := by omega
  obtain ⟨a1, a2, a3, a4, a5, a6⟩ := h.ok i hi
  rw [hn, Nat.add_sub_cancel]
  refine ⟨by omega, by omega, a4, a5, a6, lvl_node i, set_ext' fun x => ?_, ?_, a1, a2, h2⟩
  · show x ∈ mems ns (i + 2) ↔ _
    rw [mems_node h hi, List.mem_append, List.mem_map]
    exact or_congr Iff.rfl ⟨fun ⟨y, p, q⟩ => ⟨y, p, q.symm⟩, fun ⟨y, p, q⟩ => ⟨y, p, q.symm⟩⟩
  · rw [mems_node h hi, List.length_append, List.length_map]
theorem no_node {ns : List Nd} {f : Nat} (hf : f < ns.length + 2) (ht : thereB ns (f : Int) = false) : f < 2 := by
  have := of_decide_eq_false ht
  omega
/-! ### What holds none of another family -/
/-! ### The least -/
/-! ### Counting -/
theorem mems_card {ns : List Nd} (h : Wf ns) {id : Nat} (hid : id < ns.length + 2) : (mems ns id).length ≤ 16777216 := by
  have := nodupN_le (l2 := List.range 16777216) (mems_nodup h id hid) (fun x hx => List.mem_range.2 (mems_bits h id hid x hx).2)
  simpa using this
def cntI (ns : List Nd) (id : Int) : Int := if thereZ ns id = true then (((mems ns id.toNat).length : Nat) : Int) else 0
theorem cntI_nat {ns : List Nd} {id : Nat} (h : id < ns.length + 2) : cntI ns (id : Int) = (((mems ns id).length : Nat) : Int) := by
  unfold cntI
  rw [if_pos (tz_iff.2 (by omega)), Int.toNat_natCast]

theorem not_f' {b : Bool} (h : (!b) = false) : b = true := by cases b <;> simp_all
def ofZB (l : List Int) : Bool := l.all fun m => decide (0 ≤ m ∧ m < 16777216)
theorem ofB_iff {l : List Int} : ofZB l = true ↔ ∀ m, m ∈ l → 0 ≤ m ∧ m < 16777216 := by
  unfold ofZB
  rw [List.all_eq_true]
  exact ⟨fun h m hm => of_decide_eq_true (h m hm), fun h m hm => decide_eq_true (h m hm)⟩
theorem ofB_k {l : List Int} {k : Nat} (hk : k < l.length) (h : l.getD k 0 < 0 ∨ 16777216 ≤ l.getD k 0) : ofZB l = false := Bool.eq_false_iff.2 fun q => by
  have := ofB_iff.1 q _ (getD_mem (d := 0) hk)
  omega
theorem ofB_all {l : List Int} {k : Nat} (hk : k = l.length) (h : ∀ q, q < k → 0 ≤ l.getD q 0 ∧ l.getD q 0 < 16777216) : ofZB l = true := ofB_iff.2 fun m hm => by
  obtain ⟨j, hj, rfl⟩ := List.getElem_of_mem hm
  have := h j (by omega)
  rwa [List.getD_eq_getElem?_getD, List.getElem?_eq_getElem hj] at this
/-- An outcome, or an error at once. -/
def PE (Ta Tn : TypeId) (N ba bm R : Nat) (w : World) (ns : List Nd) (ok : Bool) (c l : Nat) (S : Nat → Prop) (v : Value) (w' : World) : Prop :=
  ∃ (ns' : List Nd) (id : Nat) (er : Int), v = .tuple #[.int .i64 (id : Int), .int .i64 er] ∧ Dx Tn N [ba, bm] w w' ∧ Dia Ta Tn N ba bm R w' ns' ∧ ((ok = true ∧ Got ns ns' R c l S id er) ∨ (ok = false ∧ ns' = ns ∧ id = 0 ∧ er = 1))
theorem cnt_none {ns : List Nd} {id : Int} (h : thereZ ns id = false) : Value.int .i64 0 = .int .i64 (cntI ns id) := by unfold cntI; rw [h]; rfl
theorem cnt_small {ns : List Nd} {id : Int} (h : thereZ ns id = true) (h2 : id < 2) : Value.int .i64 id = .int .i64 (cntI ns id) := by
  have := tz_iff.1 h
  have e : id = 0 ∨ id = 1 := by omega
  unfold cntI
  rw [h, if_pos rfl]
  rcases e with rfl | rfl
  · rw [show (0 : Int).toNat = 0 from rfl, mems_0]; rfl
  · rw [show (1 : Int).toNat = 1 from rfl, mems_1]; rfl
theorem cnt_node {ns : List Nd} {f : Nat} {n : Nd} (hf : f < ns.length + 2) (hn : NodeOf ns f n) : cntI ns (n.lo : Int) + cntI ns (n.hi : Int) = cntI ns (f : Int) := by
  rw [cntI_nat hn.vlo, cntI_nat hn.vhi, cntI_nat hf, hn.cnt]
  omega
end

end Go.Proofs.Ytpamgfbecgjjeaa
