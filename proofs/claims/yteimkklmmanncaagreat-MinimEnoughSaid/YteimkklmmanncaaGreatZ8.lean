/- Families as diagrams: nodes, the members of an id, what is right, and that a family has one id. No program in it. The memory of an arena, and what a deed with it leaves as it was; outcomes of deeds. No program in it. What deeds with two families come to: item by item; how many nodes they may need. N -/
import Derived.Test.YteimkklmmanncaaGreatDx
namespace Go.Proofs.YteimkklmmanncaaGreat
set_option linter.unusedVariables false
set_option linter.unusedSimpArgs false
section
section
open Go Go.RowKit
structure Nd where
  l : Nat
  lo : Nat
  hi : Nat
  deriving DecidableEq, Repr
def mA : Nd := ⟨0, 0, 0⟩
def MX (n : Nd) : List Value := [.int .i64 (n.l : Int), .int .i64 (n.lo : Int), .int .i64 (n.hi : Int)]
theorem na (n : Nd) : (MX n).length = 3 := rfl
def sf (n : Nd) : Value := .agg #[.int .i64 (n.l : Int), .int .i64 (n.lo : Int), .int .i64 (n.hi : Int)]
theorem Bf (a b : Nd) (h : sf a = sf b) : a = b := by
  cases a; cases b
  simp only [sf, Value.agg.injEq, Array.mk.injEq, List.cons.injEq, Value.int.injEq, true_and, and_true] at h
  obtain ⟨h1, h2, h3⟩ := h
  simp only [Nd.mk.injEq]
  omega
def wZ (t : List (List Nat)) (n : Nd) : List (List Nat) := t ++ [t.getD n.lo [] ++ (t.getD n.hi []).map fun x => x + 2 ^ n.l]
def NX (ns : List Nd) : List (List Nat) := ns.foldl wZ [[], [0]]
def dN (ns : List Nd) (id : Nat) : List Nat := (NX ns).getD id []
theorem zR (ns : List Nd) (n : Nd) : NX (ns ++ [n]) = wZ (NX ns) n := by
  unfold NX; rw [List.foldl_append]; rfl
theorem wK : ∀ (ns : List Nd) (t : List (List Nat)), (ns.foldl wZ t).length = t.length + ns.length
  | [], t => rfl
  | n :: ns, t => by
    rw [List.foldl_cons, wK ns, wZ, List.length_append, List.length_singleton, List.length_cons]; omega
theorem yb (ns : List Nd) : (NX ns).length = ns.length + 2 := by
  unfold NX; rw [wK]; simp; omega
theorem wx {ns : List Nd} {n : Nd} {id : Nat} (h : id < ns.length + 2) : dN (ns ++ [n]) id = dN ns id := by
  unfold dN
  rw [zR, wZ, List.getD_eq_getElem?_getD, List.getElem?_append_left (by rw [yb]; exact h), List.getD_eq_getElem?_getD]
theorem qo (ns : List Nd) (n : Nd) : dN (ns ++ [n]) (ns.length + 2) = dN ns n.lo ++ (dN ns n.hi).map fun x => x + 2 ^ n.l := by
  unfold dN
  rw [zR, wZ, List.getD_eq_getElem?_getD, List.getElem?_append_right (by rw [yb]; exact Nat.le_refl _), yb, Nat.sub_self]
  rfl
theorem rC {id : Nat} : ∀ (r ns : List Nd), id < ns.length + 2 → dN (ns ++ r) id = dN ns id
  | [], ns, _ => by rw [List.append_nil]
  | n :: r, ns, h => by
    rw [show ns ++ n :: r = (ns ++ [n]) ++ r by simp, rC r (ns ++ [n]) (by simp; omega), wx h]
theorem gx {ns ns' : List Nd} {id : Nat} (hp : ns <+: ns') (h : id < ns.length + 2) : dN ns' id = dN ns id := by
  obtain ⟨r, rfl⟩ := hp
  exact rC r ns h
theorem mn (ns : List Nd) : dN ns 0 = [] := rC ns [] (by decide)
theorem l7 (ns : List Nd) : dN ns 1 = [0] := rC ns [] (by decide)
def d5 (ns : List Nd) (id : Nat) : Nat := if id < 2 then 24 else (ns.getD (id - 2) mA).l
theorem kD {ns : List Nd} {id : Nat} (h : id < 2) : d5 ns id = 24 := if_pos h
theorem jt {ns : List Nd} (i : Nat) : d5 ns (i + 2) = (ns.getD i mA).l := if_neg (by omega)
theorem q6 {α : Type} {a b : List α} {d : α} {i : Nat} (hp : a <+: b) (h : i < a.length) : b.getD i d = a.getD i d := by
  obtain ⟨r, rfl⟩ := hp
  rw [List.getD_eq_getElem?_getD, List.getElem?_append_left h, List.getD_eq_getElem?_getD]
theorem gz {ns ns' : List Nd} {id : Nat} (hp : ns <+: ns') (h : id < ns.length + 2) : d5 ns' id = d5 ns id := by
  unfold d5
  by_cases h2 : id < 2
  · rw [if_pos h2, if_pos h2]
  · rw [if_neg h2, if_neg h2, q6 hp (by omega)]
def PB (ns : List Nd) (i : Nat) (n : Nd) : Prop := n.lo < i + 2 ∧ n.hi < i + 2 ∧ n.hi ≠ 0 ∧ n.l < d5 ns n.lo ∧ n.l < d5 ns n.hi ∧ n.l < 24
structure Wf (ns : List Nd) : Prop where
  nd : ns.Nodup
  ok : ∀ i, i < ns.length → PB ns i (ns.getD i mA)
theorem Wf.nil : Wf [] := ⟨List.nodup_nil, fun i h => by cases h⟩
theorem Wf.snoc {ns : List Nd} {n : Nd} (h : Wf ns) (hn : n ∉ ns) (hlo : n.lo < ns.length + 2) (hhi : n.hi < ns.length + 2) (h0 : n.hi ≠ 0) (l1 : n.l < d5 ns n.lo) (l2 : n.l < d5 ns n.hi) (h24 : n.l < 24) : Wf (ns ++ [n]) := by
  have hp : ns <+: ns ++ [n] := List.prefix_append _ _
  refine ⟨?_, fun i hi => ?_⟩
  · rw [List.nodup_append]
    exact ⟨h.nd, by simp, fun a ha b hb => by simp at hb; subst hb; exact fun e => hn (e ▸ ha)⟩
  · rw [List.length_append, List.length_singleton] at hi
    by_cases e : i < ns.length
    · obtain ⟨a1, a2, a3, a4, a5, a6⟩ := h.ok i e
      rw [q6 hp e]
      exact ⟨a1, a2, a3, by rw [gz hp (by omega)]; exact a4, by rw [gz hp (by omega)]; exact a5, a6⟩
    · obtain rfl : i = ns.length := by omega
      have e2 : (ns ++ [n]).getD ns.length mA = n := by
        rw [List.getD_eq_getElem?_getD, List.getElem?_append_right (Nat.le_refl _), Nat.sub_self]; rfl
      rw [e2]
      exact ⟨hlo, hhi, h0, by rw [gz hp hlo]; exact l1, by rw [gz hp hhi]; exact l2, h24⟩
section
variable {ns : List Nd}
theorem iq (h : Wf ns) {i : Nat} (hi : i < ns.length) : dN ns (i + 2) = dN ns (ns.getD i mA).lo ++ (dN ns (ns.getD i mA).hi).map fun x => x + 2 ^ (ns.getD i mA).l := by
  obtain ⟨a1, a2, _⟩ := h.ok i hi
  have e : ns.take (i + 1) = ns.take i ++ [ns.getD i mA] := by
    rw [List.take_add_one, List.getD_eq_getElem?_getD, List.getElem?_eq_getElem hi]; rfl
  have hl : (ns.take i).length = i := by rw [List.length_take]; omega
  have hp : ns.take i <+: ns := List.take_prefix _ _
  have hp1 : ns.take (i + 1) <+: ns := List.take_prefix _ _
  rw [gx hp1 (by rw [List.length_take]; omega), e]
  have := qo (ns.take i) (ns.getD i mA)
  rw [hl] at this
  rw [this, ← gx hp (by rw [hl]; exact a1), ← gx hp (by rw [hl]; exact a2)]
theorem fY {x l : Nat} (h : 2 ^ (l + 1) ∣ x) : x.testBit l = false := by
  obtain ⟨k, rfl⟩ := h
  rw [Nat.testBit_eq_decide_div_mod_eq, show 2 ^ (l + 1) * k = 2 ^ l * (2 * k) by rw [Nat.pow_succ, Nat.mul_assoc], Nat.mul_div_cancel_left _ (Nat.two_pow_pos l)]
  simp
theorem jB {x l : Nat} (h : 2 ^ (l + 1) ∣ x) : (x + 2 ^ l).testBit l = true := by
  obtain ⟨k, rfl⟩ := h
  rw [Nat.testBit_eq_decide_div_mod_eq, show 2 ^ (l + 1) * k + 2 ^ l = 2 ^ l * (2 * k + 1) by rw [Nat.pow_succ, Nat.mul_add, Nat.mul_one, Nat.mul_assoc], Nat.mul_div_cancel_left _ (Nat.two_pow_pos l)]
  simp
theorem gH {a b x : Nat} (h : a < b) (hx : 2 ^ b ∣ x) : 2 ^ (a + 1) ∣ x := Nat.dvd_trans (Nat.pow_dvd_pow 2 h) hx
theorem Ci {l x : Nat} (h : 2 ^ (l + 1) ∣ x) : 2 ^ l ∣ x + 2 ^ l := Nat.dvd_add (Nat.dvd_trans (Nat.pow_dvd_pow 2 (Nat.le_succ l)) h) (Nat.dvd_refl _)
theorem OI {l x : Nat} (hl : l < 24) (h : 2 ^ (l + 1) ∣ x) (hx : x < 2 ^ 24) : x + 2 ^ l < 2 ^ 24 := by
  obtain ⟨k, rfl⟩ := h
  have e : 2 ^ 24 = 2 ^ (l + 1) * 2 ^ (23 - l) := by rw [← Nat.pow_add]; congr 1; omega
  rw [e] at hx ⊢
  have hk : k < 2 ^ (23 - l) := Nat.lt_of_mul_lt_mul_left hx
  have h1 : 2 ^ (l + 1) * (k + 1) ≤ 2 ^ (l + 1) * 2 ^ (23 - l) := Nat.mul_le_mul_left _ hk
  have h2 : 0 < 2 ^ l := Nat.two_pow_pos l
  have h3 : 2 ^ (l + 1) = 2 ^ l * 2 := Nat.pow_succ ..
  rw [Nat.mul_add, Nat.mul_one] at h1
  omega
theorem e7 (h : Wf ns) : ∀ id, id < ns.length + 2 → ∀ x, x ∈ dN ns id → 2 ^ d5 ns id ∣ x ∧ x < 2 ^ 24 := by
  intro id
  induction id using Nat.strongRecOn with
  | _ id ih =>
    intro hid x hx
    match id, ih, hid, hx with
    | 0, _, _, hx => rw [mn] at hx; cases hx
    | 1, _, _, hx =>
      rw [l7] at hx
      obtain rfl : x = 0 := by simpa using hx
      exact ⟨Nat.dvd_zero _, by decide⟩
    | i + 2, ih, hid, hx =>
      have hi : i < ns.length := by omega
      obtain ⟨a1, a2, a3, a4, a5, a6⟩ := h.ok i hi
      rw [iq h hi, List.mem_append, List.mem_map] at hx
      rw [jt]
      rcases hx with hx | ⟨y, hy, rfl⟩
      · obtain ⟨g1, g2⟩ := ih _ a1 (by omega) x hx
        exact ⟨Nat.dvd_trans (Nat.pow_dvd_pow 2 (Nat.le_of_lt a4)) g1, g2⟩
      · obtain ⟨g1, g2⟩ := ih _ a2 (by omega) y hy
        exact ⟨Ci (gH a5 g1), OI a6 (gH a5 g1) g2⟩
theorem io (h : Wf ns) : ∀ id, id < ns.length + 2 → id ≠ 0 → ∃ x, x ∈ dN ns id := by
  intro id
  induction id using Nat.strongRecOn with
  | _ id ih =>
    intro hid h0
    match id, ih, hid, h0 with
    | 0, _, _, h0 => exact absurd rfl h0
    | 1, _, _, _ => exact ⟨0, by rw [l7]; exact List.mem_cons_self ..⟩
    | i + 2, ih, hid, _ =>
      have hi : i < ns.length := by omega
      obtain ⟨a1, a2, a3, _⟩ := h.ok i hi
      obtain ⟨y, hy⟩ := ih _ a2 (by omega) a3
      exact ⟨_, by rw [iq h hi]; exact List.mem_append_right _ (List.mem_map.2 ⟨y, hy, rfl⟩)⟩
theorem jg (h : Wf ns) : ∀ id, id < ns.length + 2 → (dN ns id).Nodup := by
  intro id
  induction id using Nat.strongRecOn with
  | _ id ih =>
    intro hid
    match id, ih, hid with
    | 0, _, _ => rw [mn]; exact List.nodup_nil
    | 1, _, _ => rw [l7]; simp
    | i + 2, ih, hid =>
      have hi : i < ns.length := by omega
      obtain ⟨a1, a2, a3, a4, a5, a6⟩ := h.ok i hi
      rw [iq h hi, List.nodup_append]
      refine ⟨ih _ a1 (by omega), ?_, fun x hx y hy e => ?_⟩
      · exact List.pairwise_map.2 ((ih _ a2 (by omega)).imp (fun hab e => hab (by omega)))
      · obtain ⟨z, hz, rfl⟩ := List.mem_map.1 hy
        have b1 := fY (gH a4 (e7 h _ (by omega) x hx).1)
        have b2 := jB (gH a5 (e7 h _ (by omega) z hz).1)
        rw [e, b2] at b1
        cases b1
theorem mb (h : Wf ns) {id : Nat} (hid : id < ns.length + 2) : d5 ns id ≤ 24 := by
  match id, hid with
  | 0, _ => exact Nat.le_refl _
  | 1, _ => exact Nat.le_refl _
  | i + 2, hid => rw [jt]; exact Nat.le_of_lt (h.ok i (by omega)).2.2.2.2.2
theorem m4 (h : Wf ns) {id : Nat} (hid : id < ns.length + 2) (h2 : 2 ≤ id) : d5 ns id < 24 := by
  obtain ⟨i, rfl⟩ : ∃ i, id = i + 2 := ⟨id - 2, by omega⟩
  rw [jt]; exact (h.ok i (by omega)).2.2.2.2.2
theorem Iq (h : Wf ns) : ∀ a, a < ns.length + 2 → ∀ b, b < ns.length + 2 → (∀ x, x ∈ dN ns a ↔ x ∈ dN ns b) → a = b := by
  have hne0 : ∀ b, b < ns.length + 2 → (∀ x, x ∈ dN ns 0 ↔ x ∈ dN ns b) → 0 = b := fun b hb hs => by
    by_cases e : b = 0
    · exact e.symm
    · obtain ⟨x, hx⟩ := io h b hb e
      have := (hs x).2 hx
      rw [mn] at this; cases this
  have hhi : ∀ i, i < ns.length → ∃ y, y ∈ dN ns (ns.getD i mA).hi ∧ y + 2 ^ (ns.getD i mA).l ∈ dN ns (i + 2) := fun i hi => by
    obtain ⟨a1, a2, a3, _⟩ := h.ok i hi
    obtain ⟨y, hy⟩ := io h _ (by omega) a3
    exact ⟨y, hy, by rw [iq h hi]; exact List.mem_append_right _ (List.mem_map.2 ⟨y, hy, rfl⟩)⟩
  have hne1 : ∀ i, i < ns.length → ¬ ∀ x, x ∈ dN ns 1 ↔ x ∈ dN ns (i + 2) := fun i hi hs => by
    obtain ⟨y, _, hy⟩ := hhi i hi
    have := (hs _).2 hy
    rw [l7] at this
    have h2 := Nat.two_pow_pos (ns.getD i mA).l
    have h3 := List.mem_singleton.1 this
    omega
  have hlev : ∀ i j, i < ns.length → j < ns.length → (ns.getD i mA).l < (ns.getD j mA).l → ¬ ∀ x, x ∈ dN ns (i + 2) ↔ x ∈ dN ns (j + 2) := fun i j hi hj hl hs => by
    obtain ⟨y, hy, hm⟩ := hhi i hi
    have g1 := (e7 h _ (by omega) _ ((hs _).1 hm)).1
    rw [jt] at g1
    obtain ⟨a1, a2, a3, a4, a5, a6⟩ := h.ok i hi
    have b1 := fY (gH hl g1)
    rw [jB (gH a5 (e7 h _ (by omega) y hy).1)] at b1
    cases b1
  intro a
  induction a using Nat.strongRecOn with
  | _ a ih =>
    intro ha b hb hs
    match a, b, ih, ha, hb, hs with
    | 0, b, _, _, hb, hs => exact hne0 b hb hs
    | a + 1, 0, _, ha, _, hs => exact (hne0 (a + 1) ha (fun x => (hs x).symm)).symm
    | 1, 1, _, _, _, _ => rfl
    | 1, j + 2, _, _, hb, hs => exact absurd hs (hne1 j (by omega))
    | i + 2, 1, _, ha, _, hs => exact absurd (fun x => (hs x).symm) (hne1 i (by omega))
    | i + 2, j + 2, ih, ha, hb, hs =>
      have hi : i < ns.length := by omega
      have hj : j < ns.length := by omega
      have hl : (ns.getD i mA).l = (ns.getD j mA).l := by
        rcases Nat.lt_trichotomy (ns.getD i mA).l (ns.getD j mA).l with k | k | k
        · exact absurd hs (hlev i j hi hj k)
        · exact k
        · exact absurd (fun x => (hs x).symm) (hlev j i hj hi k)
      obtain ⟨a1, a2, a3, a4, a5, a6⟩ := h.ok i hi
      obtain ⟨c1, c2, c3, c4, c5, c6⟩ := h.ok j hj
      have hlo : (ns.getD i mA).lo = (ns.getD j mA).lo := ih _ a1 (by omega) _ (by omega) fun x => by
        have hx := hs x
        rw [iq h hi, iq h hj, List.mem_append, List.mem_append, List.mem_map, List.mem_map] at hx
        constructor
        · intro k
          have b1 := fY (gH a4 (e7 h _ (by omega) x k).1)
          rcases hx.1 (.inl k) with q | ⟨y, hy, rfl⟩
          · exact q
          · rw [hl, jB (gH c5 (e7 h _ (by omega) y hy).1)] at b1; cases b1
        · intro k
          have b1 := fY (gH c4 (e7 h _ (by omega) x k).1)
          rcases hx.2 (.inl k) with q | ⟨y, hy, rfl⟩
          · exact q
          · rw [← hl, jB (gH a5 (e7 h _ (by omega) y hy).1)] at b1; cases b1
      have hhi2 : (ns.getD i mA).hi = (ns.getD j mA).hi := ih _ a2 (by omega) _ (by omega) fun x => by
        have hx := hs (x + 2 ^ (ns.getD i mA).l)
        rw [iq h hi, iq h hj, List.mem_append, List.mem_append, List.mem_map, List.mem_map] at hx
        constructor
        · intro k
          have b1 := jB (gH a5 (e7 h _ (by omega) x k).1)
          rcases hx.1 (.inr ⟨x, k, rfl⟩) with q | ⟨y, hy, e⟩
          · have b2 := fY (gH c4 (e7 h _ (by omega) _ q).1)
            rw [← hl, b1] at b2; cases b2
          · rw [hl] at e
            obtain rfl : y = x := by omega
            exact hy
        · intro k
          have b1 := jB (gH c5 (e7 h _ (by omega) x k).1)
          rw [← hl] at b1
          rcases hx.2 (.inr ⟨x, k, by rw [hl]⟩) with q | ⟨y, hy, e⟩
          · rw [fY (gH a4 (e7 h _ (by omega) _ q).1)] at b1; cases b1
          · obtain rfl : y = x := by omega
            exact hy
      have hn : ns.getD i mA = ns.getD j mA := by
        generalize ns.getD i mA = p at *
        generalize ns.getD j mA = q at *
        cases p; cases q
        simp only [Nd.mk.injEq]
        exact ⟨hl, hlo, hhi2⟩
      rw [List.getD_eq_getElem?_getD, List.getD_eq_getElem?_getD, List.getElem?_eq_getElem hi, List.getElem?_eq_getElem hj] at hn
      have := (List.getElem_inj h.nd).1 (show ns[i] = ns[j] from hn)
      omega
end
end
section
open Go Go.RowKit
def oA (ns : List Nd) : List (Nd × Int) := ns.zipIdx.map fun p => (p.1, ((p.2 + 2 : Nat) : Int))
theorem sr (ns : List Nd) : (oA ns).map (·.1) = ns := by
  unfold oA
  rw [List.map_map]
  exact List.zipIdx_map_fst 0 ns
theorem IJ (ns : List Nd) : (oA ns).length = ns.length := by unfold oA; simp
theorem EP (ns : List Nd) (n : Nd) : oA (ns ++ [n]) = oA ns ++ [(n, ((ns.length + 2 : Nat) : Int))] := by
  unfold oA
  rw [List.zipIdx_append, List.map_append]
  simp
theorem Hq {ns : List Nd} {n : Nd} (h : n ∉ ns) : gV (oA ns) n ((ns.length + 2 : Nat) : Int) = oA (ns ++ [n]) := by
  unfold gV
  rw [sr, if_neg h, EP]
theorem Fj {ns : List Nd} (hn : ns.Nodup) {n : Nd} {v : Int} (h : gU (oA ns) n = some v) : ∃ i, i < ns.length ∧ ns.getD i mA = n ∧ v = ((i + 2 : Nat) : Int) := by
  have hm := (lP (by rw [sr]; exact hn)).1 h
  unfold oA at hm
  obtain ⟨p, hp, e⟩ := List.mem_map.1 hm
  simp only [Prod.mk.injEq] at e
  obtain ⟨e1, e2⟩ := e
  have h2 := List.mem_zipIdx hp
  refine ⟨p.2, by omega, ?_, e2.symm⟩
  rw [List.getD_eq_getElem?_getD, List.getElem?_eq_getElem (by omega), ← e1]
  have := h2.2.2
  simp only [Nat.sub_zero] at this
  simp [this]
theorem E9 {ns : List Nd} {n : Nd} (h : gU (oA ns) n = none) : n ∉ ns := by
  have := m9.1 h
  rwa [sr] at this
structure fy (Ta Tn : TypeId) (N ba bm R : Nat) (w : World) (ns : List Nd) : Prop where
  out : ∃ nv, At w ba #[.int .i64 (R : Int), nv, .map (some bm)] Ta ∧ dh MX 3 Tn w N nv ns
  hm : dQ sf eE w bm (oA ns)
  la : N ≤ ba
  lm : N ≤ bm
  wf : Wf ns
  room : ns.length ≤ R
  top : R ≤ 20000
section
variable {Ta Tn T T' : TypeId} {N N' ba bm R b sz : Nat} {xs : List Nat} {w w' W : World} {ns : List Nd} {c : Array Value} {v : Value}
theorem fy.ext (h : eo w w') (k : fy Ta Tn N ba bm R w ns) : fy Ta Tn N ba bm R w' ns := by
  obtain ⟨nv, h1, h2⟩ := k.out
  exact ⟨⟨nv, h.at h1, h.ow h2⟩, h.mapT k.hm, k.la, k.lm, k.wf, k.room, k.top⟩
theorem fy.mono (k : fy Ta Tn N ba bm R w ns) (h : N' ≤ N) : fy Ta Tn N' ba bm R w ns := by
  obtain ⟨nv, h1, h2⟩ := k.out
  exact ⟨⟨nv, h1, h2.mono h⟩, k.hm, Nat.le_trans h k.la, Nat.le_trans h k.lm, k.wf, k.room, k.top⟩
theorem fy.below (h : Go.RowKit.Below w.heap.size w W) (k : fy Ta Tn N ba bm R w ns) : fy Ta Tn N ba bm R W ns := by
  obtain ⟨nv, h1, h2⟩ := k.out
  exact ⟨⟨nv, Below.atI h h1, Below.ow h h2⟩, Below.mapI h k.hm, k.la, k.lm, k.wf, k.room, k.top⟩
theorem fy.grownAt (k : fy Ta Tn N ba bm R w ns) (hm : At w b c T) (hG : w.grownBy w' (some b)) (hTa : T ≠ Ta) (hTn : T ≠ Tn) : fy Ta Tn N ba bm R w' ns := by
  obtain ⟨nv, h1, h2⟩ := k.out
  exact ⟨⟨nv, h1.grownAt hm hG hTa.symm, h2.grownAt hm hG hTn⟩, k.hm.grownAt hm hG, k.la, k.lm, k.wf, k.room, k.top⟩
theorem fy.grownOw {α : Type} {enc : α → List Value} {l : List α} (k : fy Ta Tn N ba bm R w ns) (ho : dh enc sz T w N' v l) (hG : w.grownBy w' v.ownBlock) (hTa : T ≠ Ta) (hTn : T ≠ Tn) : fy Ta Tn N ba bm R w' ns := by
  obtain ⟨nv, h1, h2⟩ := k.out
  exact ⟨⟨nv, h1.grownOw ho hG hTa.symm, h2.grownOw ho hG hTn.symm⟩, k.hm.grownOw ho hG, k.la, k.lm, k.wf, k.room, k.top⟩
theorem fy.grownMap {α β : Type} {enc : α → Value} {encV : β → Value} {l : List (α × β)} (k : fy Ta Tn N ba bm R w ns) (hm : dQ enc encV w b l) (hne : b ≠ bm) (hG : w.grownBy w' (some b)) : fy Ta Tn N ba bm R w' ns := by
  obtain ⟨nv, h1, h2⟩ := k.out
  exact ⟨⟨nv, h1.grownMap hm hG, h2.grownMap hm hG⟩, k.hm.grownNe hne.symm hG, k.la, k.lm, k.wf, k.room, k.top⟩
theorem fy.ne (k : fy Ta Tn N ba bm R w ns) (hm : At w b c T) (hTa : T ≠ Ta) : b ≠ ba ∧ b ≠ bm := by
  obtain ⟨nv, h1, h2⟩ := k.out
  exact ⟨fun e => by subst e; exact At.neT hm h1 hTa rfl, fun e => by subst e; exact At.ne_map hm k.hm rfl⟩
theorem At.dx (k : fy Ta Tn N ba bm R w ns) (hx : Dx Tn N [ba, bm] w w') (hm : At w b c T) (hTa : T ≠ Ta) (hTn : T ≠ Tn) : At w' b c T := by
  obtain ⟨n1, n2⟩ := k.ne hm hTa
  unfold At at *
  rw [hx.block b (iA hm) (.inr ⟨by simp [n1, n2], fun c' fr e => by rw [hm] at e; simp at e; exact hTn e.2.1⟩)]
  exact hm
theorem At.dx3 {bx : Nat} (k : fy Ta Tn N ba bm R w ns) (hx : Dx Tn N [bx, ba, bm] w w') (hm : At w b c T) (hTa : T ≠ Ta) (hTn : T ≠ Tn) (hne : b ≠ bx) : At w' b c T := by
  obtain ⟨n1, n2⟩ := k.ne hm hTa
  unfold At at *
  rw [hx.block b (iA hm) (.inr ⟨by simp [n1, n2, hne], fun c' fr e => by rw [hm] at e; simp at e; exact hTn e.2.1⟩)]
  exact hm
theorem dh.dx {α : Type} {enc : α → List Value} {l : List α} (k : fy Ta Tn N ba bm R w ns) (hx : Dx Tn N [ba, bm] w w') (ho : dh enc sz T w N' v l) (hTa : T ≠ Ta) (hTn : T ≠ Tn) : dh enc sz T w' N' v l := by
  obtain ⟨h1, h2 | ⟨g, cap, cur, h3, hg, hh, r⟩⟩ := ho
  · exact ⟨h1, .inl h2⟩
  · refine ⟨h1, .inr ⟨g, cap, cur, h3, hg, ?_, r⟩⟩
    exact At.dx (c := cur) k hx hh hTa hTn
theorem dQ.dx {α β : Type} {enc : α → Value} {encV : β → Value} {l : List (α × β)} (k : fy Ta Tn N ba bm R w ns) (hx : Dx Tn N [ba, bm] w w') (hm : dQ enc encV w b l) (hne : b ≠ bm) : dQ enc encV w' b l := by
  obtain ⟨nv, h1, h2⟩ := k.out
  obtain ⟨f, ck, hf⟩ := hm
  refine ⟨f, ck, hf.moved (hx.block b hf.lt (.inr ⟨?_, fun c' fr e => ?_⟩))⟩
  · have : b ≠ ba := fun e => by subst e; exact At.ne_map h1 ⟨f, ck, hf⟩ rfl
    simp [this, hne]
  · rw [hf.heap] at e; cases e
end
structure jj (ns ns' : List Nd) (R c l : Nat) (S : Nat → Prop) (id : Nat) (er : Int) : Prop where
  pre : ns <+: ns'
  cost : ns'.length ≤ ns.length + c
  res : (er = 0 ∧ id < ns'.length + 2 ∧ l ≤ d5 ns' id ∧ ∀ x, x ∈ dN ns' id ↔ S x) ∨ (er = 5 ∧ id = 0 ∧ R ≤ ns'.length)
def PO (Ta Tn : TypeId) (N ba bm R : Nat) (w : World) (ns : List Nd) (c l : Nat) (S : Nat → Prop) (v : Value) (w' : World) : Prop :=
  ∃ (ns' : List Nd) (id : Nat) (er : Int), v = .tuple #[.int .i64 (id : Int), .int .i64 er] ∧ Dx Tn N [ba, bm] w w' ∧ fy Ta Tn N ba bm R w' ns' ∧ jj ns ns' R c l S id er
section
variable {ns ns' ns1 ns2 ns3 : List Nd} {R c c1 c2 l : Nat} {S S1 S2 : Nat → Prop} {id f : Nat} {er : Int}
theorem fU (h : ns <+: ns') : ns.length ≤ ns'.length := h.length_le
theorem jj.same (hid : id < ns.length + 2) (hl : l ≤ d5 ns id) (h : ∀ x, x ∈ dN ns id ↔ S x) : jj ns ns R c l S id 0 := ⟨List.prefix_refl _, by omega, .inl ⟨rfl, hid, hl, h⟩⟩
theorem jj.fail (g : jj ns ns1 R c1 l S1 id er) (he : ¬ er = 0) (hc : c1 ≤ c) {l2 : Nat} : jj ns ns1 R c l2 S 0 er := by
  refine ⟨g.pre, by have := g.cost; omega, .inr ?_⟩
  rcases g.res with h | h
  · exact absurd h.1 he
  · exact ⟨h.1, rfl, h.2.2⟩
theorem jj.fail2 (g : jj ns ns1 R c1 l S1 id er) {l1 l2 id1 : Nat} {er1 : Int} (g2 : jj ns1 ns2 R c2 l1 S2 id1 er1) (he : ¬ er1 = 0) (hc : c1 + c2 ≤ c) : jj ns ns2 R c l2 S 0 er1 := by
  have h := jj.fail (S := S) (l2 := l2) g2 he (Nat.le_refl _)
  refine ⟨g.pre.trans h.pre, by have := g.cost; have := h.cost; omega, h.res⟩
theorem jj.ok (g : jj ns ns1 R c1 l S1 id er) (he : er = 0) : id < ns1.length + 2 ∧ l ≤ d5 ns1 id ∧ ∀ x, x ∈ dN ns1 id ↔ S1 x := by
  rcases g.res with h | h
  · exact h.2
  · rw [h.1] at he; cases he
theorem jj.weak (g : jj ns ns1 R c1 l S1 id er) (hc : c1 ≤ c) (h : ∀ x, S1 x ↔ S x) : jj ns ns1 R c l S id er :=
  ⟨g.pre, by have := g.cost; omega, g.res.imp (fun ⟨a, b, d, e⟩ => ⟨a, b, d, fun x => (e x).trans (h x)⟩) _root_.id⟩
theorem jj.then' (g : jj ns ns1 R c1 l S1 id er) {l2 id2 : Nat} {er2 : Int} (g2 : jj ns1 ns2 R c2 l2 S id2 er2) (hc : c1 + c2 ≤ c) : jj ns ns2 R c l2 S id2 er2 :=
  ⟨g.pre.trans g2.pre, by have := g.cost; have := g2.cost; omega, g2.res⟩
theorem jj.old (g : jj ns ns1 R c1 l S1 id er) (h : f < ns.length + 2) : f < ns1.length + 2 ∧ dN ns1 f = dN ns f ∧ d5 ns1 f = d5 ns f :=
  ⟨by have := fU g.pre; omega, gx g.pre h, gz g.pre h⟩
end
def up (l : Nat) (P Q : Nat → Prop) (x : Nat) : Prop := P x ∨ ∃ y, Q y ∧ x = y + 2 ^ l
def dT (ns : List Nd) (f l : Nat) : Nat := if 2 ≤ f ∧ d5 ns f = l then (ns.getD (f - 2) mA).lo else f
def d7 (ns : List Nd) (f l : Nat) : Nat := if 2 ≤ f ∧ d5 ns f = l then (ns.getD (f - 2) mA).hi else 0
structure Hh (ns : List Nd) (f l a b : Nat) : Prop where
  va : a < ns.length + 2
  vb : b < ns.length + 2
  la : l < d5 ns a
  lb : l < d5 ns b
  mem : ∀ x, x ∈ dN ns f ↔ up l (· ∈ dN ns a) (· ∈ dN ns b) x
  cnt : (dN ns f).length = (dN ns a).length + (dN ns b).length
theorem gT {ns : List Nd} (h : Wf ns) {f l : Nat} (hf : f < ns.length + 2) (hl : l ≤ d5 ns f) (h24 : l < 24) : Hh ns f l (dT ns f l) (d7 ns f l) := by
  unfold dT d7
  by_cases hc : 2 ≤ f ∧ d5 ns f = l
  · rw [if_pos hc, if_pos hc]
    obtain ⟨i, rfl⟩ : ∃ i, f = i + 2 := ⟨f - 2, by omega⟩
    have hi : i < ns.length := by omega
    obtain ⟨a1, a2, a3, a4, a5, a6⟩ := h.ok i hi
    have hl2 := hc.2
    rw [jt] at hl2
    rw [Nat.add_sub_cancel]
    refine ⟨by omega, by omega, by omega, by omega, fun x => ?_, ?_⟩
    · rw [iq h hi, List.mem_append, List.mem_map, hl2]
      exact or_congr Iff.rfl ⟨fun ⟨y, h1, h2⟩ => ⟨y, h1, h2.symm⟩, fun ⟨y, h1, h2⟩ => ⟨y, h1, h2.symm⟩⟩
    · rw [iq h hi, List.length_append, List.length_map]
  · rw [if_neg hc, if_neg hc]
    have hlt : l < d5 ns f := by
      rcases Nat.lt_or_ge l (d5 ns f) with k | k
      · exact k
      · exfalso
        have e : d5 ns f = l := by omega
        have : ¬ 2 ≤ f := fun q => hc ⟨q, e⟩
        rw [kD (by omega)] at e
        omega
    refine ⟨hf, by omega, hlt, by rw [kD (by decide)]; exact h24, fun x => ?_, by rw [mn]; rfl⟩
    unfold up
    rw [mn]
    simp
end
section
open Go Go.RowKit
abbrev M (ns : List Nd) (f : Nat) : Nat → Prop := fun x => x ∈ dN ns f
theorem iy {ns ns' : List Nd} {f : Nat} (hp : ns <+: ns') (h : f < ns.length + 2) : M ns' f = M ns f := by
  unfold M; rw [gx hp h]
def Ju (l : Nat) (P : Nat → Prop) : Prop := ∀ x, P x → 2 ^ (l + 1) ∣ x
theorem DH {ns : List Nd} (h : Wf ns) {f l : Nat} (hf : f < ns.length + 2) (hl : l < d5 ns f) : Ju l (M ns f) := fun x hx => gH hl (e7 h f hf x hx).1
theorem fz {P Q : Nat → Prop} (h : ∀ x, P x ↔ Q x) : P = Q := funext fun x => propext (h x)
theorem qS {l a b : Nat} (ha : 2 ^ (l + 1) ∣ a) (hb : 2 ^ (l + 1) ∣ b) : (a + 2 ^ l) ||| b = (a ||| b) + 2 ^ l ∧ a ||| (b + 2 ^ l) = (a ||| b) + 2 ^ l ∧ (a + 2 ^ l) ||| (b + 2 ^ l) = (a ||| b) + 2 ^ l ∧ 2 ^ (l + 1) ∣ a ||| b := by
  obtain ⟨p, rfl⟩ := ha
  obtain ⟨q, rfl⟩ := hb
  have sh : ∀ u v : Nat, 2 ^ l * u ||| 2 ^ l * v = 2 ^ l * (u ||| v) := fun u v => by
    rw [Nat.mul_comm, Nat.mul_comm (2 ^ l) v, Nat.mul_comm (2 ^ l) (u ||| v), ← Nat.shiftLeft_eq, ← Nat.shiftLeft_eq, ← Nat.shiftLeft_eq, Nat.shiftLeft_or_distrib]
  have e0 : ∀ u : Nat, 2 ^ (l + 1) * u = 2 ^ l * (2 * u) := fun u => by rw [Nat.pow_succ, Nat.mul_assoc]
  have e1 : ∀ u : Nat, 2 ^ l * (2 * u) + 2 ^ l = 2 ^ l * (2 * u + 1) := fun u => by rw [Nat.mul_add, Nat.mul_one]
  have b0 : ∀ u v : Nat, 2 * u ||| 2 * v = 2 * (u ||| v) := fun u v => by
    have := fun u v => (Nat.shiftLeft_or_distrib (a := u) (b := v) (i := 1))
    simp only [Nat.shiftLeft_eq, Nat.pow_one] at this
    rw [Nat.mul_comm 2 u, Nat.mul_comm 2 v, Nat.mul_comm 2 (u ||| v), this]
  have odd : ∀ u v : Nat, (u % 2 = 1 ∨ v % 2 = 1) → u ||| v = 2 * (u / 2 ||| v / 2) + 1 := fun u v h => by
    refine Nat.eq_of_testBit_eq fun i => ?_
    cases i with
    | zero =>
      rw [Nat.testBit_or, Nat.testBit_zero, Nat.testBit_zero, Nat.testBit_zero]
      rcases h with h | h <;> simp [h] <;> omega
    | succ i =>
      rw [Nat.testBit_or, Nat.testBit_succ, Nat.testBit_succ, Nat.testBit_succ, ← Nat.testBit_or]
      congr 1
      omega
  have o1 : (2 * p + 1) ||| (2 * q) = 2 * (p ||| q) + 1 := by
    rw [odd _ _ (.inl (by omega)), show (2 * p + 1) / 2 = p by omega, show 2 * q / 2 = q by omega]
  have o2 : (2 * p) ||| (2 * q + 1) = 2 * (p ||| q) + 1 := by
    rw [odd _ _ (.inr (by omega)), show (2 * q + 1) / 2 = q by omega, show 2 * p / 2 = p by omega]
  have o3 : (2 * p + 1) ||| (2 * q + 1) = 2 * (p ||| q) + 1 := by
    rw [odd _ _ (.inl (by omega)), show (2 * p + 1) / 2 = p by omega, show (2 * q + 1) / 2 = q by omega]
  rw [e0, e0, e1, e1]
  refine ⟨?_, ?_, ?_, ?_⟩
  · rw [sh, sh, o1, b0, e1]
  · rw [sh, sh, o2, b0, e1]
  · rw [sh, sh, o3, b0, e1]
  · exact ⟨p ||| q, by rw [sh, b0, e0]⟩
def IM (x y : Nat) : Prop := x ||| y = x
theorem Lo {l : Nat} {P Q : Nat → Prop} (hP : Ju l P) (hQ : Ju l Q) {x : Nat} : (x.testBit l = false → (up l P Q x ↔ P x)) ∧ ∀ y, 2 ^ (l + 1) ∣ y → (up l P Q (y + 2 ^ l) ↔ Q y) := by
  refine ⟨fun hb => ⟨fun h => ?_, .inl⟩, fun y hy => ⟨fun h => ?_, fun h => .inr ⟨y, h, rfl⟩⟩⟩
  · rcases h with h | ⟨y, hy, rfl⟩
    · exact h
    · rw [jB (hQ y hy)] at hb; cases hb
  · rcases h with h | ⟨z, hz, e⟩
    · have := fY (hP _ h)
      rw [jB hy] at this; cases this
    · obtain rfl : y = z := by omega
      exact hz
def bl (x : Nat) : Nat := if x = 0 then 0 else Nat.log2 x + 1
theorem Or {x T : Nat} : bl x ≤ T ↔ x < 2 ^ T := by
  unfold bl
  by_cases h : x = 0
  · rw [if_pos h, h]
    exact ⟨fun _ => Nat.two_pow_pos T, fun _ => Nat.zero_le _⟩
  · rw [if_neg h, ← Nat.log2_lt h]; omega
def Pb (l : List Nat) : Nat := l.foldr (fun x t => max (bl x) t) 0
theorem Ge {T : Nat} : ∀ {l : List Nat}, Pb l ≤ T ↔ ∀ x, x ∈ l → x < 2 ^ T
  | [] => ⟨fun _ x h => by (cases h), fun _ => Nat.zero_le _⟩
  | y :: l => by
    have ih := Ge (T := T) (l := l)
    have e : Pb (y :: l) = max (bl y) (Pb l) := rfl
    rw [e, Nat.max_le, Or, ih]
    exact ⟨fun ⟨h1, h2⟩ x hx => by
      (rcases List.mem_cons.1 hx with rfl | hx
       · exact h1
       · exact h2 x hx), fun h => ⟨h y (List.mem_cons_self ..), fun x hx => h x (List.mem_cons_of_mem _ hx)⟩⟩
def tp (ns : List Nd) (f : Nat) : Nat := Pb (dN ns f)
theorem kX {ns : List Nd} {f T : Nat} : tp ns f ≤ T ↔ ∀ x, x ∈ dN ns f → x < 2 ^ T := Ge
theorem uz {ns ns' : List Nd} {f : Nat} (hp : ns <+: ns') (h : f < ns.length + 2) : tp ns' f = tp ns f := by unfold tp; rw [gx hp h]
theorem Hh.tpa {ns : List Nd} {f l a b : Nat} (H : Hh ns f l a b) : tp ns a ≤ tp ns f := kX.2 fun x hx => kX.1 (Nat.le_refl _) x ((H.mem x).2 (.inl hx))
theorem Hh.tpb {ns : List Nd} {f l a b : Nat} (H : Hh ns f l a b) : tp ns b ≤ tp ns f := kX.2 fun x hx => by
  have := kX.1 (Nat.le_refl (tp ns f)) (x + 2 ^ l) ((H.mem _).2 (.inr ⟨x, hx, rfl⟩))
  exact Nat.lt_of_le_of_lt (Nat.le_add_right _ _) this
theorem rK {ns : List Nd} (h : Wf ns) {f : Nat} (hf : f < ns.length + 2) (h2 : 2 ≤ f) : d5 ns f < tp ns f := by
  have h24 := m4 h hf h2
  have H := gT h hf (Nat.le_refl _) h24
  have e : d7 ns f (d5 ns f) = (ns.getD (f - 2) mA).hi := if_pos ⟨h2, rfl⟩
  obtain ⟨i, rfl⟩ : ∃ i, f = i + 2 := ⟨f - 2, by omega⟩
  rw [Nat.add_sub_cancel] at e
  have hne : d7 ns (i + 2) (d5 ns (i + 2)) ≠ 0 := by rw [e]; exact (h.ok i (by omega)).2.2.1
  obtain ⟨y, hy⟩ := io h _ H.vb hne
  have hm : y + 2 ^ d5 ns (i + 2) ∈ dN ns (i + 2) := (H.mem _).2 (.inr ⟨y, hy, rfl⟩)
  have := kX.1 (Nat.le_refl (tp ns (i + 2))) _ hm
  exact (Nat.pow_lt_pow_iff_right (a := 2) (by decide)).1 (Nat.lt_of_le_of_lt (Nat.le_add_left _ _) this)
theorem jN {ns ns' : List Nd} {f l : Nat} (hp : ns <+: ns') (h : f < ns.length + 2) : dT ns' f l = dT ns f l ∧ d7 ns' f l = d7 ns f l := by
  unfold dT d7
  rw [gz hp h]
  by_cases hc : 2 ≤ f ∧ d5 ns f = l
  · rw [if_pos hc, if_pos hc, if_pos hc, if_pos hc, q6 hp (by omega)]
    exact ⟨rfl, rfl⟩
  · rw [if_neg hc, if_neg hc, if_neg hc, if_neg hc]
    exact ⟨rfl, rfl⟩
structure Op where
  res : (Nat → Prop) → (Nat → Prop) → Nat → Prop
  resH : (Nat → Prop) → (Nat → Prop) → (Nat → Prop) → (Nat → Prop) → Nat → Prop
  ends : Nat → Nat → Nat × Bool
  cst : List Nd → Nat → Nat → Nat
  hcst : List Nd → Nat → Nat → Nat → Nat → Nat → Nat
structure EF (o : Op) : Prop where
  dec : ∀ l A0 A1 B0 B1, Ju l A0 → Ju l A1 → Ju l B0 → Ju l B1 → ∀ x, o.res (up l A0 A1) (up l B0 B1) x ↔ up l (o.res A0 B0) (o.resH A0 A1 B0 B1) x
  endT : ∀ ns f g, Wf ns → f < ns.length + 2 → g < ns.length + 2 → (o.ends f g).2 = true → (o.ends f g).1 < ns.length + 2 ∧ min (d5 ns f) (d5 ns g) ≤ d5 ns (o.ends f g).1 ∧ ∀ x, x ∈ dN ns (o.ends f g).1 ↔ o.res (M ns f) (M ns g) x
  endF : ∀ f g, (o.ends f g).2 = false → f ≠ 0 ∧ g ≠ 0 ∧ ¬ (f < 2 ∧ g < 2)
  cost : ∀ ns f g l, Wf ns → f < ns.length + 2 → g < ns.length + 2 → (o.ends f g).2 = false → l = min (d5 ns f) (d5 ns g) → l < 24 → o.cst ns (dT ns f l) (dT ns g l) + o.hcst ns l (dT ns f l) (d7 ns f l) (dT ns g l) (d7 ns g l) + 1 ≤ o.cst ns f g
  hpre : ∀ ns ns' l f0 f1 g0 g1, ns <+: ns' → Wf ns → f0 < ns.length + 2 → f1 < ns.length + 2 → g0 < ns.length + 2 → g1 < ns.length + 2 → o.hcst ns' l f0 f1 g0 g1 = o.hcst ns l f0 f1 g0 g1
theorem Ob : ∀ k k1 a0 a1 b0 b1, k1 < k → 1 ≤ a0 + a1 → 1 ≤ b0 + b1 → k1 * min a0 b0 + (k - 1) * min a1 b1 + 1 ≤ k * min (a0 + a1) (b0 + b1) := by
  intro k k1 a0 a1 b0 b1 hk h1 h2
  obtain ⟨m, rfl⟩ : ∃ m, k = m + 1 := ⟨k - 1, by omega⟩
  rw [Nat.add_sub_cancel]
  have e1 : k1 * min a0 b0 ≤ m * min a0 b0 := Nat.mul_le_mul_right _ (by omega)
  have e2 : m * min a0 b0 + m * min a1 b1 ≤ m * min (a0 + a1) (b0 + b1) := by
    rw [← Nat.mul_add]
    exact Nat.mul_le_mul_left _ (by omega)
  have e3 : 1 ≤ min (a0 + a1) (b0 + b1) := by omega
  rw [Nat.add_mul, Nat.one_mul]
  omega
def cP (en : Nat → Nat → Nat × Bool) : Nat → List Nd → Nat → Nat → Nat
  | 0, _, _, _ => 0
  | n + 1, ns, f, g => if (en f g).2 = true then 0 else cP en n ns (dT ns f (min (d5 ns f) (d5 ns g))) (dT ns g (min (d5 ns f) (d5 ns g))) + cP en n ns (d7 ns f (min (d5 ns f) (d5 ns g))) (d7 ns g (min (d5 ns f) (d5 ns g))) + 1
def cE (en : Nat → Nat → Nat × Bool) (ns : List Nd) (f g : Nat) : Nat := cP en (25 - min (d5 ns f) (d5 ns g)) ns f g
def hE (en : Nat → Nat → Nat × Bool) (ns : List Nd) (_ _ f1 _ g1 : Nat) : Nat := cE en ns f1 g1
section
variable {en : Nat → Nat → Nat × Bool} {ns ns' : List Nd}
theorem yP : ∀ (n f g : Nat), cP en n ns f g ≤ cP en (n + 1) ns f g
  | 0, _, _ => Nat.zero_le _
  | n + 1, f, g => by
    rw [cP, cP]
    by_cases h : (en f g).2 = true
    · rw [if_pos h, if_pos h]; exact Nat.le_refl _
    · rw [if_neg h, if_neg h]
      have h1 := yP n (dT ns f (min (d5 ns f) (d5 ns g))) (dT ns g (min (d5 ns f) (d5 ns g)))
      have h2 := yP n (d7 ns f (min (d5 ns f) (d5 ns g))) (d7 ns g (min (d5 ns f) (d5 ns g)))
      omega
theorem yu {n m : Nat} (h : n ≤ m) (f g : Nat) : cP en n ns f g ≤ cP en m ns f g := by
  obtain ⟨d, rfl⟩ : ∃ d, m = n + d := ⟨m - n, by omega⟩
  clear h
  induction d with
  | zero => exact Nat.le_refl _
  | succ d ih => exact Nat.le_trans ih (yP _ _ _)
theorem yh (h : Wf ns) {f l : Nat} (hf : f < ns.length + 2) (hl : l ≤ d5 ns f) : dT ns f l < ns.length + 2 ∧ d7 ns f l < ns.length + 2 := by
  by_cases h24 : l < 24
  · have H := gT h hf hl h24
    exact ⟨H.va, H.vb⟩
  · have : ¬ 2 ≤ f := fun q => by have := m4 h hf q; omega
    unfold dT d7
    rw [if_neg (fun k => this k.1), if_neg (fun k => this k.1)]
    exact ⟨hf, by omega⟩
theorem Bx (hp : ns <+: ns') (h : Wf ns) : ∀ (n f g : Nat), f < ns.length + 2 → g < ns.length + 2 → cP en n ns' f g = cP en n ns f g
  | 0, _, _, _, _ => rfl
  | n + 1, f, g, hf, hg => by
    rw [cP, cP, gz hp hf, gz hp hg, (jN hp hf).1, (jN hp hf).2, (jN hp hg).1, (jN hp hg).2]
    obtain ⟨v1, v2⟩ := yh h hf (Nat.min_le_left (d5 ns f) (d5 ns g))
    obtain ⟨v3, v4⟩ := yh h hg (Nat.min_le_right (d5 ns f) (d5 ns g))
    rw [Bx hp h n _ _ v1 v3, Bx hp h n _ _ v2 v4]
theorem HM (hp : ns <+: ns') (h : Wf ns) {f g : Nat} (hf : f < ns.length + 2) (hg : g < ns.length + 2) : cE en ns' f g = cE en ns f g := by
  unfold cE
  rw [gz hp hf, gz hp hg, Bx hp h _ _ _ hf hg]
theorem DX (h : Wf ns) {f g l : Nat} (hf : f < ns.length + 2) (hg : g < ns.length + 2) (he : (en f g).2 = false) (hl : l = min (d5 ns f) (d5 ns g)) (h24 : l < 24) :
    cE en ns (dT ns f l) (dT ns g l) + hE en ns l (dT ns f l) (d7 ns f l) (dT ns g l) (d7 ns g l) + 1 ≤ cE en ns f g := by
  have H1 := gT h hf (l := l) (by omega) h24
  have H2 := gT h hg (l := l) (by omega) h24
  have k1 := H1.la
  have k2 := H1.lb
  have k3 := H2.la
  have k4 := H2.lb
  unfold hE
  rw [show cE en ns f g = cP en (24 - l + 1) ns f g by unfold cE; rw [← hl]; congr 1; omega, cP, if_neg (by rw [he]; decide), ← hl]
  have h1 := yu (en := en) (ns := ns) (show 25 - min (d5 ns (dT ns f l)) (d5 ns (dT ns g l)) ≤ 24 - l by omega) (dT ns f l) (dT ns g l)
  have h2 := yu (en := en) (ns := ns) (show 25 - min (d5 ns (d7 ns f l)) (d5 ns (d7 ns g l)) ≤ 24 - l by omega) (d7 ns f l) (d7 ns g l)
  unfold cE
  omega
theorem MC (h : Wf ns) (hen : ∀ f g, (en f g).2 = false → f ≠ 0 ∧ g ≠ 0 ∧ ¬ (f < 2 ∧ g < 2)) (T : Nat) : ∀ (n f g : Nat), f < ns.length + 2 → g < ns.length + 2 → tp ns f ≤ T → tp ns g ≤ T → cP en n ns f g ≤ (T - min (d5 ns f) (d5 ns g)) * min (dN ns f).length (dN ns g).length
  | 0, _, _, _, _, _, _ => Nat.zero_le _
  | n + 1, f, g, hf, hg, tf, tg => by
    rw [cP]
    by_cases he : (en f g).2 = true
    · rw [if_pos he]; exact Nat.zero_le _
    · rw [if_neg he]
      obtain ⟨f0, g0, fg⟩ := hen f g (by simpa using he)
      have h1f := mb h hf
      have h1g := mb h hg
      have hlt : min (d5 ns f) (d5 ns g) < 24 ∧ min (d5 ns f) (d5 ns g) < T := by
        by_cases q : 2 ≤ f
        · have := m4 h hf q
          have := rK h hf q
          omega
        · have q2 : 2 ≤ g := by omega
          have := m4 h hg q2
          have := rK h hg q2
          omega
      generalize hl : min (d5 ns f) (d5 ns g) = l at hlt ⊢
      have H1 := gT h hf (l := l) (by omega) hlt.1
      have H2 := gT h hg (l := l) (by omega) hlt.1
      have k1 := H1.la
      have k2 := H1.lb
      have k3 := H2.la
      have k4 := H2.lb
      have n1 := List.length_pos_of_mem (io h f hf f0).choose_spec
      have n2 := List.length_pos_of_mem (io h g hg g0).choose_spec
      have r1 := MC h hen T n _ _ H1.va H2.va (Nat.le_trans H1.tpa tf) (Nat.le_trans H2.tpa tg)
      have r2 := MC h hen T n _ _ H1.vb H2.vb (Nat.le_trans H1.tpb tf) (Nat.le_trans H2.tpb tg)
      have r3 := Ob (T - l) (T - l - 1) (dN ns (dT ns f l)).length (dN ns (d7 ns f l)).length (dN ns (dT ns g l)).length (dN ns (d7 ns g l)).length (by omega) (by have := H1.cnt; omega) (by have := H2.cnt; omega)
      rw [← H1.cnt, ← H2.cnt] at r3
      have r4 : (T - min (d5 ns (dT ns f l)) (d5 ns (dT ns g l))) * min (dN ns (dT ns f l)).length (dN ns (dT ns g l)).length ≤ (T - l - 1) * min (dN ns (dT ns f l)).length (dN ns (dT ns g l)).length := Nat.mul_le_mul_right _ (by omega)
      have r5 : (T - min (d5 ns (d7 ns f l)) (d5 ns (d7 ns g l))) * min (dN ns (d7 ns f l)).length (dN ns (d7 ns g l)).length ≤ (T - l - 1) * min (dN ns (d7 ns f l)).length (dN ns (d7 ns g l)).length := Nat.mul_le_mul_right _ (by omega)
      omega
theorem Jd (h : Wf ns) (hen : ∀ f g, (en f g).2 = false → f ≠ 0 ∧ g ≠ 0 ∧ ¬ (f < 2 ∧ g < 2)) {T f g : Nat} (hf : f < ns.length + 2) (hg : g < ns.length + 2) (tf : tp ns f ≤ T) (tg : tp ns g ≤ T) : cE en ns f g ≤ (T - min (d5 ns f) (d5 ns g)) * min (dN ns f).length (dN ns g).length := MC h hen T _ f g hf hg tf tg
end
def KW (f g : Nat) : Nat × Bool := if f = 0 ∨ f = g then (g, true) else (f, decide (g = 0))
def ON (f g : Nat) : Nat × Bool := if f = 0 ∨ f = g then (0, true) else (f, decide (g = 0))
def nm : Op := ⟨fun F G x => F x ∨ G x, fun _ A1 _ B1 x => A1 x ∨ B1 x, KW, cE KW, hE KW⟩
def sc : Op := ⟨fun F G x => F x ∧ ¬ G x, fun _ A1 _ B1 x => A1 x ∧ ¬ B1 x, ON, cE ON, hE ON⟩
theorem Fy (ns : List Nd) (x : Nat) : ¬ M ns 0 x := by unfold M; rw [mn]; exact fun h => by cases h
theorem Jz (ns : List Nd) : d5 ns 0 = 24 := kD (by decide)
theorem BX : EF nm := by
  refine ⟨fun l A0 A1 B0 B1 _ _ _ _ x => ?_, fun ns f g h hf hg ht => ?_, fun f g hf => ?_, fun ns f g l h hf hg he hl h24 => DX h hf hg he hl h24, fun ns ns' l f0 f1 g0 g1 hp h v0 v1 v2 v3 => HM hp h v1 v3⟩
  · simp only [nm, up]
    constructor
    · rintro ((h | ⟨y, h, e⟩) | (h | ⟨y, h, e⟩))
      · exact .inl (.inl h)
      · exact .inr ⟨y, .inl h, e⟩
      · exact .inl (.inr h)
      · exact .inr ⟨y, .inr h, e⟩
    · rintro ((h | h) | ⟨y, h | h, e⟩)
      · exact .inl (.inl h)
      · exact .inr (.inl h)
      · exact .inl (.inr ⟨y, h, e⟩)
      · exact .inr (.inr ⟨y, h, e⟩)
  · simp only [nm, KW] at ht ⊢
    by_cases hc : f = 0 ∨ f = g
    · rw [if_pos hc]
      refine ⟨hg, Nat.min_le_right _ _, fun x => ⟨.inr, fun h => ?_⟩⟩
      rcases h with h | h
      · rcases hc with rfl | rfl
        · exact absurd h (Fy ns x)
        · exact h
      · exact h
    · rw [if_neg hc] at ht ⊢
      obtain rfl : g = 0 := of_decide_eq_true ht
      exact ⟨hf, Nat.min_le_left _ _, fun x => ⟨.inl, fun h => h.elim id (fun h => absurd h (Fy ns x))⟩⟩
  · simp only [nm, KW] at hf
    by_cases hc : f = 0 ∨ f = g
    · rw [if_pos hc] at hf; cases hf
    · rw [if_neg hc] at hf
      have := of_decide_eq_false hf
      omega
theorem Cc : EF sc := by
  refine ⟨fun l A0 A1 B0 B1 hA0 hA1 hB0 hB1 x => ?_, fun ns f g h hf hg ht => ?_, fun f g hf => ?_, fun ns f g l h hf hg he hl h24 => DX h hf hg he hl h24, fun ns ns' l f0 f1 g0 g1 hp h v0 v1 v2 v3 => HM hp h v1 v3⟩
  · simp only [sc]
    constructor
    · rintro ⟨h, k⟩
      rcases h with h | ⟨y, h, rfl⟩
      · exact .inl ⟨h, fun q => k (.inl q)⟩
      · exact .inr ⟨y, ⟨h, fun q => k (.inr ⟨y, q, rfl⟩)⟩, rfl⟩
    · rintro (⟨h, k⟩ | ⟨y, ⟨h, k⟩, rfl⟩)
      · exact ⟨.inl h, fun q => k (((Lo hB0 hB1).1 (fY (hA0 x h))).1 q)⟩
      · exact ⟨.inr ⟨y, h, rfl⟩, fun q => k (((Lo (x := 0) hB0 hB1).2 y (hA1 y h)).1 q)⟩
  · simp only [sc, ON] at ht ⊢
    have := mb h hf
    by_cases hc : f = 0 ∨ f = g
    · rw [if_pos hc]
      refine ⟨by omega, by rw [Jz]; omega, fun x => ⟨fun k => absurd k (Fy ns x), fun ⟨h1, h2⟩ => ?_⟩⟩
      rcases hc with rfl | rfl
      · exact absurd h1 (Fy ns x)
      · exact absurd h1 h2
    · rw [if_neg hc] at ht ⊢
      obtain rfl : g = 0 := of_decide_eq_true ht
      exact ⟨hf, Nat.min_le_left _ _, fun x => ⟨fun k => ⟨k, Fy ns x⟩, fun k => k.1⟩⟩
  · simp only [sc, ON] at hf
    by_cases hc : f = 0 ∨ f = g
    · rw [if_pos hc] at hf; cases hf
    · rw [if_neg hc] at hf
      have := of_decide_eq_false hf
      omega
def qL : Nat → Nat
  | 0 => 0
  | k + 1 => qL k + (k + 1)
theorem pd : ∀ {a b : Nat}, a ≤ b → qL a ≤ qL b := fun {a b} h => by
  obtain ⟨d, rfl⟩ : ∃ d, b = a + d := ⟨b - a, by omega⟩
  clear h
  induction d with
  | zero => exact Nat.le_refl _
  | succ d ih => show qL a ≤ qL (a + d) + _; omega
def ms (F G : Nat → Prop) (x : Nat) : Prop := ∃ a b, F a ∧ G b ∧ x = a ||| b
def Bl (f g : Nat) : Nat × Bool := if f = 0 ∨ g = 0 then (0, true) else if f = 1 then (g, true) else (f, decide (g = 1))
def kJ (ns : List Nd) (f0 f1 g0 g1 : Nat) : Nat := max (max (tp ns f0) (tp ns f1)) (max (tp ns g0) (tp ns g1))
def uJ (k a0 a1 b0 b1 : Nat) : Nat := k * min (a1 * b0) (a0 * b1) + k * min (a1 * b0 + a0 * b1) (a1 * b1)
def IX (ns : List Nd) (l f0 f1 g0 g1 : Nat) : Nat := uJ (kJ ns f0 f1 g0 g1 - (l + 1)) (dN ns f0).length (dN ns f1).length (dN ns g0).length (dN ns g1).length
def wb : Nat → List Nd → Nat → Nat → Nat
  | 0, _, _, _ => 0
  | n + 1, ns, f, g => if (Bl f g).2 = true then 0 else wb n ns (dT ns f (min (d5 ns f) (d5 ns g))) (dT ns g (min (d5 ns f) (d5 ns g))) + (wb n ns (d7 ns f (min (d5 ns f) (d5 ns g))) (dT ns g (min (d5 ns f) (d5 ns g))) + wb n ns (dT ns f (min (d5 ns f) (d5 ns g))) (d7 ns g (min (d5 ns f) (d5 ns g))) + wb n ns (d7 ns f (min (d5 ns f) (d5 ns g))) (d7 ns g (min (d5 ns f) (d5 ns g))) + IX ns (min (d5 ns f) (d5 ns g)) (dT ns f (min (d5 ns f) (d5 ns g))) (d7 ns f (min (d5 ns f) (d5 ns g))) (dT ns g (min (d5 ns f) (d5 ns g))) (d7 ns g (min (d5 ns f) (d5 ns g)))) + 1
def oD (ns : List Nd) (f g : Nat) : Nat := wb (25 - min (d5 ns f) (d5 ns g)) ns f g
def NY (ns : List Nd) (l f0 f1 g0 g1 : Nat) : Nat := oD ns f1 g0 + oD ns f0 g1 + oD ns f1 g1 + IX ns l f0 f1 g0 g1
def pg : Op := ⟨ms, fun A0 A1 B0 B1 x => ms A1 B0 x ∨ ms A0 B1 x ∨ ms A1 B1 x, Bl, oD, NY⟩
theorem LE {f g : Nat} (hf : (Bl f g).2 = false) : f ≠ 0 ∧ g ≠ 0 ∧ ¬ (f < 2 ∧ g < 2) := by
  simp only [Bl] at hf
  by_cases hc : f = 0 ∨ g = 0
  · rw [if_pos hc] at hf; cases hf
  · rw [if_neg hc] at hf
    by_cases h1 : f = 1
    · rw [if_pos h1] at hf; cases hf
    · rw [if_neg h1] at hf
      have := of_decide_eq_false hf
      omega
section
variable {ns ns' : List Nd}
theorem pe : ∀ (n f g : Nat), wb n ns f g ≤ wb (n + 1) ns f g
  | 0, _, _ => Nat.zero_le _
  | n + 1, f, g => by
    rw [wb, wb]
    by_cases h : (Bl f g).2 = true
    · rw [if_pos h, if_pos h]; exact Nat.le_refl _
    · rw [if_neg h, if_neg h]
      generalize min (d5 ns f) (d5 ns g) = l
      have h1 := pe n (dT ns f l) (dT ns g l)
      have h2 := pe n (d7 ns f l) (dT ns g l)
      have h3 := pe n (dT ns f l) (d7 ns g l)
      have h4 := pe n (d7 ns f l) (d7 ns g l)
      omega
theorem rZ {n m : Nat} (h : n ≤ m) (f g : Nat) : wb n ns f g ≤ wb m ns f g := by
  obtain ⟨d, rfl⟩ : ∃ d, m = n + d := ⟨m - n, by omega⟩
  clear h
  induction d with
  | zero => exact Nat.le_refl _
  | succ d ih => exact Nat.le_trans ih (pe _ _ _)
theorem DI (hp : ns <+: ns') {l f0 f1 g0 g1 : Nat} (v0 : f0 < ns.length + 2) (v1 : f1 < ns.length + 2) (v2 : g0 < ns.length + 2) (v3 : g1 < ns.length + 2) : IX ns' l f0 f1 g0 g1 = IX ns l f0 f1 g0 g1 := by
  unfold IX kJ
  rw [uz hp v0, uz hp v1, uz hp v2, uz hp v3, gx hp v0, gx hp v1, gx hp v2, gx hp v3]
theorem rD (hp : ns <+: ns') (h : Wf ns) : ∀ (n f g : Nat), f < ns.length + 2 → g < ns.length + 2 → wb n ns' f g = wb n ns f g
  | 0, _, _, _, _ => rfl
  | n + 1, f, g, hf, hg => by
    rw [wb, wb, gz hp hf, gz hp hg, (jN hp hf).1, (jN hp hf).2, (jN hp hg).1, (jN hp hg).2]
    obtain ⟨v1, v2⟩ := yh h hf (Nat.min_le_left (d5 ns f) (d5 ns g))
    obtain ⟨v3, v4⟩ := yh h hg (Nat.min_le_right (d5 ns f) (d5 ns g))
    rw [rD hp h n _ _ v1 v3, rD hp h n _ _ v2 v3, rD hp h n _ _ v1 v4, rD hp h n _ _ v2 v4, DI hp v1 v2 v3 v4]
theorem rT (hp : ns <+: ns') (h : Wf ns) {f g : Nat} (hf : f < ns.length + 2) (hg : g < ns.length + 2) : oD ns' f g = oD ns f g := by
  unfold oD
  rw [gz hp hf, gz hp hg, rD hp h _ _ _ hf hg]
theorem H8 (h : Wf ns) {f g l : Nat} (hf : f < ns.length + 2) (hg : g < ns.length + 2) (he : (Bl f g).2 = false) (hl : l = min (d5 ns f) (d5 ns g)) (h24 : l < 24) :
    oD ns (dT ns f l) (dT ns g l) + NY ns l (dT ns f l) (d7 ns f l) (dT ns g l) (d7 ns g l) + 1 ≤ oD ns f g := by
  have H1 := gT h hf (l := l) (by omega) h24
  have H2 := gT h hg (l := l) (by omega) h24
  have k1 := H1.la
  have k2 := H1.lb
  have k3 := H2.la
  have k4 := H2.lb
  unfold NY
  rw [show oD ns f g = wb (24 - l + 1) ns f g by unfold oD; rw [← hl]; congr 1; omega, wb, if_neg (by rw [he]; decide), ← hl]
  have h1 := rZ (ns := ns) (show 25 - min (d5 ns (dT ns f l)) (d5 ns (dT ns g l)) ≤ 24 - l by omega) (dT ns f l) (dT ns g l)
  have h2 := rZ (ns := ns) (show 25 - min (d5 ns (d7 ns f l)) (d5 ns (dT ns g l)) ≤ 24 - l by omega) (d7 ns f l) (dT ns g l)
  have h3 := rZ (ns := ns) (show 25 - min (d5 ns (dT ns f l)) (d5 ns (d7 ns g l)) ≤ 24 - l by omega) (dT ns f l) (d7 ns g l)
  have h4 := rZ (ns := ns) (show 25 - min (d5 ns (d7 ns f l)) (d5 ns (d7 ns g l)) ≤ 24 - l by omega) (d7 ns f l) (d7 ns g l)
  unfold oD
  omega
theorem O0 (m k1 a0 a1 b0 b1 u x y z q : Nat) (hk : k1 ≤ m) (h1 : 1 ≤ a0 + a1) (h2 : 1 ≤ b0 + b1) (hq : q ≤ qL k1 * (a0 * b0)) (hx : x ≤ qL m * (a1 * b0)) (hy : y ≤ qL m * (a0 * b1)) (hz : z ≤ qL m * (a1 * b1)) (hu : u ≤ m * (a1 * b0 + a0 * b1 + a1 * b1)) :
    q + (x + y + z + u) + 1 ≤ qL (m + 1) * ((a0 + a1) * (b0 + b1)) := by
  have e1 : qL k1 * (a0 * b0) ≤ (qL m + m) * (a0 * b0) := Nat.mul_le_mul_right _ (by have := pd hk; omega)
  have e2 : (a0 + a1) * (b0 + b1) = a0 * b0 + (a1 * b0 + a0 * b1 + a1 * b1) := by
    rw [Nat.add_mul, Nat.mul_add, Nat.mul_add]; omega
  have e3 : 1 ≤ (a0 + a1) * (b0 + b1) := Nat.mul_pos h1 h2
  have e4 : qL (m + 1) = (qL m + m) + 1 := by show qL m + (m + 1) = _; omega
  have e5 : (qL m + m) * ((a0 + a1) * (b0 + b1)) = (qL m + m) * (a0 * b0) + (qL m + m) * (a1 * b0 + a0 * b1 + a1 * b1) := by rw [e2, Nat.mul_add]
  have e6 : (qL m + m) * (a1 * b0 + a0 * b1 + a1 * b1) = qL m * (a1 * b0) + qL m * (a0 * b1) + qL m * (a1 * b1) + m * (a1 * b0 + a0 * b1 + a1 * b1) := by
    rw [Nat.add_mul (qL m) m, Nat.mul_add (qL m), Nat.mul_add (qL m)]
  rw [e4, Nat.add_mul (qL m + m) 1, Nat.one_mul]
  omega
theorem Oz {k m a0 a1 b0 b1 : Nat} (h : k ≤ m) : uJ k a0 a1 b0 b1 ≤ m * (a1 * b0 + a0 * b1 + a1 * b1) := by
  unfold uJ
  rw [← Nat.mul_add]
  exact Nat.mul_le_mul h (by omega)
theorem Am (h : Wf ns) (T : Nat) : ∀ (n f g : Nat), f < ns.length + 2 → g < ns.length + 2 → tp ns f ≤ T → tp ns g ≤ T → wb n ns f g ≤ qL (T - min (d5 ns f) (d5 ns g)) * ((dN ns f).length * (dN ns g).length)
  | 0, _, _, _, _, _, _ => Nat.zero_le _
  | n + 1, f, g, hf, hg, tf, tg => by
    rw [wb]
    by_cases he : (Bl f g).2 = true
    · rw [if_pos he]; exact Nat.zero_le _
    · rw [if_neg he]
      obtain ⟨f0, g0, fg⟩ := LE (f := f) (g := g) (by simpa using he)
      have h1f := mb h hf
      have h1g := mb h hg
      have hlt : min (d5 ns f) (d5 ns g) < 24 ∧ min (d5 ns f) (d5 ns g) < T := by
        by_cases q : 2 ≤ f
        · have := m4 h hf q
          have := rK h hf q
          omega
        · have q2 : 2 ≤ g := by omega
          have := m4 h hg q2
          have := rK h hg q2
          omega
      generalize hl : min (d5 ns f) (d5 ns g) = l at hlt ⊢
      have H1 := gT h hf (l := l) (by omega) hlt.1
      have H2 := gT h hg (l := l) (by omega) hlt.1
      have k1 := H1.la
      have k2 := H1.lb
      have k3 := H2.la
      have k4 := H2.lb
      have ta := Nat.le_trans H1.tpa tf
      have tb := Nat.le_trans H1.tpb tf
      have tc := Nat.le_trans H2.tpa tg
      have td := Nat.le_trans H2.tpb tg
      have n1 := List.length_pos_of_mem (io h f hf f0).choose_spec
      have n2 := List.length_pos_of_mem (io h g hg g0).choose_spec
      have r1 := Am h T n _ _ H1.va H2.va ta tc
      have r2 := Nat.le_trans (Am h T n _ _ H1.vb H2.va tb tc) (Nat.mul_le_mul_right _ (pd (show T - min (d5 ns (d7 ns f l)) (d5 ns (dT ns g l)) ≤ T - l - 1 by omega)))
      have r3 := Nat.le_trans (Am h T n _ _ H1.va H2.vb ta td) (Nat.mul_le_mul_right _ (pd (show T - min (d5 ns (dT ns f l)) (d5 ns (d7 ns g l)) ≤ T - l - 1 by omega)))
      have r4 := Nat.le_trans (Am h T n _ _ H1.vb H2.vb tb td) (Nat.mul_le_mul_right _ (pd (show T - min (d5 ns (d7 ns f l)) (d5 ns (d7 ns g l)) ≤ T - l - 1 by omega)))
      have r5 : IX ns l (dT ns f l) (d7 ns f l) (dT ns g l) (d7 ns g l) ≤ (T - l - 1) * _ := Oz (show kJ ns (dT ns f l) (d7 ns f l) (dT ns g l) (d7 ns g l) - (l + 1) ≤ T - l - 1 by unfold kJ; omega)
      have r6 := O0 (T - l - 1) (T - min (d5 ns (dT ns f l)) (d5 ns (dT ns g l))) _ _ _ _ _ _ _ _ _ (by omega) (by have := H1.cnt; omega) (by have := H2.cnt; omega) r1 r2 r3 r4 r5
      rw [← H1.cnt, ← H2.cnt, show T - l - 1 + 1 = T - l by omega] at r6
      exact r6
theorem N9 (h : Wf ns) {T f g : Nat} (hf : f < ns.length + 2) (hg : g < ns.length + 2) (tf : tp ns f ≤ T) (tg : tp ns g ≤ T) : oD ns f g ≤ qL (T - min (d5 ns f) (d5 ns g)) * ((dN ns f).length * (dN ns g).length) := Am h T _ f g hf hg tf tg
end
theorem LH : EF pg := by
  refine ⟨fun l A0 A1 B0 B1 hA0 hA1 hB0 hB1 x => ?_, fun ns f g h hf hg ht => ?_, fun f g hf => LE hf, fun ns f g l h hf hg he hl h24 => H8 h hf hg he hl h24, fun ns ns' l f0 f1 g0 g1 hp h v0 v1 v2 v3 => ?_⟩
  · simp only [pg, ms]
    constructor
    · rintro ⟨a, b, ha | ⟨p, ha, rfl⟩, hb | ⟨q, hb, rfl⟩, rfl⟩
      · exact .inl ⟨a, b, ha, hb, rfl⟩
      · exact .inr ⟨a ||| q, .inr (.inl ⟨a, q, ha, hb, rfl⟩), (qS (hA0 a ha) (hB1 q hb)).2.1⟩
      · exact .inr ⟨p ||| b, .inl ⟨p, b, ha, hb, rfl⟩, (qS (hA1 p ha) (hB0 b hb)).1⟩
      · exact .inr ⟨p ||| q, .inr (.inr ⟨p, q, ha, hb, rfl⟩), (qS (hA1 p ha) (hB1 q hb)).2.2.1⟩
    · rintro (⟨a, b, ha, hb, rfl⟩ | ⟨y, ⟨a, b, ha, hb, rfl⟩ | ⟨a, b, ha, hb, rfl⟩ | ⟨a, b, ha, hb, rfl⟩, rfl⟩)
      · exact ⟨a, b, .inl ha, .inl hb, rfl⟩
      · exact ⟨a + 2 ^ l, b, .inr ⟨a, ha, rfl⟩, .inl hb, (qS (hA1 a ha) (hB0 b hb)).1.symm⟩
      · exact ⟨a, b + 2 ^ l, .inl ha, .inr ⟨b, hb, rfl⟩, (qS (hA0 a ha) (hB1 b hb)).2.1.symm⟩
      · exact ⟨a + 2 ^ l, b + 2 ^ l, .inr ⟨a, ha, rfl⟩, .inr ⟨b, hb, rfl⟩, (qS (hA1 a ha) (hB1 b hb)).2.2.1.symm⟩
  · have hm1 : ∀ x, M ns 1 x ↔ x = 0 := fun x => by unfold M; rw [l7]; exact List.mem_singleton
    simp only [pg, Bl] at ht ⊢
    have := mb h hf
    by_cases hc : f = 0 ∨ g = 0
    · rw [if_pos hc]
      refine ⟨by omega, by rw [Jz]; omega, fun x => ⟨fun k => absurd k (Fy ns x), fun ⟨a, b, h1, h2, _⟩ => ?_⟩⟩
      rcases hc with rfl | rfl
      · exact absurd h1 (Fy ns a)
      · exact absurd h2 (Fy ns b)
    · rw [if_neg hc] at ht ⊢
      by_cases h1 : f = 1
      · subst h1
        rw [if_pos rfl]
        refine ⟨hg, Nat.min_le_right _ _, fun x => ⟨fun k => ⟨0, x, (hm1 0).2 rfl, k, by simp⟩, ?_⟩⟩
        rintro ⟨a, b, ha, hb, rfl⟩
        rw [(hm1 a).1 ha, Nat.zero_or]
        exact hb
      · rw [if_neg h1] at ht ⊢
        obtain rfl : g = 1 := of_decide_eq_true ht
        refine ⟨hf, Nat.min_le_left _ _, fun x => ⟨fun k => ⟨x, 0, k, (hm1 0).2 rfl, by simp⟩, ?_⟩⟩
        rintro ⟨a, b, ha, hb, rfl⟩
        rw [(hm1 b).1 hb, Nat.or_zero]
        exact ha
  · show NY ns' l f0 f1 g0 g1 = NY ns l f0 f1 g0 g1
    unfold NY
    rw [rT hp h v1 v2, rT hp h v0 v3, rT hp h v1 v3, DI hp v0 v1 v2 v3]
def nY (p : Nat × Nat) : Value := .agg #[.int .i64 (p.1 : Int), .int .i64 (p.2 : Int)]
theorem uZ (a b : Nat × Nat) (h : nY a = nY b) : a = b := by
  obtain ⟨a1, a2⟩ := a
  obtain ⟨b1, b2⟩ := b
  simp only [nY, Value.agg.injEq, Array.mk.injEq, List.cons.injEq, Value.int.injEq, true_and, and_true] at h
  simp only [Prod.mk.injEq]
  omega
structure Dm (res : (Nat → Prop) → (Nat → Prop) → Nat → Prop) (ns : List Nd) (p : (Nat × Nat) × Int) : Prop where
  v1 : p.1.1 < ns.length + 2
  v2 : p.1.2 < ns.length + 2
  id : ∃ id : Nat, p.2 = (id : Int) ∧ id < ns.length + 2 ∧ min (d5 ns p.1.1) (d5 ns p.1.2) ≤ d5 ns id ∧ ∀ x, x ∈ dN ns id ↔ res (M ns p.1.1) (M ns p.1.2) x
def p4 (res : (Nat → Prop) → (Nat → Prop) → Nat → Prop) (ns : List Nd) (dl : List ((Nat × Nat) × Int)) : Prop := ∀ p, p ∈ dl → Dm res ns p
theorem Dm.pre {res : (Nat → Prop) → (Nat → Prop) → Nat → Prop} {ns ns' : List Nd} {p : (Nat × Nat) × Int} (hp : ns <+: ns') (h : Dm res ns p) : Dm res ns' p := by
  have hl := fU hp
  obtain ⟨id, h1, h2, h3, h4⟩ := h.id
  refine ⟨by have := h.v1; omega, by have := h.v2; omega, id, h1, by omega, ?_, ?_⟩
  · rw [gz hp h.v1, gz hp h.v2, gz hp h2]; exact h3
  · rw [iy hp h.v1, iy hp h.v2, gx hp h2]; exact h4
theorem p4.pre {res : (Nat → Prop) → (Nat → Prop) → Nat → Prop} {ns ns' : List Nd} {dl : List ((Nat × Nat) × Int)} (hp : ns <+: ns') (h : p4 res ns dl) : p4 res ns' dl := fun p q => (h p q).pre hp
theorem AQ {α β : Type} [DecidableEq α] {l : List (α × β)} {k : α} {v : β} {p : α × β} (h : p ∈ gV l k v) : p ∈ l ∨ p = (k, v) := by
  unfold gV at h
  split at h
  · obtain ⟨q, hq, e⟩ := List.mem_map.1 h
    split at e
    · exact .inr e.symm
    · exact .inl (e ▸ hq)
  · rcases List.mem_append.1 h with h | h
    · exact .inl h
    · exact .inr (by simpa using h)
theorem uW {α β : Type} [DecidableEq α] : ∀ {l : List (α × β)} {k : α} {v : β}, gU l k = some v → (k, v) ∈ l
  | [], _, _, h => by cases h
  | (a, b) :: r, k, v, h => by
    simp only [gU] at h
    by_cases e : a = k
    · rw [if_pos e] at h
      cases h; subst e
      exact List.mem_cons_self ..
    · rw [if_neg e] at h
      exact List.mem_cons_of_mem _ (uW h)
section
variable {o : Op} {ns ns1 ns2 ns3 : List Nd} {R f g l l1 l2 c1 c2 c low high id : Nat} {er : Int}
theorem MK (ho : EF o) (h : Wf ns) (hf : f < ns.length + 2) (hg : g < ns.length + 2) (hl : l = min (d5 ns f) (d5 ns g)) (h24 : l < 24)
    (g1 : jj ns ns1 R c1 l1 (o.res (M ns (dT ns f l)) (M ns (dT ns g l))) low 0)
    (g2 : jj ns1 ns2 R c2 l2 (o.resH (M ns1 (dT ns f l)) (M ns1 (d7 ns f l)) (M ns1 (dT ns g l)) (M ns1 (d7 ns g l))) high 0)
    (g3 : jj ns2 ns3 R 1 l (up l (M ns2 low) (M ns2 high)) id er) (hc : c1 + c2 + 1 ≤ c) : jj ns ns3 R c l (o.res (M ns f) (M ns g)) id er := by
  have H1 := gT h hf (l := l) (by omega) h24
  have H2 := gT h hg (l := l) (by omega) h24
  refine (((jj.then' g1 g2 (Nat.le_refl _)).then' g3 (Nat.le_refl _)).weak (c := c) (by omega) fun x => ?_)
  obtain ⟨v1, _, m1⟩ := g1.ok rfl
  obtain ⟨v2, _, m2⟩ := g2.ok rfl
  have eF : M ns f = up l (M ns (dT ns f l)) (M ns (d7 ns f l)) := fz H1.mem
  have eG : M ns g = up l (M ns (dT ns g l)) (M ns (d7 ns g l)) := fz H2.mem
  rw [eF, eG, ho.dec l _ _ _ _ (DH h H1.va H1.la) (DH h H1.vb H1.lb) (DH h H2.va H2.la) (DH h H2.vb H2.lb)]
  have e1 : M ns2 low = o.res (M ns (dT ns f l)) (M ns (dT ns g l)) := by
    rw [iy g2.pre v1]; exact fz m1
  have e2 : M ns2 high = o.resH (M ns (dT ns f l)) (M ns (d7 ns f l)) (M ns (dT ns g l)) (M ns (d7 ns g l)) := by
    rw [← iy g1.pre H1.va, ← iy g1.pre H1.vb, ← iy g1.pre H2.va, ← iy g1.pre H2.vb]; exact fz m2
  rw [e1, e2]
end
end
section
open Go Go.RowKit
section
variable {P : Program} {f : Nat → Value} {w : World} {d : Option Nat} {ty : TypeId} {ps : String} {af : Array Edge} {g : Option (Nat × Bool)} {x y : Operand} {t t2 e : TypeId}
theorem Cm (hu : P.underlying t = some (.pointer e)) : P.underlying t = some (.pointer (P.pointee t)) := by
  rw [hu]
  simp [Program.pointee, hu]
theorem pf {a : Addr} (hx : dK f x = .pointer (some a)) (hy : dK f y = .pointer none) (hu : P.underlying t = some (.pointer e)) : (execOp (dK f) ⟨d, .binOp .eql t x y t2, ty, ps, af, g⟩).run P w = .ok (.value (.bool false)) w := by
  have h := run_eql_pointer_nil w t (some a) (Cm hu)
  simp [execOp, hx, hy, eqGuard, h]
theorem M9 {m n : Nat} {k : IntKind} {tys : Array TypeId} (hx : dK f x = .int k (m : Int)) (hy : dK f y = .int k (n : Int)) : (execOp (dK f) ⟨d, .call ⟨.builtin .min, #[x, y], tys⟩, ty, ps, af, g⟩).run P w = .ok (.value (.int k ((min m n : Nat) : Int))) w := by
  simp [execOp, resolve, invoke, builtin, hx, hy, Builtin.min_, Builtin.min2]
  split <;> omega
theorem zv {q : Nat} {a : Operand} {v : Value} (h : dK f a = v) :
    (execOp (dK f) ⟨d, .makeFunc (.func q) #[a] #[], ty, ps, af, g⟩).run P w = .ok (.value (.func (.func q) #[v] #[])) w := by
  simp [execOp, Instr.makeFunc, h]
theorem zx {cs : Array Value} {n sz : Nat} {v : Value} {k : IntKind} {i : Nat} (hx : dK f x = .agg cs) (hy : dK f y = .int k (i : Int)) (hu : P.underlying t = some (.array n e)) (hi : i < n) (hs : (sizeOf e).run P w = .ok sz w) (hp : (part e cs (i * sz)).run P w = .ok v w) :
    (execOp (dK f) ⟨d, .index t x y, ty, ps, af, g⟩).run P w = .ok (.value v) w := by
  simp [execOp, hx, hy, Instr.index, asIntOf, run_underlying hu, hi, hs, hp]
end
section
variable {P : Program} {fr : Nat → Value} {w : World} {d : Option Nat} {ty : TypeId} {ps : String} {af : Array Edge} {g : Option (Nat × Bool)} {x y : Operand} {t kt et : TypeId} {b : Nat}
variable {α β : Type} [DecidableEq α] {enc : α → Value} {encV : β → Value} {l : List (α × β)} {k : α} {S : Value → Prop}
theorem wT {z0 : Value} {v0 : β} (hx : dK fr x = .map (some b)) (hy : dK fr y = enc k) (hT : lx P t = some (kt, et)) (KO : n7 P kt S) (hS : ∀ a, S (enc a)) (hi : ∀ a a', enc a = enc a' → a = a')
    (hz : eH P et = some z0) (hz0 : z0 = encV v0) (hm : dQ enc encV w b l) :
    (execOp (dK fr) ⟨d, .lookup t x y true, ty, ps, af, g⟩).run P w = .ok (.value (.tuple #[encV ((gU l k).getD v0), .bool (gU l k).isSome])) w := by
  subst hz0
  obtain ⟨f, clock, hm⟩ := hm
  unfold eH at hz
  obtain ⟨i, hi2, hzz⟩ := Option.bind_eq_some_iff.1 hz
  rcases rJ (P := P) (kt := kt) (encV := encV) KO hS hi (f := f) hm.nodup w k with ⟨h1, h2⟩ | ⟨j, v, h1, h2, h3⟩
  · rw [m9.2 h2]
    simp [execOp, hx, hy, Instr.lookup, run_underlying (il hT), getObj, Sem.run, hm.heap, Result.andThen, KO.check w _ (hS k), h1, zeroValue, typeInfo, hi2, hzz]
  · rw [h3]
    simp [execOp, hx, hy, Instr.lookup, run_underlying (il hT), getObj, Sem.run, hm.heap, Result.andThen, KO.check w _ (hS k), h1]
end
def PD (Ta Tn : TypeId) (N ba bm R bx : Nat) (res : (Nat → Prop) → (Nat → Prop) → Nat → Prop) (w : World) (ns : List Nd) (c l : Nat) (S : Nat → Prop) (v : Value) (w' : World) : Prop :=
  ∃ (ns' : List Nd) (id : Nat) (er : Int) (dl : List ((Nat × Nat) × Int)), v = .tuple #[.int .i64 (id : Int), .int .i64 er] ∧ Dx Tn N [bx, ba, bm] w w' ∧ fy Ta Tn N ba bm R w' ns' ∧ jj ns ns' R c l S id er ∧ dQ nY eE w' bx dl ∧ p4 res ns' dl
theorem PD.dx {Ta Tn : TypeId} {N ba bm R bx : Nat} {res : (Nat → Prop) → (Nat → Prop) → Nat → Prop} {w w' : World} {ns : List Nd} {c l : Nat} {S : Nat → Prop} {v : Value} (h : PD Ta Tn N ba bm R bx res w ns c l S v w') : Dx Tn N [bx, ba, bm] w w' := by
  obtain ⟨_, _, _, _, _, h, _⟩ := h; exact h
section
variable {Ta Tn T : TypeId} {N N' ba bm R b bx sz : Nat} {w w' : World} {ns : List Nd} {c : Array Value} {dl : List ((Nat × Nat) × Int)}
theorem At.dxm (k : fy Ta Tn N ba bm R w ns) (hq : dQ nY eE w bx dl) (hx : Dx Tn N [bx, ba, bm] w w') (hm : At w b c T) (hTa : T ≠ Ta) (hTn : T ≠ Tn) : At w' b c T := At.dx3 k hx hm hTa hTn (At.ne_map hm hq)
theorem Dx.done {w0 : World} (h : Dx Tn N [bx, ba, bm] w0 w) (k : Dx Tn N [ba, bm] w w') : Dx Tn N [bx, ba, bm] w0 w' := h.trans (k.mono (fun x hx => List.mem_cons_of_mem _ hx))
theorem Dx.toX (k : Dx Tn N [ba, bm] w w') : Dx Tn N [bx, ba, bm] w w' := k.mono (fun x hx => List.mem_cons_of_mem _ hx)
end
end
section
open Go Go.RowKit
def gZ (ns : List Nd) (id : Int) : Bool := decide (2 ≤ id ∧ id < (ns.length : Int) + 2)
theorem HS {ns : List Nd} {id : Int} (h : ¬ 2 ≤ id) : Value.bool false = .bool (gZ ns id) := congrArg Value.bool (decide_eq_false (fun k => h k.1)).symm
theorem FZ {ns : List Nd} {id : Int} (h : ¬ id - 2 < (ns.length : Int)) : Value.bool false = .bool (gZ ns id) := congrArg Value.bool (decide_eq_false (fun k => h (by omega))).symm
theorem M7 {ns : List Nd} {id : Int} {x : Nat} (h : 2 ≤ id) (h2 : id - 2 < (ns.length : Int)) : Value.bool (decide (¬ ((x : Nat) : Int) = -1)) = .bool (gZ ns id) := congrArg Value.bool (by
  rw [decide_eq_true (show ¬ ((x : Nat) : Int) = -1 by omega)]
  exact (decide_eq_true ⟨h, by omega⟩).symm)
theorem O4 {ns : List Nd} {id : Nat} (h : (id : Int) = 0 ∨ (id : Int) = 1) : Value.int .i64 24 = .int .i64 ((d5 ns id : Nat) : Int) := by
  rw [kD (by omega)]; rfl
theorem PJ {ns : List Nd} {id : Nat} (h : ¬ (id : Int) = 0) (h2 : ¬ (id : Int) = 1) : Value.int .i64 (((ns.getD ((id : Int) - 2).toNat mA).l : Nat) : Int) = .int .i64 ((d5 ns id : Nat) : Int) := by
  obtain ⟨i, rfl⟩ : ∃ i, id = i + 2 := ⟨id - 2, by omega⟩
  rw [jt, show (((i + 2 : Nat) : Int) - 2).toNat = i by omega]
theorem MT {ns : List Nd} {id : Nat} (hid : id < ns.length + 2) (h : ¬ (id : Int) = 0) (h2 : ¬ (id : Int) = 1) (h3 : gZ ns (id : Int) = false) : False := by
  have := of_decide_eq_false h3
  omega
def lp (ns : List Nd) (id : Int) : Nd := if gZ ns id = true then ns.getD (id - 2).toNat mA else mA
theorem IY {ns : List Nd} {id : Int} (h : (!gZ ns id) = true) : gZ ns id = false ∧ lp ns id = mA := by
  have h2 : gZ ns id = false := by cases k : gZ ns id <;> simp_all
  exact ⟨h2, by unfold lp; rw [h2]; rfl⟩
theorem JR {ns : List Nd} {id : Int} (h : (!gZ ns id) = false) : gZ ns id = true ∧ lp ns id = ns.getD (id - 2).toNat mA := by
  have h2 : gZ ns id = true := by cases k : gZ ns id <;> simp_all
  exact ⟨h2, by unfold lp; rw [h2]; rfl⟩
theorem m8 {ns : List Nd} {id : Int} : gZ ns id = true ↔ 2 ≤ id ∧ id < (ns.length : Int) + 2 := decide_eq_true_iff
def q4 (ns : List Nd) (id : Int) : Int := if 0 ≤ id ∧ id < (ns.length : Int) + 2 then ((d5 ns id.toNat : Nat) : Int) else -1
theorem Oa {ns : List Nd} {id : Int} (h : id = 0 ∨ id = 1) : Value.int .i64 24 = .int .i64 (q4 ns id) := by
  unfold q4
  rw [if_pos ⟨by omega, by omega⟩, kD (by omega)]; rfl
theorem PI {ns : List Nd} {id : Int} (h3 : gZ ns id = true) : Value.int .i64 (((lp ns id).l : Nat) : Int) = .int .i64 (q4 ns id) := by
  have h4 := m8.1 h3
  unfold lp q4
  rw [h3, if_pos rfl, if_pos ⟨by omega, by omega⟩]
  obtain ⟨i, rfl⟩ : ∃ i : Nat, id = ((i + 2 : Nat) : Int) := ⟨(id - 2).toNat, by omega⟩
  rw [Int.toNat_natCast, jt, show (((i + 2 : Nat) : Int) - 2).toNat = i by omega]
theorem PG {ns : List Nd} {id : Int} (h : ¬ id = 0) (h2 : ¬ id = 1) (h3 : gZ ns id = false) : Value.int .i64 (-1) = .int .i64 (q4 ns id) := by
  have := of_decide_eq_false h3
  unfold q4
  rw [if_neg (by omega)]
theorem Ac {ns : List Nd} {id : Nat} (h : id < ns.length + 2) : q4 ns (id : Int) = ((d5 ns id : Nat) : Int) := by
  unfold q4
  rw [if_pos ⟨by omega, by omega⟩, Int.toNat_natCast]
def m3 (ns : List Nd) (id : Int) : Bool := decide (0 ≤ id ∧ id < (ns.length : Int) + 2)
theorem Bu {ns : List Nd} {id : Int} : m3 ns id = true ↔ 0 ≤ id ∧ id < (ns.length : Int) + 2 := decide_eq_true_iff
theorem N7 {ns : List Nd} {id : Int} (h : q4 ns id < 0) : ¬ m3 ns id = true := fun k => by
  have := Bu.1 k
  unfold q4 at h
  rw [if_pos this] at h
  omega
theorem NV {ns : List Nd} {id : Int} (h : ¬ q4 ns id < 0) : m3 ns id = true := Bu.2 (by
  unfold q4 at h
  split at h
  · assumption
  · omega)
theorem KJ {ns : List Nd} {li : List Int} {k : Nat} (hk : k < li.length) (h : q4 ns (li.getD k 0) < 0) : Value.bool false = .bool (li.all (m3 ns)) := congrArg Value.bool (Eq.symm (Bool.eq_false_iff.2 fun q => N7 h (List.all_eq_true.1 q _ (dS hk))))
theorem Jl {ns : List Nd} {li : List Int} {k : Nat} (hk : k = li.length) (h : ∀ q, q < k → m3 ns (li.getD q 0) = true) : Value.bool true = .bool (li.all (m3 ns)) := congrArg Value.bool (Eq.symm (List.all_eq_true.2 fun x hx => by
  obtain ⟨j, hj, rfl⟩ := List.getElem_of_mem hx
  have := h j (by omega)
  rwa [List.getD_eq_getElem?_getD, List.getElem?_eq_getElem hj] at this))
theorem Nq {ns : List Nd} (h : Wf ns) {n : Nd} (hs : (gU (oA ns) n).isSome = true) : ∃ i, i < ns.length ∧ ns.getD i mA = n ∧ (gU (oA ns) n).getD 0 = ((i + 2 : Nat) : Int) := by
  cases k : gU (oA ns) n with
  | none => rw [k] at hs; cases hs
  | some v =>
    obtain ⟨i, h1, h2, h3⟩ := Fj h.nd k
    exact ⟨i, h1, h2, h3⟩
theorem MU {ns : List Nd} {n : Nd} (hs : (gU (oA ns) n).isSome = false) : n ∉ ns := by
  cases k : gU (oA ns) n with
  | none => exact E9 k
  | some v => rw [k] at hs; cases hs
theorem NF {ns : List Nd} (h : Wf ns) {i l lo hi R c : Nat} (hi' : i < ns.length) (hn : ns.getD i mA = ⟨l, lo, hi⟩) : jj ns ns R c l (up l (M ns lo) (M ns hi)) (i + 2) 0 := by
  refine jj.same (by omega) (by rw [jt, hn]; exact Nat.le_refl _) fun x => ?_
  rw [iq h hi', hn, List.mem_append, List.mem_map]
  exact or_congr Iff.rfl ⟨fun ⟨y, a, b⟩ => ⟨y, a, b.symm⟩, fun ⟨y, a, b⟩ => ⟨y, a, b.symm⟩⟩
theorem NR {ns : List Nd} {l lo hi R : Nat} (hlo : lo < ns.length + 2) (hhi : hi < ns.length + 2) : jj ns (ns ++ [⟨l, lo, hi⟩]) R 1 l (up l (M ns lo) (M ns hi)) (ns.length + 2) 0 := by
  refine ⟨List.prefix_append _ _, by simp, .inl ⟨rfl, by simp, ?_, fun x => ?_⟩⟩
  · rw [jt, List.getD_eq_getElem?_getD, List.getElem?_append_right (Nat.le_refl _), Nat.sub_self]
    exact Nat.le_refl _
  · rw [qo, List.mem_append, List.mem_map]
    exact or_congr Iff.rfl ⟨fun ⟨y, a, b⟩ => ⟨y, a, b.symm⟩, fun ⟨y, a, b⟩ => ⟨y, a, b.symm⟩⟩
theorem Ji {ns : List Nd} {R c l : Nat} {S : Nat → Prop} (h : R ≤ ns.length) : jj ns ns R c l S 0 5 := ⟨List.prefix_refl _, by omega, .inr ⟨rfl, rfl, h⟩⟩
theorem Fr {ns : List Nd} {l lo hi : Nat} (h : (hi : Int) = 0) : ∀ x, x ∈ dN ns lo ↔ up l (M ns lo) (M ns hi) x := fun x => by
  obtain rfl : hi = 0 := by omega
  unfold up
  exact ⟨.inl, fun k => k.elim _root_.id fun ⟨y, hy, _⟩ => absurd hy (Fy ns y)⟩
theorem xy {ns : List Nd} {f : Nat} (h : gZ ns (f : Int) = true) : 2 ≤ f ∧ lp ns (f : Int) = ns.getD (f - 2) mA ∧ d5 ns f = (lp ns (f : Int)).l := by
  have h4 := m8.1 h
  unfold lp
  rw [h, if_pos rfl]
  obtain ⟨i, rfl⟩ : ∃ i, f = i + 2 := ⟨f - 2, by omega⟩
  rw [show (((i + 2 : Nat) : Int) - 2).toNat = i by omega]
  exact ⟨by omega, rfl, jt i⟩
theorem Px {ns : List Nd} {f l : Nat} (h : gZ ns (f : Int) = true) (hl : ((lp ns (f : Int)).l : Int) = (l : Int)) : Value.tuple #[.int .i64 ((lp ns (f : Int)).lo : Int), .int .i64 ((lp ns (f : Int)).hi : Int)] = .tuple #[.int .i64 ((dT ns f l : Nat) : Int), .int .i64 ((d7 ns f l : Nat) : Int)] := by
  obtain ⟨h1, h2, h3⟩ := xy h
  unfold dT d7
  rw [if_pos ⟨h1, by omega⟩, if_pos ⟨h1, by omega⟩, h2]
theorem OP {ns : List Nd} {f l : Nat} (hf : f < ns.length + 2) (h : ¬ (gZ ns (f : Int) = true ∧ ((lp ns (f : Int)).l : Int) = (l : Int))) : Value.tuple #[.int .i64 (f : Int), .int .i64 0] = .tuple #[.int .i64 ((dT ns f l : Nat) : Int), .int .i64 ((d7 ns f l : Nat) : Int)] := by
  unfold dT d7
  have hc : ¬ (2 ≤ f ∧ d5 ns f = l) := fun ⟨a, b⟩ => h (by
    have ht : gZ ns (f : Int) = true := m8.2 (by omega)
    obtain ⟨_, _, h3⟩ := xy ht
    exact ⟨ht, by omega⟩)
  rw [if_neg hc, if_neg hc]
  rfl
end
section
open Go Go.RowKit
theorem H7 {b : Bool} (h : (!b) = true) : b = false := by cases b <;> simp_all
theorem yY {a b : Nat} : decide ((a : Int) = (b : Int)) = decide (a = b) := by
  by_cases h : a = b
  · rw [decide_eq_true h, decide_eq_true (by omega)]
  · rw [decide_eq_false h, decide_eq_false (by omega)]
theorem Fv {f g : Nat} (h : (f : Int) = 0 ∨ (f : Int) = (g : Int)) : Value.tuple #[.int .i64 (g : Int), .bool true] = .tuple #[.int .i64 ((nm.ends f g).1 : Int), .bool (nm.ends f g).2] := by
  have e : nm.ends f g = (g, true) := if_pos (by omega)
  rw [e]
theorem Nt {f g : Nat} (h : ¬ (f : Int) = 0) (h2 : ¬ (f : Int) = (g : Int)) : Value.tuple #[.int .i64 (f : Int), .bool (decide ((g : Int) = 0))] = .tuple #[.int .i64 ((nm.ends f g).1 : Int), .bool (nm.ends f g).2] := by
  have e : nm.ends f g = (f, decide (g = 0)) := if_neg (by omega)
  rw [e, show decide ((g : Int) = 0) = decide (g = 0) from yY (b := 0)]
theorem EQ {f g : Nat} (h : (f : Int) = 0 ∨ (f : Int) = (g : Int)) : Value.tuple #[.int .i64 0, .bool true] = .tuple #[.int .i64 ((sc.ends f g).1 : Int), .bool (sc.ends f g).2] := by
  have e : sc.ends f g = (0, true) := if_pos (by omega)
  rw [e]; rfl
theorem Md {f g : Nat} (h : ¬ (f : Int) = 0) (h2 : ¬ (f : Int) = (g : Int)) : Value.tuple #[.int .i64 (f : Int), .bool (decide ((g : Int) = 0))] = .tuple #[.int .i64 ((sc.ends f g).1 : Int), .bool (sc.ends f g).2] := by
  have e : sc.ends f g = (f, decide (g = 0)) := if_neg (by omega)
  rw [e, show decide ((g : Int) = 0) = decide (g = 0) from yY (b := 0)]
theorem Ab {f g : Nat} (h : (f : Int) = 0 ∨ (g : Int) = 0) : Value.tuple #[.int .i64 0, .bool true] = .tuple #[.int .i64 ((pg.ends f g).1 : Int), .bool (pg.ends f g).2] := by
  have e : pg.ends f g = (0, true) := if_pos (by omega)
  rw [e]; rfl
theorem Kx {f g : Nat} (h : ¬ (f : Int) = 0) (h2 : ¬ (g : Int) = 0) (h3 : (f : Int) = 1) : Value.tuple #[.int .i64 (g : Int), .bool true] = .tuple #[.int .i64 ((pg.ends f g).1 : Int), .bool (pg.ends f g).2] := by
  have e : pg.ends f g = (g, true) := (if_neg (by omega)).trans (if_pos (by omega))
  rw [e]
theorem Jg {f g : Nat} (h : ¬ (f : Int) = 0) (h2 : ¬ (g : Int) = 0) (h3 : ¬ (f : Int) = 1) : Value.tuple #[.int .i64 (f : Int), .bool (decide ((g : Int) = 1))] = .tuple #[.int .i64 ((pg.ends f g).1 : Int), .bool (pg.ends f g).2] := by
  have e : pg.ends f g = (f, decide (g = 1)) := (if_neg (by omega)).trans (if_neg (by omega))
  rw [e, show decide ((g : Int) = 1) = decide (g = 1) from yY (b := 1)]
theorem jj.low {ns ns' : List Nd} {R c l l2 : Nat} {S : Nat → Prop} {id : Nat} {er : Int} (g : jj ns ns' R c l S id er) (h : l2 ≤ l) : jj ns ns' R c l2 S id er :=
  ⟨g.pre, g.cost, g.res.imp (fun ⟨a, b, d, e⟩ => ⟨a, b, by omega, e⟩) _root_.id⟩
theorem jj.cheap {ns ns' : List Nd} {R c c2 l : Nat} {S : Nat → Prop} {id : Nat} {er : Int} (g : jj ns ns' R c l S id er) (h : c ≤ c2) : jj ns ns' R c2 l S id er := g.weak h (fun _ => Iff.rfl)
theorem It {res : (Nat → Prop) → (Nat → Prop) → Nat → Prop} {ns : List Nd} {dl : List ((Nat × Nat) × Int)} {f g : Nat} (h : p4 res ns dl) (hs : (gU dl (f, g)).isSome = true) :
    ∃ id : Nat, (gU dl (f, g)).getD 0 = (id : Int) ∧ id < ns.length + 2 ∧ min (d5 ns f) (d5 ns g) ≤ d5 ns id ∧ ∀ x, x ∈ dN ns id ↔ res (M ns f) (M ns g) x := by
  cases k : gU dl (f, g) with
  | none => rw [k] at hs; cases hs
  | some v =>
    obtain ⟨id, h1, h2, h3, h4⟩ := (h _ (uW k)).id
    exact ⟨id, h1, h2, h3, h4⟩
theorem F9 {res : (Nat → Prop) → (Nat → Prop) → Nat → Prop} {ns ns' : List Nd} {dl : List ((Nat × Nat) × Int)} {f g id l R c : Nat} {er : Int} (h : p4 res ns' dl) (hf : f < ns.length + 2) (hg : g < ns.length + 2) (hl : min (d5 ns f) (d5 ns g) = l) (hgot : jj ns ns' R c l (res (M ns f) (M ns g)) id er) (he : er = 0) : p4 res ns' (gV dl (f, g) (id : Int)) := fun p hp => by
  rcases AQ hp with hp | rfl
  · exact h p hp
  · obtain ⟨v1, v2, v3⟩ := hgot.ok he
    obtain ⟨a1, a2, a3⟩ := hgot.old hf
    obtain ⟨b1, b2, b3⟩ := hgot.old hg
    refine ⟨a1, b1, id, rfl, v1, by rw [a3, b3, hl]; exact v2, ?_⟩
    rw [iy hgot.pre hf, iy hgot.pre hg]
    exact v3
theorem p4.nil {res : (Nat → Prop) → (Nat → Prop) → Nat → Prop} {ns : List Nd} : p4 res ns [] := fun p h => by cases h
theorem iP : ∀ {l1 l2 : List Nat}, l1.Nodup → (∀ x, x ∈ l1 → x ∈ l2) → l1.length ≤ l2.length
  | [], _, _, _ => Nat.zero_le _
  | x :: xs, l2, hn, hs => by
    obtain ⟨h1, h2⟩ := List.nodup_cons.1 hn
    have hx := hs x (List.mem_cons_self ..)
    have := iP (l2 := l2.erase x) h2 (fun y hy => (List.mem_erase_of_ne (fun (e : y = x) => h1 (e ▸ hy))).2 (hs y (List.mem_cons_of_mem _ hy)))
    rw [List.length_erase_of_mem hx] at this
    have hp := List.length_pos_of_mem hx
    rw [List.length_cons]; omega
theorem EA {ns ns' : List Nd} (h : Wf ns') {id a b : Nat} (hid : id < ns'.length + 2) (hs : ∀ x, x ∈ dN ns' id → ms (M ns a) (M ns b) x) : (dN ns' id).length ≤ (dN ns a).length * (dN ns b).length := by
  have h1 := iP (l2 := (dN ns a).flatMap fun x => (dN ns b).map fun y => x ||| y) (jg h id hid) (fun x hx => by
    obtain ⟨p, q, hp, hq, rfl⟩ := hs x hx
    exact List.mem_flatMap.2 ⟨p, hp, List.mem_map.2 ⟨q, hq, rfl⟩⟩)
  have h2 : ∀ (l : List Nat), (l.flatMap fun x => (dN ns b).map fun y => x ||| y).length = l.length * (dN ns b).length := fun l => by
    induction l with
    | nil => simp
    | cons x l ih => rw [List.flatMap_cons, List.length_append, List.length_map, ih, List.length_cons, Nat.add_mul]; omega
  rw [h2] at h1
  exact h1
def zd (f0 f1 i : Nat) : Nat := [f1, f0, f1].getD i 0
def zg (g0 g1 i : Nat) : Nat := [g0, g1, g1].getD i 0
def JU (A0 A1 B0 B1 : Nat → Prop) (i : Nat) (x : Nat) : Prop := (1 ≤ i ∧ ms A1 B0 x) ∨ (2 ≤ i ∧ ms A0 B1 x) ∨ (3 ≤ i ∧ ms A1 B1 x)
def PH (a0 a1 b0 b1 : Nat) : Nat → Nat
  | 0 => 0
  | 1 => a1 * b0
  | 2 => a1 * b0 + a0 * b1
  | _ => a1 * b0 + a0 * b1 + a1 * b1
def IU (ns : List Nd) (l f0 f1 g0 g1 : Nat) : Nat → Nat
  | 0 => 0
  | 1 => oD ns f1 g0
  | 2 => oD ns f1 g0 + oD ns f0 g1 + (kJ ns f0 f1 g0 g1 - (l + 1)) * min ((dN ns f1).length * (dN ns g0).length) ((dN ns f0).length * (dN ns g1).length)
  | _ => oD ns f1 g0 + oD ns f0 g1 + oD ns f1 g1 + IX ns l f0 f1 g0 g1
theorem Pr (A0 A1 B0 B1 : Nat → Prop) (ns : List Nd) (x : Nat) : x ∈ dN ns 0 ↔ JU A0 A1 B0 B1 0 x := by
  rw [mn]
  unfold JU
  exact ⟨fun h => (by cases h), fun h => (by omega)⟩
theorem Pw (A0 A1 B0 B1 : Nat → Prop) (x : Nat) : JU A0 A1 B0 B1 3 x ↔ pg.resH A0 A1 B0 B1 x := by
  unfold JU pg
  simp
theorem Pk {A0 A1 B0 B1 P Q : Nat → Prop} {i : Nat} (hi : i < 3) (hP : P = [A1, A0, A1].getD i A0) (hQ : Q = [B0, B1, B1].getD i B0) (x : Nat) : (JU A0 A1 B0 B1 i x ∨ ms P Q x) ↔ JU A0 A1 B0 B1 (i + 1) x := by
  subst hP hQ
  have : i = 0 ∨ i = 1 ∨ i = 2 := by omega
  unfold JU
  rcases this with rfl | rfl | rfl
  · constructor
    · rintro (h | h)
      · omega
      · exact .inl ⟨by omega, h⟩
    · rintro (h | h | h)
      · exact .inr h.2
      · omega
      · omega
  · constructor
    · rintro ((h | h | h) | h)
      · exact .inl ⟨by omega, h.2⟩
      · omega
      · omega
      · exact .inr (.inl ⟨by omega, h⟩)
    · rintro (h | h | h)
      · exact .inl (.inl ⟨by omega, h.2⟩)
      · exact .inr h.2
      · omega
  · constructor
    · rintro ((h | h | h) | h)
      · exact .inl ⟨by omega, h.2⟩
      · exact .inr (.inl ⟨by omega, h.2⟩)
      · omega
      · exact .inr (.inr ⟨by omega, h⟩)
    · rintro (h | h | h)
      · exact .inl (.inl ⟨by omega, h.2⟩)
      · exact .inl (.inr (.inl ⟨by omega, h.2⟩))
      · exact .inr h.2
theorem GL {ns : List Nd} {l f0 f1 g0 g1 i : Nat} (hi : i < 3) : IU ns l f0 f1 g0 g1 i + (oD ns (zd f0 f1 i) (zg g0 g1 i) + (kJ ns f0 f1 g0 g1 - (l + 1)) * min (PH (dN ns f0).length (dN ns f1).length (dN ns g0).length (dN ns g1).length i) ((dN ns (zd f0 f1 i)).length * (dN ns (zg g0 g1 i)).length)) = IU ns l f0 f1 g0 g1 (i + 1) := by
  have : i = 0 ∨ i = 1 ∨ i = 2 := by omega
  rcases this with rfl | rfl | rfl
  · show 0 + (oD ns f1 g0 + _ * min 0 _) = oD ns f1 g0
    rw [Nat.zero_min, Nat.mul_zero]; omega
  · show oD ns f1 g0 + (oD ns f0 g1 + _ * min _ _) = oD ns f1 g0 + oD ns f0 g1 + _ * min _ _
    exact (Nat.add_assoc _ _ _).symm
  · show oD ns f1 g0 + oD ns f0 g1 + (kJ ns f0 f1 g0 g1 - (l + 1)) * min ((dN ns f1).length * (dN ns g0).length) ((dN ns f0).length * (dN ns g1).length) + (oD ns f1 g1 + (kJ ns f0 f1 g0 g1 - (l + 1)) * min ((dN ns f1).length * (dN ns g0).length + (dN ns f0).length * (dN ns g1).length) ((dN ns f1).length * (dN ns g1).length)) = oD ns f1 g0 + oD ns f0 g1 + oD ns f1 g1 + IX ns l f0 f1 g0 g1
    unfold IX uJ
    omega
theorem K0 (ns : List Nd) (l f0 f1 g0 g1 : Nat) {i : Nat} (h : i ≤ 3) : IU ns l f0 f1 g0 g1 i ≤ IU ns l f0 f1 g0 g1 3 := by
  have s0 := GL (ns := ns) (l := l) (f0 := f0) (f1 := f1) (g0 := g0) (g1 := g1) (show 0 < 3 by decide)
  have s1 := GL (ns := ns) (l := l) (f0 := f0) (f1 := f1) (g0 := g0) (g1 := g1) (show 1 < 3 by decide)
  have s2 := GL (ns := ns) (l := l) (f0 := f0) (f1 := f1) (g0 := g0) (g1 := g1) (show 2 < 3 by decide)
  simp only [Nat.zero_add, Nat.reduceAdd] at s0 s1 s2
  have : i = 0 ∨ i = 1 ∨ i = 2 ∨ i = 3 := by omega
  rcases this with rfl | rfl | rfl | rfl <;> omega
theorem OD {ns : List Nd} {l f0 f1 g0 g1 i : Nat} (hi : i < 3) : IU ns l f0 f1 g0 g1 i + oD ns (zd f0 f1 i) (zg g0 g1 i) ≤ IU ns l f0 f1 g0 g1 3 := by
  refine Nat.le_trans ?_ (K0 _ _ _ _ _ _ (show i + 1 ≤ 3 by omega))
  rw [← GL hi]
  omega
theorem uo (F G : List Nat) : (F.flatMap fun x => G.map fun y => x ||| y).length = F.length * G.length := by
  induction F with
  | nil => simp
  | cons x F ih => rw [List.flatMap_cons, List.length_append, List.length_map, ih, List.length_cons, Nat.add_mul, Nat.one_mul]; omega
theorem vV {F G : List Nat} {x : Nat} (h : ms (· ∈ F) (· ∈ G) x) : x ∈ F.flatMap fun x => G.map fun y => x ||| y := by
  obtain ⟨p, q, hp, hq, rfl⟩ := h
  exact List.mem_flatMap.2 ⟨p, hp, List.mem_map.2 ⟨q, hq, rfl⟩⟩
theorem JX {ns nsc : List Nd} (h : Wf nsc) {f0 f1 g0 g1 i out : Nat} (ho : out < nsc.length + 2) (hi : i < 3) (hs : ∀ x, x ∈ dN nsc out → JU (M ns f0) (M ns f1) (M ns g0) (M ns g1) i x) : (dN nsc out).length ≤ PH (dN ns f0).length (dN ns f1).length (dN ns g0).length (dN ns g1).length i := by
  have hn := jg h out ho
  have : i = 0 ∨ i = 1 ∨ i = 2 := by omega
  rcases this with rfl | rfl | rfl
  · have := iP (l2 := []) hn (fun x hx => by
      have := hs x hx
      unfold JU at this
      omega)
    exact this
  · have := iP (l2 := (dN ns f1).flatMap fun x => (dN ns g0).map fun y => x ||| y) hn (fun x hx => by
      rcases hs x hx with h | h | h
      · exact vV h.2
      · omega
      · omega)
    rwa [uo] at this
  · have := iP (l2 := ((dN ns f1).flatMap fun x => (dN ns g0).map fun y => x ||| y) ++ ((dN ns f0).flatMap fun x => (dN ns g1).map fun y => x ||| y)) hn (fun x hx => by
      rcases hs x hx with h | h | h
      · exact List.mem_append.2 (.inl (vV h.2))
      · exact List.mem_append.2 (.inr (vV h.2))
      · omega)
    rwa [List.length_append, uo, uo] at this
theorem t8 {ns : List Nd} {f g K x : Nat} (hf : tp ns f ≤ K) (hg : tp ns g ≤ K) (h : ms (M ns f) (M ns g) x) : x < 2 ^ K := by
  obtain ⟨a, b, ha, hb, rfl⟩ := h
  exact Nat.or_lt_two_pow (kX.1 hf a ha) (kX.1 hg b hb)
theorem OC {ns nsc : List Nd} {f0 f1 g0 g1 i out : Nat} (hs : ∀ x, x ∈ dN nsc out → JU (M ns f0) (M ns f1) (M ns g0) (M ns g1) i x) : tp nsc out ≤ kJ ns f0 f1 g0 g1 := kX.2 fun x hx => by
  have k : tp ns f0 ≤ kJ ns f0 f1 g0 g1 ∧ tp ns f1 ≤ kJ ns f0 f1 g0 g1 ∧ tp ns g0 ≤ kJ ns f0 f1 g0 g1 ∧ tp ns g1 ≤ kJ ns f0 f1 g0 g1 := by unfold kJ; omega
  rcases hs x hx with h | h | h
  · exact t8 k.2.1 k.2.2.1 h.2
  · exact t8 k.1 k.2.2.2 h.2
  · exact t8 k.2.1 k.2.2.2 h.2
theorem pb {i : Nat} (hi : i < 3) (f0 f1 : Nat) : zd f0 f1 i = f0 ∨ zd f0 f1 i = f1 := by
  have : i = 0 ∨ i = 1 ∨ i = 2 := by omega
  rcases this with rfl | rfl | rfl
  · exact .inr rfl
  · exact .inl rfl
  · exact .inr rfl
theorem oT {i : Nat} (hi : i < 3) (g0 g1 : Nat) : zg g0 g1 i = g0 ∨ zg g0 g1 i = g1 := by
  have : i = 0 ∨ i = 1 ∨ i = 2 := by omega
  rcases this with rfl | rfl | rfl
  · exact .inl rfl
  · exact .inr rfl
  · exact .inr rfl
theorem M0 {ns nsc ns1 ns2 : List Nd} {R l i f0 f1 g0 g1 out id id2 : Nat} {er2 : Int} (hw : Wf ns) (hcw : Wf nsc) (h1w : Wf ns1) (hi : i < 3) (hl : l < 24)
    (v0 : f0 < ns.length + 2) (v1 : f1 < ns.length + 2) (v2 : g0 < ns.length + 2) (v3 : g1 < ns.length + 2) (k0 : l < d5 ns f0) (k1 : l < d5 ns f1) (k2 : l < d5 ns g0) (k3 : l < d5 ns g1)
    (g : jj ns nsc R (IU ns l f0 f1 g0 g1 i) (l + 1) (JU (M ns f0) (M ns f1) (M ns g0) (M ns g1) i) out 0)
    (gd : jj nsc ns1 R (pg.cst nsc (zd f0 f1 i) (zg g0 g1 i)) (min (d5 nsc (zd f0 f1 i)) (d5 nsc (zg g0 g1 i))) (pg.res (M nsc (zd f0 f1 i)) (M nsc (zg g0 g1 i))) id 0)
    (gu : jj ns1 ns2 R (nm.cst ns1 out id) (min (d5 ns1 out) (d5 ns1 id)) (nm.res (M ns1 out) (M ns1 id)) id2 er2) :
    jj ns ns2 R (IU ns l f0 f1 g0 g1 (i + 1)) (l + 1) (JU (M ns f0) (M ns f1) (M ns g0) (M ns g1) (i + 1)) id2 er2 := by
  obtain ⟨o1, o2, o3⟩ := g.ok rfl
  obtain ⟨d1, d2, d3⟩ := gd.ok rfl
  obtain ⟨q1, q2, q3⟩ := gd.old o1
  have hpx : zd f0 f1 i < ns.length + 2 := by rcases pb hi f0 f1 with e | e <;> rw [e] <;> assumption
  have hpy : zg g0 g1 i < ns.length + 2 := by rcases oT hi g0 g1 with e | e <;> rw [e] <;> assumption
  have hlx : l < d5 ns (zd f0 f1 i) := by rcases pb hi f0 f1 with e | e <;> rw [e] <;> assumption
  have hly : l < d5 ns (zg g0 g1 i) := by rcases oT hi g0 g1 with e | e <;> rw [e] <;> assumption
  obtain ⟨x1, x2, x3⟩ := g.old hpx
  obtain ⟨y1, y2, y3⟩ := g.old hpy
  have hc := EA (ns := nsc) h1w d1 (fun x hx => (d3 x).1 hx)
  rw [x2, y2] at hc
  have hco := JX hcw o1 hi (fun x hx => (o3 x).1 hx)
  have hto : tp ns1 out ≤ kJ ns f0 f1 g0 g1 := by rw [uz gd.pre o1]; exact OC (fun x hx => (o3 x).1 hx)
  have htd : tp ns1 id ≤ kJ ns f0 f1 g0 g1 := kX.2 fun x hx => by
    have h := (d3 x).1 hx
    rw [iy g.pre hpx, iy g.pre hpy] at h
    refine t8 ?_ ?_ h
    · unfold kJ; rcases pb hi f0 f1 with e | e <;> rw [e] <;> omega
    · unfold kJ; rcases oT hi g0 g1 with e | e <;> rw [e] <;> omega
  have eu : nm.cst ns1 out id ≤ (kJ ns f0 f1 g0 g1 - (l + 1)) * min (PH (dN ns f0).length (dN ns f1).length (dN ns g0).length (dN ns g1).length i) ((dN ns (zd f0 f1 i)).length * (dN ns (zg g0 g1 i)).length) := by
    refine Nat.le_trans (Jd h1w BX.endF q1 d1 hto htd) ?_
    rw [x3, y3] at d2
    rw [q3, q2]
    exact Nat.mul_le_mul (by omega) (by omega)
  have ed : pg.cst nsc (zd f0 f1 i) (zg g0 g1 i) = oD ns (zd f0 f1 i) (zg g0 g1 i) := rT g.pre hw hpx hpy
  rw [ed] at gd
  refine (((g.then' gd (Nat.le_refl _)).then' gu (Nat.le_refl _)).weak (c := IU ns l f0 f1 g0 g1 (i + 1)) ?_ fun x => ?_).low (by rw [x3, y3] at d2; omega)
  · rw [← GL hi]
    omega
  · have ePx : ([M ns f1, M ns f0, M ns f1].getD i (M ns f0)) = M ns (zd f0 f1 i) := by
      have : i = 0 ∨ i = 1 ∨ i = 2 := by omega
      rcases this with rfl | rfl | rfl <;> rfl
    have ePy : ([M ns g0, M ns g1, M ns g1].getD i (M ns g0)) = M ns (zg g0 g1 i) := by
      have : i = 0 ∨ i = 1 ∨ i = 2 := by omega
      rcases this with rfl | rfl | rfl <;> rfl
    rw [← Pk hi rfl rfl, ePx, ePy]
    refine or_congr ?_ ?_
    · show x ∈ dN ns1 out ↔ _
      rw [q2]; exact o3 x
    · rw [← iy g.pre hpx, ← iy g.pre hpy]
      exact d3 x
end
section
open Go Go.RowKit
theorem A9 {n l : Nat} : ((n / 2 ^ l &&& 1 : Nat) : Int) = 1 ↔ n.testBit l = true := by
  rw [Nat.and_one_is_mod, Nat.testBit_eq_decide_div_mod_eq, decide_eq_true_eq]
  omega
section
variable {P : Program} {f : Nat → Value} {w : World} {d : Option Nat} {ty : TypeId} {ps : String} {af : Array Edge} {g : Option (Nat × Bool)} {x y : Operand} {t t2 : TypeId}
theorem Mr {a b : Int} {yk : IntKind} (hx : dK f x = .int .i64 a) (hy : dK f y = .int yk b) (h0 : 0 ≤ a) (hb : 0 ≤ b) (hl : b ≤ 64) : (execOp (dK f) ⟨d, .binOp .shr t x y t2, ty, ps, af, g⟩).run P w = .ok (.value (.int .i64 ((a.toNat / 2 ^ b.toNat : Nat) : Int))) w := by
  obtain ⟨m, rfl⟩ := Int.eq_ofNat_of_zero_le h0
  rw [rx hx hy hb (by simpa [IntKind.bits] using hl), Int.toNat_natCast]
end
def K2 (n l : Nat) : Nat := n / 2 ^ l * 2 ^ l
theorem Df (n l : Nat) : K2 n l = K2 n (l + 1) + (if n.testBit l then 2 ^ l else 0) := by
  unfold K2
  have e : n / 2 ^ (l + 1) = n / 2 ^ l / 2 := by rw [Nat.div_div_eq_div_mul, Nat.pow_succ]
  have hb : n.testBit l = decide (n / 2 ^ l % 2 = 1) := Nat.testBit_eq_decide_div_mod_eq
  rw [e, hb, Nat.pow_succ]
  have h2 := Nat.div_add_mod (n / 2 ^ l) 2
  generalize n / 2 ^ l = q at *
  generalize 2 ^ l = p at *
  by_cases h : q % 2 = 1
  · rw [if_pos (decide_eq_true h)]
    rw [h] at h2
    conv => lhs; rw [← h2]
    rw [Nat.add_mul, Nat.one_mul]
    congr 1
    rw [Nat.mul_comm 2, Nat.mul_assoc, Nat.mul_comm 2 p]
  · have h0 : q % 2 = 0 := by omega
    rw [if_neg (by simpa using h)]
    rw [h0] at h2
    conv => lhs; rw [← h2]
    rw [Nat.add_zero, Nat.add_zero, Nat.mul_comm 2, Nat.mul_assoc, Nat.mul_comm 2 p]
theorem Ir {n : Nat} (h : n < 2 ^ 24) : K2 n 24 = 0 := by
  unfold K2; rw [Nat.div_eq_of_lt h, Nat.zero_mul]
theorem wR (n : Nat) : K2 n 0 = n := by unfold K2; simp
def bS (l : List Int) (lv : Nat) (x : Nat) : Prop := ∃ m, m ∈ l ∧ x = K2 m.toNat lv
def w9 (l : List Int) (lv k : Nat) : List Int := (l.take k).filter fun m => !m.toNat.testBit lv
def wJ (l : List Int) (lv k : Nat) : List Int := (l.take k).filter fun m => m.toNat.testBit lv
theorem Bn {l : List Int} {k : Nat} (h : k < l.length) : l.take (k + 1) = l.take k ++ [l.getD k 0] := by
  rw [List.take_add_one, List.getD_eq_getElem?_getD, List.getElem?_eq_getElem h]; rfl
theorem Jw {l : List Int} {lv k : Nat} (h : k < l.length) (hb : (l.getD k 0).toNat.testBit lv = true) : wJ l lv k ++ [l.getD k 0] = wJ l lv (k + 1) ∧ w9 l lv k = w9 l lv (k + 1) := by
  unfold wJ w9
  rw [Bn h, List.filter_append, List.filter_append]
  simp only [List.filter_cons, List.filter_nil, hb, Bool.not_true, if_true]
  simp
theorem I4 {l : List Int} {lv k : Nat} (h : k < l.length) (hb : ¬ (l.getD k 0).toNat.testBit lv = true) : w9 l lv k ++ [l.getD k 0] = w9 l lv (k + 1) ∧ wJ l lv k = wJ l lv (k + 1) := by
  have hb2 : (l.getD k 0).toNat.testBit lv = false := Bool.eq_false_iff.2 hb
  unfold wJ w9
  rw [Bn h, List.filter_append, List.filter_append]
  simp only [List.filter_cons, List.filter_nil, hb2, Bool.not_false, if_true]
  simp
theorem HD (l : List Int) (lv : Nat) : ∀ k, (w9 l lv k).length + (wJ l lv k).length = (l.take k).length := fun k => by
  unfold w9 wJ
  generalize l.take k = q
  induction q with
  | nil => rfl
  | cons a q ih =>
    simp only [List.filter_cons]
    cases a.toNat.testBit lv <;> simp <;> omega
theorem L8 {l : List Int} {lv k : Nat} {m : Int} (h : m ∈ w9 l lv k) : m ∈ l := List.mem_of_mem_take (List.mem_filter.1 h).1
theorem Mn {l : List Int} {lv k : Nat} {m : Int} (h : m ∈ wJ l lv k) : m ∈ l := List.mem_of_mem_take (List.mem_filter.1 h).1
theorem IQ (l : List Int) (lv x : Nat) : up lv (bS (w9 l lv l.length) (lv + 1)) (bS (wJ l lv l.length) (lv + 1)) x ↔ bS l lv x := by
  unfold up bS w9 wJ
  rw [List.take_length]
  simp only [List.mem_filter]
  constructor
  · rintro (⟨m, ⟨h1, h2⟩, rfl⟩ | ⟨y, ⟨m, ⟨h1, h2⟩, rfl⟩, rfl⟩)
    · refine ⟨m, h1, ?_⟩
      have h3 : m.toNat.testBit lv = false := by simpa using h2
      rw [Df m.toNat lv, h3]; rfl
    · refine ⟨m, h1, ?_⟩
      rw [Df m.toNat lv, h2]; rfl
  · rintro ⟨m, h1, rfl⟩
    cases hb : m.toNat.testBit lv with
    | true => exact .inr ⟨_, ⟨m, ⟨h1, hb⟩, rfl⟩, by rw [Df m.toNat lv, hb]; rfl⟩
    | false => exact .inl ⟨m, ⟨h1, by rw [hb]; rfl⟩, by rw [Df m.toNat lv, hb]; rfl⟩
def IW : Nat → Nat → Nat → Nat
  | 0, _, _ => 0
  | n + 1, lv, m => (if m.testBit lv = true then 1 else 0) + IW n (lv + 1) m
def t3 (lv : Nat) : List Int → Nat
  | [] => 0
  | m :: l => IW (24 - lv) lv m.toNat + t3 lv l
theorem AM {lv : Nat} (h24 : lv < 24) (l : List Int) : t3 lv l = t3 (lv + 1) (l.filter fun m => !m.toNat.testBit lv) + t3 (lv + 1) (l.filter fun m => m.toNat.testBit lv) + (l.filter fun m => m.toNat.testBit lv).length := by
  induction l with
  | nil => rfl
  | cons m l ih =>
    obtain ⟨n, hn⟩ : ∃ n, 24 - lv = n + 1 := ⟨24 - lv - 1, by omega⟩
    have e : 24 - (lv + 1) = n := by omega
    have h1 : t3 lv (m :: l) = (if m.toNat.testBit lv = true then 1 else 0) + IW n (lv + 1) m.toNat + t3 lv l := by rw [t3, hn, IW]
    rw [h1, ih]
    cases hb : m.toNat.testBit lv
    · simp only [List.filter_cons, hb, Bool.not_false, if_true, Bool.false_eq_true, if_false, t3, e]; omega
    · simp only [List.filter_cons, hb, Bool.not_true, if_true, Bool.false_eq_true, if_false, t3, e, List.length_cons]; omega
theorem HX : ∀ (l : List Int), t3 0 l ≤ 24 * l.length
  | [] => Nat.zero_le _
  | m :: l => by
    have ih := HX l
    have h1 : ∀ n lv, IW n lv m.toNat ≤ n := fun n => by
      induction n with
      | zero => intro lv; exact Nat.zero_le _
      | succ n ih => intro lv; have := ih (lv + 1); rw [IW]; split <;> omega
    have h2 := h1 (24 - 0) 0
    rw [t3, List.length_cons, Nat.mul_add, Nat.mul_one]
    omega
theorem EG {ns ns1 ns2 ns3 : List Nd} {l : List Int} {R lv low high id : Nat} {er : Int} (h2w : Wf ns2) (h24 : lv < 24) (hl : 1 ≤ l.length)
    (g1 : jj ns ns1 R (t3 (lv + 1) (w9 l lv l.length)) (lv + 1) (bS (w9 l lv l.length) (lv + 1)) low 0) (g2 : jj ns1 ns2 R (t3 (lv + 1) (wJ l lv l.length)) (lv + 1) (bS (wJ l lv l.length) (lv + 1)) high 0)
    (g3 : jj ns2 ns3 R (min high 1) lv (up lv (M ns2 low) (M ns2 high)) id er) : jj ns ns3 R (t3 lv l) lv (bS l lv) id er := by
  obtain ⟨v1, _, m1⟩ := g1.ok rfl
  obtain ⟨v2, _, m2⟩ := g2.ok rfl
  refine ((g1.then' g2 (Nat.le_refl _)).then' g3 (Nat.le_refl _)).weak ?_ fun x => ?_
  · have hs := AM h24 l
    have ew : w9 l lv l.length = l.filter fun m => !m.toNat.testBit lv := by unfold w9; rw [List.take_length]
    have ei : wJ l lv l.length = l.filter fun m => m.toNat.testBit lv := by unfold wJ; rw [List.take_length]
    rw [← ew, ← ei] at hs
    by_cases h0 : high = 0
    · subst h0; omega
    · obtain ⟨y, hy⟩ := io h2w high v2 h0
      obtain ⟨m, hm, _⟩ := (m2 y).1 hy
      have := List.length_pos_of_mem hm
      omega
  · rw [← IQ l lv x, show M ns2 low = bS (w9 l lv l.length) (lv + 1) by rw [iy g2.pre v1]; exact fz m1, show M ns2 high = bS (wJ l lv l.length) (lv + 1) from fz m2]
theorem Hd {l : List Int} {lv : Nat} (h24 : lv < 24) : t3 (lv + 1) (w9 l lv l.length) + t3 (lv + 1) (wJ l lv l.length) ≤ t3 lv l := by
  unfold w9 wJ
  rw [List.take_length, AM h24 l]
  omega
theorem I8 {ns : List Nd} {l : List Int} {lv : Nat} (h : ¬ (1 ≤ l.length)) (x : Nat) : x ∈ dN ns 0 ↔ bS l lv x := by
  rw [mn]
  have : l = [] := List.eq_nil_of_length_eq_zero (by omega)
  subst this
  exact ⟨fun h => (by cases h), fun ⟨m, h, _⟩ => (by cases h)⟩
theorem Jx {ns : List Nd} {l : List Int} (h : 1 ≤ l.length) (hm : ∀ m, m ∈ l → 0 ≤ m ∧ m < 16777216) (x : Nat) : x ∈ dN ns 1 ↔ bS l 24 x := by
  rw [l7, List.mem_singleton]
  constructor
  · rintro rfl
    obtain ⟨m, hm2⟩ := List.exists_mem_of_length_pos (show 0 < l.length by omega)
    exact ⟨m, hm2, (Ir (by have := hm m hm2; omega)).symm⟩
  · rintro ⟨m, h2, rfl⟩
    exact Ir (by have := hm m h2; omega)
theorem H0 {ns ns' : List Nd} (h : Wf ns') {id a : Nat} (hid : id < ns'.length + 2) (hs : ∀ x, x ∈ dN ns' id → x ∈ dN ns a) : (dN ns' id).length ≤ (dN ns a).length := iP (jg h id hid) hs
def NP (ns : List Nd) (id : Int) : Int := if m3 ns id = true then (((dN ns id.toNat).length : Nat) : Int) else 0
theorem IC {ns : List Nd} {id : Nat} (h : id < ns.length + 2) : NP ns (id : Int) = (((dN ns id).length : Nat) : Int) := by
  unfold NP
  rw [if_pos (Bu.2 (by omega)), Int.toNat_natCast]
def x8 (l : List Int) : Bool := l.all fun m => decide (0 ≤ m ∧ m < 16777216)
theorem pG {l : List Int} : x8 l = true ↔ ∀ m, m ∈ l → 0 ≤ m ∧ m < 16777216 := by
  unfold x8
  rw [List.all_eq_true]
  exact ⟨fun h m hm => of_decide_eq_true (h m hm), fun h m hm => decide_eq_true (h m hm)⟩
theorem K1 {l : List Int} {k : Nat} (hk : k < l.length) (h : l.getD k 0 < 0 ∨ 16777216 ≤ l.getD k 0) : x8 l = false := Bool.eq_false_iff.2 fun q => by
  have := pG.1 q _ (dS (d := 0) hk)
  omega
theorem Kb {l : List Int} {k : Nat} (hk : k = l.length) (h : ∀ q, q < k → 0 ≤ l.getD q 0 ∧ l.getD q 0 < 16777216) : x8 l = true := pG.2 fun m hm => by
  obtain ⟨j, hj, rfl⟩ := List.getElem_of_mem hm
  have := h j (by omega)
  rwa [List.getD_eq_getElem?_getD, List.getElem?_eq_getElem hj] at this
def PE (Ta Tn : TypeId) (N ba bm R : Nat) (w : World) (ns : List Nd) (ok : Bool) (c l : Nat) (S : Nat → Prop) (v : Value) (w' : World) : Prop :=
  ∃ (ns' : List Nd) (id : Nat) (er : Int), v = .tuple #[.int .i64 (id : Int), .int .i64 er] ∧ Dx Tn N [ba, bm] w w' ∧ fy Ta Tn N ba bm R w' ns' ∧ ((ok = true ∧ jj ns ns' R c l S id er) ∨ (ok = false ∧ ns' = ns ∧ id = 0 ∧ er = 1))
end
end
section
section
open Go Go.RowKit
theorem PU {b : Bool} (h : b = true) : Value.bool true = .bool b := by rw [h]
theorem PV {b : Bool} (h : ¬ b = true) : Value.bool false = .bool b := by rw [Bool.eq_false_iff.2 h]
def FA (l : List Int) : Prop := l.Pairwise fun a b => a < b
theorem x7 : ∀ {a b : List Int}, FA a → FA b → (∀ x, x ∈ a ↔ x ∈ b) → a = b
 | [], [], _, _, _ => rfl
 | [], b :: bs, _, _, h => by have := (h b).2 (List.mem_cons_self ..); cases this
 | a :: aq, [], _, _, h => by have := (h a).1 (List.mem_cons_self ..); cases this
 | a :: aq, b :: bs, ha, hb, h => by
  obtain ⟨a1, a2⟩ := List.pairwise_cons.1 ha
  obtain ⟨b1, b2⟩ := List.pairwise_cons.1 hb
  have e : a = b := by
   rcases List.mem_cons.1 ((h a).1 (List.mem_cons_self ..)) with e | k
   ·exact e
   ·rcases List.mem_cons.1 ((h b).2 (List.mem_cons_self ..)) with e | q
    ·exact e.symm
    ·have := a1 b q
     have := b1 a k
     omega
  subst e
  rw [x7 a2 b2 (fun x => ⟨fun k => ?_, fun k => ?_⟩)]
  ·rcases List.mem_cons.1 ((h x).1 (List.mem_cons_of_mem _ k)) with e | q
   ·have := a1 x k; omega
   ·exact q
  ·rcases List.mem_cons.1 ((h x).2 (List.mem_cons_of_mem _ k)) with e | q
   ·have := b1 x k; omega
   ·exact q
theorem FA.nodup {l : List Int} (h : FA l) : l.Nodup := h.imp (fun h e => by omega)
def ro : List Int → Int → List Int
 | [], m => [m]
 | x :: xs, m => if x < m then x :: ro xs m else if x = m then x :: xs else m :: x :: xs
theorem sC {m x : Int} : ∀ {l : List Int}, x ∈ ro l m ↔ x ∈ l ∨ x = m
 | [] => by simp [ro]
 | y :: ys => by
  rw [ro]
  split
  ·rw [List.mem_cons, sC, List.mem_cons, or_assoc]
  ·split
   ·rename_i h; subst h
    exact ⟨.inl, fun h => h.elim _root_.id fun e => by rw [e]; exact List.mem_cons_self ..⟩
   ·rw [List.mem_cons]
    exact ⟨fun h => h.elim .inr .inl, fun h => h.elim .inr .inl⟩
theorem xz {m : Int} : ∀ {l : List Int}, FA l → FA (ro l m)
 | [], _ => List.pairwise_singleton _ _
 | y :: ys, h => by
  obtain ⟨h1, h2⟩ := List.pairwise_cons.1 h
  rw [ro]
  split
  ·refine List.pairwise_cons.2 ⟨fun z hz => ?_, xz h2⟩
   rcases sC.1 hz with hz | rfl
   ·exact h1 z hz
   ·assumption
  ·split
   ·exact h
   ·refine List.pairwise_cons.2 ⟨fun z hz => ?_, h⟩
    rcases List.mem_cons.1 hz with rfl | hz
    ·omega
    ·have := h1 z hz; omega
theorem Fe (l : List Int) (m : Int) : (ro l m).length ≤ l.length + 1 := by
 induction l with
 | nil => exact Nat.le_refl _
 | cons x xs ih =>
  rw [ro]
  split
  ·simp only [List.length_cons]; omega
  ·split <;> simp
def ya (l : List Int) : Nat → List Int
 | 0 => []
 | k + 1 => ro (ya l k) (l.getD k 0)
def JT (l : List Int) : List Int := ya l l.length
theorem A5 (l : List Int) : ∀ k, FA (ya l k)
 | 0 => List.Pairwise.nil
 | k + 1 => xz (A5 l k)
theorem zM (l : List Int) : ∀ k, (ya l k).length ≤ k
 | 0 => Nat.le_refl _
 | k + 1 => by
  have h1 := zM l k
  have h2 := Fe (ya l k) (l.getD k 0)
  rw [ya]; omega
theorem Ax {l : List Int} {x : Int} : ∀ k, k ≤ l.length → (x ∈ ya l k ↔ x ∈ l.take k)
 | 0, _ => by simp [ya]
 | k + 1, hk => by
  rw [ya, sC, Ax k (by omega), Bn (by omega), List.mem_append, List.mem_singleton]
theorem tX {l : List Int} {x : Int} : x ∈ JT l ↔ x ∈ l := by
 unfold JT
 rw [Ax _ (Nat.le_refl _), List.take_length]
theorem yC (l : List Int) : FA (JT l) := A5 l _
theorem Kn (l : List Int) : (JT l).length ≤ l.length := zM l _
theorem Mw {l a : List Int} (h : FA a) (hm : ∀ x, x ∈ a ↔ x ∈ l) : a = JT l := x7 h (yC l) fun x => by rw [hm, tX]
theorem wE {l : List Int} (h : l.Nodup) : (JT l).length = l.length := by
 have key : ∀ {l1 l2 : List Int}, l1.Nodup → (∀ x, x ∈ l1 → x ∈ l2) → l1.length ≤ l2.length := by
  intro l1
  induction l1 with
  | nil => intro l2 _ _; exact Nat.zero_le _
  | cons x xs ih =>
   intro l2 hn hs
   obtain ⟨h1, h2⟩ := List.nodup_cons.1 hn
   have hx := hs x (List.mem_cons_self ..)
   have := ih (l2 := l2.erase x) h2 (fun y hy => (List.mem_erase_of_ne (fun (e : y = x) => h1 (e ▸ hy))).2 (hs y (List.mem_cons_of_mem _ hy)))
   rw [List.length_erase_of_mem hx] at this
   have hp := List.length_pos_of_mem hx
   rw [List.length_cons]; omega
 have h1 := key h (fun x hx => tX.2 hx)
 have h2 := Kn l
 omega
def qd (ns : List Nd) (f : Nat) : List Int := JT ((dN ns f).map fun x : Nat => (x : Int))
theorem rl {ns : List Nd} {f : Nat} {x : Int} : x ∈ qd ns f ↔ ∃ y : Nat, y ∈ dN ns f ∧ x = (y : Int) := by
 unfold qd
 rw [tX, List.mem_map]
 exact ⟨fun ⟨y, h1, h2⟩ => ⟨y, h1, h2.symm⟩, fun ⟨y, h1, h2⟩ => ⟨y, h1, h2.symm⟩⟩
theorem HY {ns : List Nd} (h : Wf ns) {f : Nat} (hf : f < ns.length + 2) : (qd ns f).length = (dN ns f).length := by
 unfold qd
 rw [wE, List.length_map]
 exact List.pairwise_map.2 ((jg h f hf).imp (fun hne e => hne (by omega)))
end
section
open Go Go.RowKit
structure Ex (ns ns' : List Nd) (c : Nat) (S : Nat → Prop) (id : Nat) : Prop where
 v : id < ns'.length + 2
 mem : ∀ x, x ∈ dN ns' id ↔ S x
 pre : ns <+: ns'
 cost : ns'.length ≤ ns.length + c
theorem jj.valid {ns ns' : List Nd} {R c l : Nat} {S : Nat → Prop} {id : Nat} {er : Int} (g : jj ns ns' R c l S id er) : id < ns'.length + 2 := by
 rcases g.res with ⟨_, h2, _⟩ | ⟨_, h2, _⟩ <;> omega
theorem Ex.old {ns ns' : List Nd} {c : Nat} {S : Nat → Prop} {id f : Nat} (g : Ex ns ns' c S id) (h : f < ns.length + 2) : f < ns'.length + 2 ∧ dN ns' f = dN ns f := ⟨by have := fU g.pre; omega, gx g.pre h⟩
theorem FP {ns ns' : List Nd} (h : Wf ns') {id a b : Nat} (hid : id < ns'.length + 2) (hs : ∀ x, x ∈ dN ns' id → x ∈ dN ns a ∨ x ∈ dN ns b) : (dN ns' id).length ≤ (dN ns a).length + (dN ns b).length := by
 have := iP (l2 := dN ns a ++ dN ns b) (jg h id hid) (fun x hx => List.mem_append.2 (hs x hx))
 rwa [List.length_append] at this
def Bm (T : TypeId) (w : World) (v : Value) (l : List Int) : Prop := l ≠ [] → ∃ c fr, w.heap[r8 v]? = some (.cells c T fr)
section
variable {T Ta Tn : TypeId} {N ba bm R : Nat} {w w' : World} {v : Value} {l : List Int} {ns : List Nd}
theorem Bm.own (h : dh eb 1 T w N v l) : Bm T w v l := fun hne => by
 obtain ⟨h1, h2 | ⟨g, cap, cur, h3, hg, hh, r⟩⟩ := h
 ·exact absurd (List.eq_nil_of_length_eq_zero h2.2) hne
 ·subst h3
  exact ⟨_, _, hh⟩
theorem Bm.ext (h : eo w w') (k : Bm T w v l) : Bm T w' v l := fun hne => by
 obtain ⟨c, fr, hc⟩ := k hne
 exact ⟨c, fr, by rw [Below.block h _ (iA hc)]; exact hc⟩
theorem Bm.blk (D : fy Ta Tn N ba bm R w ns) (hx : Dx Tn N [ba, bm] w w') (k : Bm T w v l) (hTa : T ≠ Ta) (hTn : T ≠ Tn) (hne : l ≠ []) : w'.heap[r8 v]? = w.heap[r8 v]? := by
 obtain ⟨c, fr, hc⟩ := k hne
 obtain ⟨nv, h1, h2⟩ := D.out
 obtain ⟨f, ck, hf⟩ := D.hm
 refine hx.block _ (iA hc) (.inr ⟨?_, fun c' fr' e => ?_⟩)
 ·have n1 : r8 v ≠ ba := fun e => by
   have h3 : w.heap[ba]? = _ := h1
   rw [e, h3] at hc
   simp only [Option.some.injEq, Obj.cells.injEq] at hc
   exact hTa hc.2.1.symm
  have n2 : r8 v ≠ bm := fun e => by rw [e, hf.heap] at hc; cases hc
  simp [n1, n2]
 ·rw [hc] at e
  simp only [Option.some.injEq, Obj.cells.injEq] at e
  exact hTn e.2.1
theorem Bm.dx (D : fy Ta Tn N ba bm R w ns) (hx : Dx Tn N [ba, bm] w w') (k : Bm T w v l) (hTa : T ≠ Ta) (hTn : T ≠ Tn) : Bm T w' v l := fun hne => by
 rw [Bm.blk D hx k hTa hTn hne]
 exact k hne
theorem dO.dx (D : fy Ta Tn N ba bm R w ns) (hx : Dx Tn N [ba, bm] w w') (k : Bm T w v l) (hs : dO eb 1 w v l) (hTa : T ≠ Ta) (hTn : T ≠ Tn) : dO eb 1 w' v l := by
 have hs' : Sl w 1 v l.length (l.flatMap eb) := hs
 refine ⟨hs'.form, hs'.len, fun j u hu => ?_⟩
 have hne : l ≠ [] := fun e => by subst e; simp at hu
 have h1 := hs'.cell j u hu
 have e := Bm.blk D hx k hTa hTn hne
 unfold World.cell? at h1 ⊢
 rw [e]; exact h1
theorem Bm.part (k : Bm T w v l) (hs : dO eb 1 w v l) {i j m : Nat} {l2 : List Int} (hj : j ≤ m) (hl : l2.length = j - i) (hl0 : l2 ≠ [] → l ≠ []) : Bm T w (fS 1 v i j m) l2 := fun hne => by
 obtain ⟨c, fr, hc⟩ := k (hl0 hne)
 have hpos : 0 < l2.length := List.length_pos_iff.2 hne
 have hmi : ¬ m = i := by omega
 obtain ⟨hv, hn, h0, ha⟩ := Sl.eqv hs
 cases hA : x5 v with
 | none =>
  have := h0 hA
  have : l = [] := List.eq_nil_of_length_eq_zero (by omega)
  exact absurd this (hl0 hne)
 | some a =>
  have hb : r8 (fS 1 v i j m) = r8 v := by
   have e1 : r8 v = a.block := by rw [hv, hA]; rfl
   rw [e1]
   unfold fS
   rw [if_neg hmi, hA]
   show (a.add (i * 1)).block = a.block
   unfold Addr.add
   split <;> rfl
  rw [hb]
  exact ⟨c, fr, hc⟩
end
def HL (F G : List Int) (b : Bool) : List Int := F.filter fun x => decide (x ∈ G) == b
theorem Cd {l : List Int} (h : FA l) (p : Int → Bool) : FA (l.filter p) := List.Pairwise.filter p h
theorem MA {ns : List Nd} {a : Nat} {f : List Int} (hf : x8 f = true) (hm : ∀ x, x ∈ dN ns a ↔ bS f 0 x) : qd ns a = JT f := by
 unfold qd
 refine Mw (yC _) fun x => ?_
 rw [tX, List.mem_map]
 have h0 := pG.1 hf
 constructor
 ·rintro ⟨y, hy, rfl⟩
  obtain ⟨m, h1, h2⟩ := (hm y).1 hy
  rw [wR] at h2
  have := h0 m h1
  rw [h2, Int.toNat_of_nonneg this.1]; exact h1
 ·intro h
  have := h0 x h
  exact ⟨x.toNat, (hm _).2 ⟨x, h, (wR _).symm⟩, Int.toNat_of_nonneg this.1⟩
theorem Au (ns : List Nd) (a : Nat) : FA (qd ns a) := yC _
theorem vP {ns : List Nd} {b y : Nat} : ((y : Nat) : Int) ∈ qd ns b ↔ y ∈ dN ns b := by
 rw [rl]
 exact ⟨fun ⟨z, h1, h2⟩ => by rw [show y = z by omega]; exact h1, fun h => ⟨y, h, rfl⟩⟩
theorem Nl {ns ns' : List Nd} {a b u : Nat} {F G : List Int} (ha : qd ns a = F) (hb : qd ns b = G) (hu : ∀ x, x ∈ dN ns' u ↔ sc.res (M ns a) (M ns b) x) : qd ns' u = HL F G false := by
 subst ha hb
 refine x7 (Au _ _) (Cd (Au _ _) _) fun x => ?_
 unfold HL
 rw [List.mem_filter, rl]
 constructor
 ·rintro ⟨y, hy, rfl⟩
  obtain ⟨h1, h2⟩ := (hu y).1 hy
  exact ⟨vP.2 h1, by rw [decide_eq_false (fun k => h2 (vP.1 k))]; rfl⟩
 ·rintro ⟨h1, h2⟩
  obtain ⟨y, hy, rfl⟩ := rl.1 h1
  have h3 : ¬ ((y : Nat) : Int) ∈ qd ns b := by simpa using h2
  exact ⟨y, (hu y).2 ⟨hy, fun k => h3 (vP.2 k)⟩, rfl⟩
theorem He {ns : List Nd} (h : Wf ns) {a b : Nat} (ha : a < ns.length + 2) (hb : b < ns.length + 2) : decide ((a : Int) = (b : Int)) = decide (qd ns a = qd ns b) := by
 by_cases e : a = b
 ·subst e; rw [decide_eq_true rfl, decide_eq_true rfl]
 ·rw [decide_eq_false (by omega), decide_eq_false]
  intro hs
  exact e (Iq h a ha b hb fun x => by rw [← vP, ← vP, hs])
end
section
open Go Go.RowKit
structure Is (ns : List Nd) (a : Nat) (F : List Int) : Prop where
 v : a < ns.length + 2
 s : qd ns a = F
section
variable {ns ns' : List Nd} {a b id R c l : Nat} {A B f g : List Int} {er : Int}
theorem Is.pre (h : Is ns a A) (p : ns <+: ns') : Is ns' a A := by
 have e := h.s
 refine ⟨by have := fU p; have := h.v; omega, ?_⟩
 unfold qd at e ⊢
 rw [gx p h.v]
 exact e
theorem Is.len (h : Is ns a A) (hw : Wf ns) : (dN ns a).length = A.length := by rw [← h.s, HY hw h.v]
theorem Is.cnt (h : Is ns a A) (hw : Wf ns) : NP ns (a : Int) = (A.length : Int) := by
 rw [← h.len hw]
 exact IC h.v
theorem Is.same (h : Is ns a A) (k : Is ns b B) (hw : Wf ns) : decide ((a : Int) = (b : Int)) = decide (A = B) := by rw [He hw h.v k.v, h.s, k.s]
theorem Is.item (h : Is ns a A) : ∀ x, x ∈ A → 0 ≤ x := fun x hx => by
 rw [← h.s] at hx
 obtain ⟨y, _, rfl⟩ := rl.1 hx
 omega
theorem Ex.of (q : Ex ns ns' c (bS f 0) id) (hf : x8 f = true) : Is ns' id (JT f) := ⟨q.v, MA hf q.mem⟩
theorem Ex.le (q : Ex ns ns' c (sc.res (M ns a) (M ns b)) id) (ha : Is ns a A) (hb : Is ns b B) : Is ns' id (HL A B false) := ⟨q.v, Nl ha.s hb.s q.mem⟩
end
section
variable {ns ns' : List Nd} {a b id R c l n : Nat} {A B f g : List Int} {er : Int}
theorem LA {ok : Bool} {S : Nat → Prop} (q : (ok = true ∧ jj ns ns' R c l S id er) ∨ (ok = false ∧ ns' = ns ∧ id = 0 ∧ er = 1)) (h : ok = true) : jj ns ns' R c l S id er := by
 rcases q with q | q
 ·exact q.2
 ·rw [h] at q; exact absurd q.1 (by decide)
theorem Mx {j : Nat} (hj : j < 24) : x8 [((2 ^ j : Nat) : Int)] = true := pG.2 fun m hm => by
 rw [List.mem_singleton.1 hm]
 have h1 : 2 ^ j ≤ 8388608 := by have := Nat.pow_le_pow_right (show 0 < 2 by decide) (show j ≤ 23 by omega); simpa using this
 have h2 := Nat.two_pow_pos j
 omega
end
theorem BZ (u0 u1 u2 : Value) (z : Array Value) (h0 : u0.cells = #[u0]) (h1 : u1.cells = #[u1]) (h2 : u2.cells = #[u2]) (hz : z.size = 3) : Instr.fill (fun i => some (i * 1, 1)) z [(0, u0), (1, u1), (2, u2)] = some #[u0, u1, u2] := by
 rw [nn 1 0 u0 _ z (by rw [h0]; rfl) (by omega), nn 1 1 u1 _ _ (by rw [h1]; rfl) (by simp [h0]; omega), nn 1 2 u2 _ _ (by rw [h2]; rfl) (by simp [h0, h1]; omega), Instr.fill, h0, h1, h2]
 obtain ⟨l⟩ := z
 match l, hz with
 | [a, b, c], _ => simp
section
variable {P : Program} {f : Nat → Value} {w w' : World} {d : Option Nat} {ty : TypeId} {ps : String} {af : Array Edge} {g : Option (Nat × Bool)} {t e T : TypeId} {by_ N sz b : Nat} {K : Value → World → Prop}
theorem Mo {x0 x1 x2 : Operand} {u0 u1 u2 : Value} (hx0 : dK f x0 = u0) (hx1 : dK f x1 = u1) (hx2 : dK f x2 = u2) (hT : fI P t = some (e, 1, by_)) (hz : (eH P e).map (fun z => z.cells.size) = some 1) (h0 : u0.cells = #[u0]) (h1 : u1.cells = #[u1]) (h2 : u2.cells = #[u2])
  (hK : ∀ b w', b = w.heap.size → eo w w' → At w' b #[u0, u1, u2] e → K (.slice (some ⟨b, 0, none⟩) 3 3) w') : Yd P ⟨d, .buildSlice t 3 #[(0, x0), (1, x1), (2, x2)], ty, ps, af, g⟩ f w K := by
 obtain ⟨z, hz, hzs⟩ := Option.map_eq_some_iff.1 hz
 unfold eH at hz
 obtain ⟨i, hi, hzz⟩ := Option.bind_eq_some_iff.1 hz
 unfold fI at hT
 cases hun : P.underlying t with
 | none => simp [hun] at hT
 | some desc =>
  cases desc <;> simp [hun] at hT
  rename_i e'
  obtain ⟨i', hi', rfl, q1, rfl⟩ := hT
  obtain rfl : i' = i := by rw [hi] at hi'; exact (Option.some.inj hi').symm
  refine .val (w' := w.alloc (.cells #[u0, u1, u2] e')) ?_ (hK w.heap.size _ rfl (eo.alloc w _) (ni w _ _))
  have hf := BZ u0 u1 u2 ((Array.range (3 * 1)).map (z.cells[· % z.cells.size]!)) h0 h1 h2 (by simp)
  simp only [Nat.mul_one] at hf
  simp [execOp, hx0, hx1, hx2, Instr.buildSlice, run_underlying hun, sizeOf, typeInfo, hi, q1, zeroValue, hzz, newRow, hf]
end
end
end
end Go.Proofs.YteimkklmmanncaaGreat
