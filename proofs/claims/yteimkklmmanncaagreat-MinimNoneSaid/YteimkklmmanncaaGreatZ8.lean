/- Families as diagrams: nodes, the members of an id, what is right, and that a family has one id. No program in it. The memory of an arena, and what a deed with it leaves as it was; outcomes of deeds. No program in it. What deeds with two families come to: item by item; how many nodes they may need. N -/
import Derived.Test.YteimkklmmanncaaGreatDx
namespace Go.Proofs.YteimkklmmanncaaGreat
set_option linter.unusedVariables false
set_option linter.unusedSimpArgs false
section
section
open Go Go.RowKit
structure Nd where
  l : Nat
  lo : Nat
  hi : Nat
  deriving DecidableEq, Repr
def mP : Nd := ⟨0, 0, 0⟩
def OY (n : Nd) : List Value := [.int .i64 (n.l : Int), .int .i64 (n.lo : Int), .int .i64 (n.hi : Int)]
theorem nF (n : Nd) : (OY n).length = 3 := rfl
def tk (n : Nd) : Value := .agg #[.int .i64 (n.l : Int), .int .i64 (n.lo : Int), .int .i64 (n.hi : Int)]
theorem Bs (a b : Nd) (h : tk a = tk b) : a = b := by
  cases a; cases b
  simp only [tk, Value.agg.injEq, Array.mk.injEq, List.cons.injEq, Value.int.injEq, true_and, and_true] at h
  obtain ⟨h1, h2, h3⟩ := h
  simp only [Nd.mk.injEq]
  omega
def ye (t : List (List Nat)) (n : Nd) : List (List Nat) := t ++ [t.getD n.lo [] ++ (t.getD n.hi []).map fun x => x + 2 ^ n.l]
def Pc (ns : List Nd) : List (List Nat) := ns.foldl ye [[], [0]]
def dQ (ns : List Nd) (id : Nat) : List Nat := (Pc ns).getD id []
theorem A4 (ns : List Nd) (n : Nd) : Pc (ns ++ [n]) = ye (Pc ns) n := by
  unfold Pc; rw [List.foldl_append]; rfl
theorem yl : ∀ (ns : List Nd) (t : List (List Nat)), (ns.foldl ye t).length = t.length + ns.length
  | [], t => rfl
  | n :: ns, t => by
    rw [List.foldl_cons, yl ns, ye, List.length_append, List.length_singleton, List.length_cons]; omega
theorem yJ (ns : List Nd) : (Pc ns).length = ns.length + 2 := by
  unfold Pc; rw [yl]; simp; omega
theorem xe {ns : List Nd} {n : Nd} {id : Nat} (h : id < ns.length + 2) : dQ (ns ++ [n]) id = dQ ns id := by
  unfold dQ
  rw [A4, ye, List.getD_eq_getElem?_getD, List.getElem?_append_left (by rw [yJ]; exact h), List.getD_eq_getElem?_getD]
theorem qT (ns : List Nd) (n : Nd) : dQ (ns ++ [n]) (ns.length + 2) = dQ ns n.lo ++ (dQ ns n.hi).map fun x => x + 2 ^ n.l := by
  unfold dQ
  rw [A4, ye, List.getD_eq_getElem?_getD, List.getElem?_append_right (by rw [yJ]; exact Nat.le_refl _), yJ, Nat.sub_self]
  rfl
theorem ry {id : Nat} : ∀ (r ns : List Nd), id < ns.length + 2 → dQ (ns ++ r) id = dQ ns id
  | [], ns, _ => by rw [List.append_nil]
  | n :: r, ns, h => by
    rw [show ns ++ n :: r = (ns ++ [n]) ++ r by simp, ry r (ns ++ [n]) (by simp; omega), xe h]
theorem gC {ns ns' : List Nd} {id : Nat} (hp : ns <+: ns') (h : id < ns.length + 2) : dQ ns' id = dQ ns id := by
  obtain ⟨r, rfl⟩ := hp
  exact ry r ns h
theorem mj (ns : List Nd) : dQ ns 0 = [] := ry ns [] (by decide)
theorem mu (ns : List Nd) : dQ ns 1 = [0] := ry ns [] (by decide)
def d8 (ns : List Nd) (id : Nat) : Nat := if id < 2 then 24 else (ns.getD (id - 2) mP).l
theorem kL {ns : List Nd} {id : Nat} (h : id < 2) : d8 ns id = 24 := if_pos h
theorem jF {ns : List Nd} (i : Nat) : d8 ns (i + 2) = (ns.getD i mP).l := if_neg (by omega)
theorem su {α : Type} {a b : List α} {d : α} {i : Nat} (hp : a <+: b) (h : i < a.length) : b.getD i d = a.getD i d := by
  obtain ⟨r, rfl⟩ := hp
  rw [List.getD_eq_getElem?_getD, List.getElem?_append_left h, List.getD_eq_getElem?_getD]
theorem gH {ns ns' : List Nd} {id : Nat} (hp : ns <+: ns') (h : id < ns.length + 2) : d8 ns' id = d8 ns id := by
  unfold d8
  by_cases h2 : id < 2
  · rw [if_pos h2, if_pos h2]
  · rw [if_neg h2, if_neg h2, su hp (by omega)]
def QR (ns : List Nd) (i : Nat) (n : Nd) : Prop := n.lo < i + 2 ∧ n.hi < i + 2 ∧ n.hi ≠ 0 ∧ n.l < d8 ns n.lo ∧ n.l < d8 ns n.hi ∧ n.l < 24
structure Wf (ns : List Nd) : Prop where
  nd : ns.Nodup
  ok : ∀ i, i < ns.length → QR ns i (ns.getD i mP)
theorem Wf.nil : Wf [] := ⟨List.nodup_nil, fun i h => by cases h⟩
theorem Wf.snoc {ns : List Nd} {n : Nd} (h : Wf ns) (hn : n ∉ ns) (hlo : n.lo < ns.length + 2) (hhi : n.hi < ns.length + 2) (h0 : n.hi ≠ 0) (l1 : n.l < d8 ns n.lo) (l2 : n.l < d8 ns n.hi) (h24 : n.l < 24) : Wf (ns ++ [n]) := by
  have hp : ns <+: ns ++ [n] := List.prefix_append _ _
  refine ⟨?_, fun i hi => ?_⟩
  · rw [List.nodup_append]
    exact ⟨h.nd, by simp, fun a ha b hb => by simp at hb; subst hb; exact fun e => hn (e ▸ ha)⟩
  · rw [List.length_append, List.length_singleton] at hi
    by_cases e : i < ns.length
    · obtain ⟨a1, a2, a3, a4, a5, a6⟩ := h.ok i e
      rw [su hp e]
      exact ⟨a1, a2, a3, by rw [gH hp (by omega)]; exact a4, by rw [gH hp (by omega)]; exact a5, a6⟩
    · obtain rfl : i = ns.length := by omega
      have e2 : (ns ++ [n]).getD ns.length mP = n := by
        rw [List.getD_eq_getElem?_getD, List.getElem?_append_right (Nat.le_refl _), Nat.sub_self]; rfl
      rw [e2]
      exact ⟨hlo, hhi, h0, by rw [gH hp hlo]; exact l1, by rw [gH hp hhi]; exact l2, h24⟩
section
variable {ns : List Nd}
theorem iz (h : Wf ns) {i : Nat} (hi : i < ns.length) : dQ ns (i + 2) = dQ ns (ns.getD i mP).lo ++ (dQ ns (ns.getD i mP).hi).map fun x => x + 2 ^ (ns.getD i mP).l := by
  obtain ⟨a1, a2, _⟩ := h.ok i hi
  have e : ns.take (i + 1) = ns.take i ++ [ns.getD i mP] := by
    rw [List.take_add_one, List.getD_eq_getElem?_getD, List.getElem?_eq_getElem hi]; rfl
  have hl : (ns.take i).length = i := by rw [List.length_take]; omega
  have hp : ns.take i <+: ns := List.take_prefix _ _
  have hp1 : ns.take (i + 1) <+: ns := List.take_prefix _ _
  rw [gC hp1 (by rw [List.length_take]; omega), e]
  have := qT (ns.take i) (ns.getD i mP)
  rw [hl] at this
  rw [this, ← gC hp (by rw [hl]; exact a1), ← gC hp (by rw [hl]; exact a2)]
theorem gi {x l : Nat} (h : 2 ^ (l + 1) ∣ x) : x.testBit l = false := by
  obtain ⟨k, rfl⟩ := h
  rw [Nat.testBit_eq_decide_div_mod_eq, show 2 ^ (l + 1) * k = 2 ^ l * (2 * k) by rw [Nat.pow_succ, Nat.mul_assoc], Nat.mul_div_cancel_left _ (Nat.two_pow_pos l)]
  simp
theorem jK {x l : Nat} (h : 2 ^ (l + 1) ∣ x) : (x + 2 ^ l).testBit l = true := by
  obtain ⟨k, rfl⟩ := h
  rw [Nat.testBit_eq_decide_div_mod_eq, show 2 ^ (l + 1) * k + 2 ^ l = 2 ^ l * (2 * k + 1) by rw [Nat.pow_succ, Nat.mul_add, Nat.mul_one, Nat.mul_assoc], Nat.mul_div_cancel_left _ (Nat.two_pow_pos l)]
  simp
theorem gN {a b x : Nat} (h : a < b) (hx : 2 ^ b ∣ x) : 2 ^ (a + 1) ∣ x := Nat.dvd_trans (Nat.pow_dvd_pow 2 h) hx
theorem Cj {l x : Nat} (h : 2 ^ (l + 1) ∣ x) : 2 ^ l ∣ x + 2 ^ l := Nat.dvd_add (Nat.dvd_trans (Nat.pow_dvd_pow 2 (Nat.le_succ l)) h) (Nat.dvd_refl _)
theorem PT {l x : Nat} (hl : l < 24) (h : 2 ^ (l + 1) ∣ x) (hx : x < 2 ^ 24) : x + 2 ^ l < 2 ^ 24 := by
  obtain ⟨k, rfl⟩ := h
  have e : 2 ^ 24 = 2 ^ (l + 1) * 2 ^ (23 - l) := by rw [← Nat.pow_add]; congr 1; omega
  rw [e] at hx ⊢
  have hk : k < 2 ^ (23 - l) := Nat.lt_of_mul_lt_mul_left hx
  have h1 : 2 ^ (l + 1) * (k + 1) ≤ 2 ^ (l + 1) * 2 ^ (23 - l) := Nat.mul_le_mul_left _ hk
  have h2 : 0 < 2 ^ l := Nat.two_pow_pos l
  have h3 : 2 ^ (l + 1) = 2 ^ l * 2 := Nat.pow_succ ..
  rw [Nat.mul_add, Nat.mul_one] at h1
  omega
theorem fe (h : Wf ns) : ∀ id, id < ns.length + 2 → ∀ x, x ∈ dQ ns id → 2 ^ d8 ns id ∣ x ∧ x < 2 ^ 24 := by
  intro id
  induction id using Nat.strongRecOn with
  | _ id ih =>
    intro hid x hx
    match id, ih, hid, hx with
    | 0, _, _, hx => rw [mj] at hx; cases hx
    | 1, _, _, hx =>
      rw [mu] at hx
      obtain rfl : x = 0 := by simpa using hx
      exact ⟨Nat.dvd_zero _, by decide⟩
    | i + 2, ih, hid, hx =>
      have hi : i < ns.length := by omega
      obtain ⟨a1, a2, a3, a4, a5, a6⟩ := h.ok i hi
      rw [iz h hi, List.mem_append, List.mem_map] at hx
      rw [jF]
      rcases hx with hx | ⟨y, hy, rfl⟩
      · obtain ⟨g1, g2⟩ := ih _ a1 (by omega) x hx
        exact ⟨Nat.dvd_trans (Nat.pow_dvd_pow 2 (Nat.le_of_lt a4)) g1, g2⟩
      · obtain ⟨g1, g2⟩ := ih _ a2 (by omega) y hy
        exact ⟨Cj (gN a5 g1), PT a6 (gN a5 g1) g2⟩
theorem iv (h : Wf ns) : ∀ id, id < ns.length + 2 → id ≠ 0 → ∃ x, x ∈ dQ ns id := by
  intro id
  induction id using Nat.strongRecOn with
  | _ id ih =>
    intro hid h0
    match id, ih, hid, h0 with
    | 0, _, _, h0 => exact absurd rfl h0
    | 1, _, _, _ => exact ⟨0, by rw [mu]; exact List.mem_cons_self ..⟩
    | i + 2, ih, hid, _ =>
      have hi : i < ns.length := by omega
      obtain ⟨a1, a2, a3, _⟩ := h.ok i hi
      obtain ⟨y, hy⟩ := ih _ a2 (by omega) a3
      exact ⟨_, by rw [iz h hi]; exact List.mem_append_right _ (List.mem_map.2 ⟨y, hy, rfl⟩)⟩
theorem jo (h : Wf ns) : ∀ id, id < ns.length + 2 → (dQ ns id).Nodup := by
  intro id
  induction id using Nat.strongRecOn with
  | _ id ih =>
    intro hid
    match id, ih, hid with
    | 0, _, _ => rw [mj]; exact List.nodup_nil
    | 1, _, _ => rw [mu]; simp
    | i + 2, ih, hid =>
      have hi : i < ns.length := by omega
      obtain ⟨a1, a2, a3, a4, a5, a6⟩ := h.ok i hi
      rw [iz h hi, List.nodup_append]
      refine ⟨ih _ a1 (by omega), ?_, fun x hx y hy e => ?_⟩
      · exact List.pairwise_map.2 ((ih _ a2 (by omega)).imp (fun hab e => hab (by omega)))
      · obtain ⟨z, hz, rfl⟩ := List.mem_map.1 hy
        have b1 := gi (gN a4 (fe h _ (by omega) x hx).1)
        have b2 := jK (gN a5 (fe h _ (by omega) z hz).1)
        rw [e, b2] at b1
        cases b1
theorem mE (h : Wf ns) {id : Nat} (hid : id < ns.length + 2) : d8 ns id ≤ 24 := by
  match id, hid with
  | 0, _ => exact Nat.le_refl _
  | 1, _ => exact Nat.le_refl _
  | i + 2, hid => rw [jF]; exact Nat.le_of_lt (h.ok i (by omega)).2.2.2.2.2
theorem np (h : Wf ns) {id : Nat} (hid : id < ns.length + 2) (h2 : 2 ≤ id) : d8 ns id < 24 := by
  obtain ⟨i, rfl⟩ : ∃ i, id = i + 2 := ⟨id - 2, by omega⟩
  rw [jF]; exact (h.ok i (by omega)).2.2.2.2.2
theorem G3 (h : Wf ns) : ∀ a, a < ns.length + 2 → ∀ b, b < ns.length + 2 → (∀ x, x ∈ dQ ns a ↔ x ∈ dQ ns b) → a = b := by
  have hne0 : ∀ b, b < ns.length + 2 → (∀ x, x ∈ dQ ns 0 ↔ x ∈ dQ ns b) → 0 = b := fun b hb hs => by
    by_cases e : b = 0
    · exact e.symm
    · obtain ⟨x, hx⟩ := iv h b hb e
      have := (hs x).2 hx
      rw [mj] at this; cases this
  have hhi : ∀ i, i < ns.length → ∃ y, y ∈ dQ ns (ns.getD i mP).hi ∧ y + 2 ^ (ns.getD i mP).l ∈ dQ ns (i + 2) := fun i hi => by
    obtain ⟨a1, a2, a3, _⟩ := h.ok i hi
    obtain ⟨y, hy⟩ := iv h _ (by omega) a3
    exact ⟨y, hy, by rw [iz h hi]; exact List.mem_append_right _ (List.mem_map.2 ⟨y, hy, rfl⟩)⟩
  have hne1 : ∀ i, i < ns.length → ¬ ∀ x, x ∈ dQ ns 1 ↔ x ∈ dQ ns (i + 2) := fun i hi hs => by
    obtain ⟨y, _, hy⟩ := hhi i hi
    have := (hs _).2 hy
    rw [mu] at this
    have h2 := Nat.two_pow_pos (ns.getD i mP).l
    have h3 := List.mem_singleton.1 this
    omega
  have hlev : ∀ i j, i < ns.length → j < ns.length → (ns.getD i mP).l < (ns.getD j mP).l → ¬ ∀ x, x ∈ dQ ns (i + 2) ↔ x ∈ dQ ns (j + 2) := fun i j hi hj hl hs => by
    obtain ⟨y, hy, hm⟩ := hhi i hi
    have g1 := (fe h _ (by omega) _ ((hs _).1 hm)).1
    rw [jF] at g1
    obtain ⟨a1, a2, a3, a4, a5, a6⟩ := h.ok i hi
    have b1 := gi (gN hl g1)
    rw [jK (gN a5 (fe h _ (by omega) y hy).1)] at b1
    cases b1
  intro a
  induction a using Nat.strongRecOn with
  | _ a ih =>
    intro ha b hb hs
    match a, b, ih, ha, hb, hs with
    | 0, b, _, _, hb, hs => exact hne0 b hb hs
    | a + 1, 0, _, ha, _, hs => exact (hne0 (a + 1) ha (fun x => (hs x).symm)).symm
    | 1, 1, _, _, _, _ => rfl
    | 1, j + 2, _, _, hb, hs => exact absurd hs (hne1 j (by omega))
    | i + 2, 1, _, ha, _, hs => exact absurd (fun x => (hs x).symm) (hne1 i (by omega))
    | i + 2, j + 2, ih, ha, hb, hs =>
      have hi : i < ns.length := by omega
      have hj : j < ns.length := by omega
      have hl : (ns.getD i mP).l = (ns.getD j mP).l := by
        rcases Nat.lt_trichotomy (ns.getD i mP).l (ns.getD j mP).l with k | k | k
        · exact absurd hs (hlev i j hi hj k)
        · exact k
        · exact absurd (fun x => (hs x).symm) (hlev j i hj hi k)
      obtain ⟨a1, a2, a3, a4, a5, a6⟩ := h.ok i hi
      obtain ⟨c1, c2, c3, c4, c5, c6⟩ := h.ok j hj
      have hlo : (ns.getD i mP).lo = (ns.getD j mP).lo := ih _ a1 (by omega) _ (by omega) fun x => by
        have hx := hs x
        rw [iz h hi, iz h hj, List.mem_append, List.mem_append, List.mem_map, List.mem_map] at hx
        constructor
        · intro k
          have b1 := gi (gN a4 (fe h _ (by omega) x k).1)
          rcases hx.1 (.inl k) with q | ⟨y, hy, rfl⟩
          · exact q
          · rw [hl, jK (gN c5 (fe h _ (by omega) y hy).1)] at b1; cases b1
        · intro k
          have b1 := gi (gN c4 (fe h _ (by omega) x k).1)
          rcases hx.2 (.inl k) with q | ⟨y, hy, rfl⟩
          · exact q
          · rw [← hl, jK (gN a5 (fe h _ (by omega) y hy).1)] at b1; cases b1
      have hhi2 : (ns.getD i mP).hi = (ns.getD j mP).hi := ih _ a2 (by omega) _ (by omega) fun x => by
        have hx := hs (x + 2 ^ (ns.getD i mP).l)
        rw [iz h hi, iz h hj, List.mem_append, List.mem_append, List.mem_map, List.mem_map] at hx
        constructor
        · intro k
          have b1 := jK (gN a5 (fe h _ (by omega) x k).1)
          rcases hx.1 (.inr ⟨x, k, rfl⟩) with q | ⟨y, hy, e⟩
          · have b2 := gi (gN c4 (fe h _ (by omega) _ q).1)
            rw [← hl, b1] at b2; cases b2
          · rw [hl] at e
            obtain rfl : y = x := by omega
            exact hy
        · intro k
          have b1 := jK (gN c5 (fe h _ (by omega) x k).1)
          rw [← hl] at b1
          rcases hx.2 (.inr ⟨x, k, by rw [hl]⟩) with q | ⟨y, hy, e⟩
          · rw [gi (gN a4 (fe h _ (by omega) _ q).1)] at b1; cases b1
          · obtain rfl : y = x := by omega
            exact hy
      have hn : ns.getD i mP = ns.getD j mP := by
        generalize ns.getD i mP = p at *
        generalize ns.getD j mP = q at *
        cases p; cases q
        simp only [Nd.mk.injEq]
        exact ⟨hl, hlo, hhi2⟩
      rw [List.getD_eq_getElem?_getD, List.getD_eq_getElem?_getD, List.getElem?_eq_getElem hi, List.getElem?_eq_getElem hj] at hn
      have := (List.getElem_inj h.nd).1 (show ns[i] = ns[j] from hn)
      omega
end
end
section
open Go Go.RowKit
def oZ (ns : List Nd) : List (Nd × Int) := ns.zipIdx.map fun p => (p.1, ((p.2 + 2 : Nat) : Int))
theorem sX (ns : List Nd) : (oZ ns).map (·.1) = ns := by
  unfold oZ
  rw [List.map_map]
  exact List.zipIdx_map_fst 0 ns
theorem Gs (ns : List Nd) : (oZ ns).length = ns.length := by unfold oZ; simp
theorem Fu (ns : List Nd) (n : Nd) : oZ (ns ++ [n]) = oZ ns ++ [(n, ((ns.length + 2 : Nat) : Int))] := by
  unfold oZ
  rw [List.zipIdx_append, List.map_append]
  simp
theorem JF {ns : List Nd} {n : Nd} (h : n ∉ ns) : g7 (oZ ns) n ((ns.length + 2 : Nat) : Int) = oZ (ns ++ [n]) := by
  unfold g7
  rw [sX, if_neg h, Fu]
theorem FJ {ns : List Nd} (hn : ns.Nodup) {n : Nd} {v : Int} (h : g6 (oZ ns) n = some v) : ∃ i, i < ns.length ∧ ns.getD i mP = n ∧ v = ((i + 2 : Nat) : Int) := by
  have hm := (md (by rw [sX]; exact hn)).1 h
  unfold oZ at hm
  obtain ⟨p, hp, e⟩ := List.mem_map.1 hm
  simp only [Prod.mk.injEq] at e
  obtain ⟨e1, e2⟩ := e
  have h2 := List.mem_zipIdx hp
  refine ⟨p.2, by omega, ?_, e2.symm⟩
  rw [List.getD_eq_getElem?_getD, List.getElem?_eq_getElem (by omega), ← e1]
  have := h2.2.2
  simp only [Nat.sub_zero] at this
  simp [this]
theorem Fg {ns : List Nd} {n : Nd} (h : g6 (oZ ns) n = none) : n ∉ ns := by
  have := nD.1 h
  rwa [sX] at this
structure fD (Ta Tn : TypeId) (N ba bm R : Nat) (w : World) (ns : List Nd) : Prop where
  out : ∃ nv, At w ba #[.int .i64 (R : Int), nv, .map (some bm)] Ta ∧ dh OY 3 Tn w N nv ns
  hm : dR tk eK w bm (oZ ns)
  la : N ≤ ba
  lm : N ≤ bm
  wf : Wf ns
  room : ns.length ≤ R
  top : R ≤ 20000
section
variable {Ta Tn T T' : TypeId} {N N' ba bm R b sz : Nat} {xs : List Nat} {w w' W : World} {ns : List Nd} {c : Array Value} {v : Value}
theorem fD.ext (h : eo w w') (k : fD Ta Tn N ba bm R w ns) : fD Ta Tn N ba bm R w' ns := by
  obtain ⟨nv, h1, h2⟩ := k.out
  exact ⟨⟨nv, h.at h1, h.ow h2⟩, h.mapT k.hm, k.la, k.lm, k.wf, k.room, k.top⟩
theorem fD.mono (k : fD Ta Tn N ba bm R w ns) (h : N' ≤ N) : fD Ta Tn N' ba bm R w ns := by
  obtain ⟨nv, h1, h2⟩ := k.out
  exact ⟨⟨nv, h1, h2.mono h⟩, k.hm, Nat.le_trans h k.la, Nat.le_trans h k.lm, k.wf, k.room, k.top⟩
theorem fD.below (h : Go.RowKit.Below w.heap.size w W) (k : fD Ta Tn N ba bm R w ns) : fD Ta Tn N ba bm R W ns := by
  obtain ⟨nv, h1, h2⟩ := k.out
  exact ⟨⟨nv, Below.atI h h1, Below.ow h h2⟩, Below.mapI h k.hm, k.la, k.lm, k.wf, k.room, k.top⟩
theorem fD.grownAt (k : fD Ta Tn N ba bm R w ns) (hm : At w b c T) (hG : w.grownBy w' (some b)) (hTa : T ≠ Ta) (hTn : T ≠ Tn) : fD Ta Tn N ba bm R w' ns := by
  obtain ⟨nv, h1, h2⟩ := k.out
  exact ⟨⟨nv, h1.grownAt hm hG hTa.symm, h2.grownAt hm hG hTn⟩, k.hm.grownAt hm hG, k.la, k.lm, k.wf, k.room, k.top⟩
theorem fD.grownOw {α : Type} {enc : α → List Value} {l : List α} (k : fD Ta Tn N ba bm R w ns) (ho : dh enc sz T w N' v l) (hG : w.grownBy w' v.ownBlock) (hTa : T ≠ Ta) (hTn : T ≠ Tn) : fD Ta Tn N ba bm R w' ns := by
  obtain ⟨nv, h1, h2⟩ := k.out
  exact ⟨⟨nv, h1.grownOw ho hG hTa.symm, h2.grownOw ho hG hTn.symm⟩, k.hm.grownOw ho hG, k.la, k.lm, k.wf, k.room, k.top⟩
theorem fD.grownMap {α β : Type} {enc : α → Value} {encV : β → Value} {l : List (α × β)} (k : fD Ta Tn N ba bm R w ns) (hm : dR enc encV w b l) (hne : b ≠ bm) (hG : w.grownBy w' (some b)) : fD Ta Tn N ba bm R w' ns := by
  obtain ⟨nv, h1, h2⟩ := k.out
  exact ⟨⟨nv, h1.grownMap hm hG, h2.grownMap hm hG⟩, k.hm.grownNe hne.symm hG, k.la, k.lm, k.wf, k.room, k.top⟩
theorem fD.ne (k : fD Ta Tn N ba bm R w ns) (hm : At w b c T) (hTa : T ≠ Ta) : b ≠ ba ∧ b ≠ bm := by
  obtain ⟨nv, h1, h2⟩ := k.out
  exact ⟨fun e => by subst e; exact At.neT hm h1 hTa rfl, fun e => by subst e; exact At.ne_map hm k.hm rfl⟩
theorem At.dx (k : fD Ta Tn N ba bm R w ns) (hx : Dx Tn N [ba, bm] w w') (hm : At w b c T) (hTa : T ≠ Ta) (hTn : T ≠ Tn) : At w' b c T := by
  obtain ⟨n1, n2⟩ := k.ne hm hTa
  unfold At at *
  rw [hx.block b (iF hm) (.inr ⟨by simp [n1, n2], fun c' fr e => by rw [hm] at e; simp at e; exact hTn e.2.1⟩)]
  exact hm
theorem At.dx3 {bx : Nat} (k : fD Ta Tn N ba bm R w ns) (hx : Dx Tn N [bx, ba, bm] w w') (hm : At w b c T) (hTa : T ≠ Ta) (hTn : T ≠ Tn) (hne : b ≠ bx) : At w' b c T := by
  obtain ⟨n1, n2⟩ := k.ne hm hTa
  unfold At at *
  rw [hx.block b (iF hm) (.inr ⟨by simp [n1, n2, hne], fun c' fr e => by rw [hm] at e; simp at e; exact hTn e.2.1⟩)]
  exact hm
theorem dh.dx {α : Type} {enc : α → List Value} {l : List α} (k : fD Ta Tn N ba bm R w ns) (hx : Dx Tn N [ba, bm] w w') (ho : dh enc sz T w N' v l) (hTa : T ≠ Ta) (hTn : T ≠ Tn) : dh enc sz T w' N' v l := by
  obtain ⟨h1, h2 | ⟨g, cap, cur, h3, hg, hh, r⟩⟩ := ho
  · exact ⟨h1, .inl h2⟩
  · refine ⟨h1, .inr ⟨g, cap, cur, h3, hg, ?_, r⟩⟩
    exact At.dx (c := cur) k hx hh hTa hTn
theorem dR.dx {α β : Type} {enc : α → Value} {encV : β → Value} {l : List (α × β)} (k : fD Ta Tn N ba bm R w ns) (hx : Dx Tn N [ba, bm] w w') (hm : dR enc encV w b l) (hne : b ≠ bm) : dR enc encV w' b l := by
  obtain ⟨nv, h1, h2⟩ := k.out
  obtain ⟨f, ck, hf⟩ := hm
  refine ⟨f, ck, hf.moved (hx.block b hf.lt (.inr ⟨?_, fun c' fr e => ?_⟩))⟩
  · have : b ≠ ba := fun e => by subst e; exact At.ne_map h1 ⟨f, ck, hf⟩ rfl
    simp [this, hne]
  · rw [hf.heap] at e; cases e
end
structure jv (ns ns' : List Nd) (R c l : Nat) (S : Nat → Prop) (id : Nat) (er : Int) : Prop where
  pre : ns <+: ns'
  cost : ns'.length ≤ ns.length + c
  res : (er = 0 ∧ id < ns'.length + 2 ∧ l ≤ d8 ns' id ∧ ∀ x, x ∈ dQ ns' id ↔ S x) ∨ (er = 5 ∧ id = 0 ∧ R ≤ ns'.length)
def PO (Ta Tn : TypeId) (N ba bm R : Nat) (w : World) (ns : List Nd) (c l : Nat) (S : Nat → Prop) (v : Value) (w' : World) : Prop :=
  ∃ (ns' : List Nd) (id : Nat) (er : Int), v = .tuple #[.int .i64 (id : Int), .int .i64 er] ∧ Dx Tn N [ba, bm] w w' ∧ fD Ta Tn N ba bm R w' ns' ∧ jv ns ns' R c l S id er
section
variable {ns ns' ns1 ns2 ns3 : List Nd} {R c c1 c2 l : Nat} {S S1 S2 : Nat → Prop} {id f : Nat} {er : Int}
theorem fX (h : ns <+: ns') : ns.length ≤ ns'.length := h.length_le
theorem jv.same (hid : id < ns.length + 2) (hl : l ≤ d8 ns id) (h : ∀ x, x ∈ dQ ns id ↔ S x) : jv ns ns R c l S id 0 := ⟨List.prefix_refl _, by omega, .inl ⟨rfl, hid, hl, h⟩⟩
theorem jv.fail (g : jv ns ns1 R c1 l S1 id er) (he : ¬ er = 0) (hc : c1 ≤ c) {l2 : Nat} : jv ns ns1 R c l2 S 0 er := by
  refine ⟨g.pre, by have := g.cost; omega, .inr ?_⟩
  rcases g.res with h | h
  · exact absurd h.1 he
  · exact ⟨h.1, rfl, h.2.2⟩
theorem jv.fail2 (g : jv ns ns1 R c1 l S1 id er) {l1 l2 id1 : Nat} {er1 : Int} (g2 : jv ns1 ns2 R c2 l1 S2 id1 er1) (he : ¬ er1 = 0) (hc : c1 + c2 ≤ c) : jv ns ns2 R c l2 S 0 er1 := by
  have h := jv.fail (S := S) (l2 := l2) g2 he (Nat.le_refl _)
  refine ⟨g.pre.trans h.pre, by have := g.cost; have := h.cost; omega, h.res⟩
theorem jv.ok (g : jv ns ns1 R c1 l S1 id er) (he : er = 0) : id < ns1.length + 2 ∧ l ≤ d8 ns1 id ∧ ∀ x, x ∈ dQ ns1 id ↔ S1 x := by
  rcases g.res with h | h
  · exact h.2
  · rw [h.1] at he; cases he
theorem jv.weak (g : jv ns ns1 R c1 l S1 id er) (hc : c1 ≤ c) (h : ∀ x, S1 x ↔ S x) : jv ns ns1 R c l S id er :=
  ⟨g.pre, by have := g.cost; omega, g.res.imp (fun ⟨a, b, d, e⟩ => ⟨a, b, d, fun x => (e x).trans (h x)⟩) _root_.id⟩
theorem jv.then' (g : jv ns ns1 R c1 l S1 id er) {l2 id2 : Nat} {er2 : Int} (g2 : jv ns1 ns2 R c2 l2 S id2 er2) (hc : c1 + c2 ≤ c) : jv ns ns2 R c l2 S id2 er2 :=
  ⟨g.pre.trans g2.pre, by have := g.cost; have := g2.cost; omega, g2.res⟩
theorem jv.old (g : jv ns ns1 R c1 l S1 id er) (h : f < ns.length + 2) : f < ns1.length + 2 ∧ dQ ns1 f = dQ ns f ∧ d8 ns1 f = d8 ns f :=
  ⟨by have := fX g.pre; omega, gC g.pre h, gH g.pre h⟩
end
def up (l : Nat) (P Q : Nat → Prop) (x : Nat) : Prop := P x ∨ ∃ y, Q y ∧ x = y + 2 ^ l
def dV (ns : List Nd) (f l : Nat) : Nat := if 2 ≤ f ∧ d8 ns f = l then (ns.getD (f - 2) mP).lo else f
def ee (ns : List Nd) (f l : Nat) : Nat := if 2 ≤ f ∧ d8 ns f = l then (ns.getD (f - 2) mP).hi else 0
structure Jg (ns : List Nd) (f l a b : Nat) : Prop where
  va : a < ns.length + 2
  vb : b < ns.length + 2
  la : l < d8 ns a
  lb : l < d8 ns b
  mem : ∀ x, x ∈ dQ ns f ↔ up l (· ∈ dQ ns a) (· ∈ dQ ns b) x
  cnt : (dQ ns f).length = (dQ ns a).length + (dQ ns b).length
theorem gZ {ns : List Nd} (h : Wf ns) {f l : Nat} (hf : f < ns.length + 2) (hl : l ≤ d8 ns f) (h24 : l < 24) : Jg ns f l (dV ns f l) (ee ns f l) := by
  unfold dV ee
  by_cases hc : 2 ≤ f ∧ d8 ns f = l
  · rw [if_pos hc, if_pos hc]
    obtain ⟨i, rfl⟩ : ∃ i, f = i + 2 := ⟨f - 2, by omega⟩
    have hi : i < ns.length := by omega
    obtain ⟨a1, a2, a3, a4, a5, a6⟩ := h.ok i hi
    have hl2 := hc.2
    rw [jF] at hl2
    rw [Nat.add_sub_cancel]
    refine ⟨by omega, by omega, by omega, by omega, fun x => ?_, ?_⟩
    · rw [iz h hi, List.mem_append, List.mem_map, hl2]
      exact or_congr Iff.rfl ⟨fun ⟨y, h1, h2⟩ => ⟨y, h1, h2.symm⟩, fun ⟨y, h1, h2⟩ => ⟨y, h1, h2.symm⟩⟩
    · rw [iz h hi, List.length_append, List.length_map]
  · rw [if_neg hc, if_neg hc]
    have hlt : l < d8 ns f := by
      rcases Nat.lt_or_ge l (d8 ns f) with k | k
      · exact k
      · exfalso
        have e : d8 ns f = l := by omega
        have : ¬ 2 ≤ f := fun q => hc ⟨q, e⟩
        rw [kL (by omega)] at e
        omega
    refine ⟨hf, by omega, hlt, by rw [kL (by decide)]; exact h24, fun x => ?_, by rw [mj]; rfl⟩
    unfold up
    rw [mj]
    simp
end
section
open Go Go.RowKit
abbrev M (ns : List Nd) (f : Nat) : Nat → Prop := fun x => x ∈ dQ ns f
theorem iA {ns ns' : List Nd} {f : Nat} (hp : ns <+: ns') (h : f < ns.length + 2) : M ns' f = M ns f := by
  unfold M; rw [gC hp h]
def KN (l : Nat) (P : Nat → Prop) : Prop := ∀ x, P x → 2 ^ (l + 1) ∣ x
theorem Ed {ns : List Nd} (h : Wf ns) {f l : Nat} (hf : f < ns.length + 2) (hl : l < d8 ns f) : KN l (M ns f) := fun x hx => gN hl (fe h f hf x hx).1
theorem fH {P Q : Nat → Prop} (h : ∀ x, P x ↔ Q x) : P = Q := funext fun x => propext (h x)
theorem q7 {l a b : Nat} (ha : 2 ^ (l + 1) ∣ a) (hb : 2 ^ (l + 1) ∣ b) : (a + 2 ^ l) ||| b = (a ||| b) + 2 ^ l ∧ a ||| (b + 2 ^ l) = (a ||| b) + 2 ^ l ∧ (a + 2 ^ l) ||| (b + 2 ^ l) = (a ||| b) + 2 ^ l ∧ 2 ^ (l + 1) ∣ a ||| b := by
  obtain ⟨p, rfl⟩ := ha
  obtain ⟨q, rfl⟩ := hb
  have sh : ∀ u v : Nat, 2 ^ l * u ||| 2 ^ l * v = 2 ^ l * (u ||| v) := fun u v => by
    rw [Nat.mul_comm, Nat.mul_comm (2 ^ l) v, Nat.mul_comm (2 ^ l) (u ||| v), ← Nat.shiftLeft_eq, ← Nat.shiftLeft_eq, ← Nat.shiftLeft_eq, Nat.shiftLeft_or_distrib]
  have e0 : ∀ u : Nat, 2 ^ (l + 1) * u = 2 ^ l * (2 * u) := fun u => by rw [Nat.pow_succ, Nat.mul_assoc]
  have e1 : ∀ u : Nat, 2 ^ l * (2 * u) + 2 ^ l = 2 ^ l * (2 * u + 1) := fun u => by rw [Nat.mul_add, Nat.mul_one]
  have b0 : ∀ u v : Nat, 2 * u ||| 2 * v = 2 * (u ||| v) := fun u v => by
    have := fun u v => (Nat.shiftLeft_or_distrib (a := u) (b := v) (i := 1))
    simp only [Nat.shiftLeft_eq, Nat.pow_one] at this
    rw [Nat.mul_comm 2 u, Nat.mul_comm 2 v, Nat.mul_comm 2 (u ||| v), this]
  have odd : ∀ u v : Nat, (u % 2 = 1 ∨ v % 2 = 1) → u ||| v = 2 * (u / 2 ||| v / 2) + 1 := fun u v h => by
    refine Nat.eq_of_testBit_eq fun i => ?_
    cases i with
    | zero =>
      rw [Nat.testBit_or, Nat.testBit_zero, Nat.testBit_zero, Nat.testBit_zero]
      rcases h with h | h <;> simp [h] <;> omega
    | succ i =>
      rw [Nat.testBit_or, Nat.testBit_succ, Nat.testBit_succ, Nat.testBit_succ, ← Nat.testBit_or]
      congr 1
      omega
  have o1 : (2 * p + 1) ||| (2 * q) = 2 * (p ||| q) + 1 := by
    rw [odd _ _ (.inl (by omega)), show (2 * p + 1) / 2 = p by omega, show 2 * q / 2 = q by omega]
  have o2 : (2 * p) ||| (2 * q + 1) = 2 * (p ||| q) + 1 := by
    rw [odd _ _ (.inr (by omega)), show (2 * q + 1) / 2 = q by omega, show 2 * p / 2 = p by omega]
  have o3 : (2 * p + 1) ||| (2 * q + 1) = 2 * (p ||| q) + 1 := by
    rw [odd _ _ (.inl (by omega)), show (2 * p + 1) / 2 = p by omega, show (2 * q + 1) / 2 = q by omega]
  rw [e0, e0, e1, e1]
  refine ⟨?_, ?_, ?_, ?_⟩
  · rw [sh, sh, o1, b0, e1]
  · rw [sh, sh, o2, b0, e1]
  · rw [sh, sh, o3, b0, e1]
  · exact ⟨p ||| q, by rw [sh, b0, e0]⟩
def HK (x y : Nat) : Prop := x ||| y = x
theorem MA {l : Nat} {P Q : Nat → Prop} (hP : KN l P) (hQ : KN l Q) {x : Nat} : (x.testBit l = false → (up l P Q x ↔ P x)) ∧ ∀ y, 2 ^ (l + 1) ∣ y → (up l P Q (y + 2 ^ l) ↔ Q y) := by
  refine ⟨fun hb => ⟨fun h => ?_, .inl⟩, fun y hy => ⟨fun h => ?_, fun h => .inr ⟨y, h, rfl⟩⟩⟩
  · rcases h with h | ⟨y, hy, rfl⟩
    · exact h
    · rw [jK (hQ y hy)] at hb; cases hb
  · rcases h with h | ⟨z, hz, e⟩
    · have := gi (hP _ h)
      rw [jK hy] at this; cases this
    · obtain rfl : y = z := by omega
      exact hz
def bl (x : Nat) : Nat := if x = 0 then 0 else Nat.log2 x + 1
theorem Qh {x T : Nat} : bl x ≤ T ↔ x < 2 ^ T := by
  unfold bl
  by_cases h : x = 0
  · rw [if_pos h, h]
    exact ⟨fun _ => Nat.two_pow_pos T, fun _ => Nat.zero_le _⟩
  · rw [if_neg h, ← Nat.log2_lt h]; omega
def Qo (l : List Nat) : Nat := l.foldr (fun x t => max (bl x) t) 0
theorem Je {T : Nat} : ∀ {l : List Nat}, Qo l ≤ T ↔ ∀ x, x ∈ l → x < 2 ^ T
  | [] => ⟨fun _ x h => by (cases h), fun _ => Nat.zero_le _⟩
  | y :: l => by
    have ih := Je (T := T) (l := l)
    have e : Qo (y :: l) = max (bl y) (Qo l) := rfl
    rw [e, Nat.max_le, Qh, ih]
    exact ⟨fun ⟨h1, h2⟩ x hx => by
      (rcases List.mem_cons.1 hx with rfl | hx
       · exact h1
       · exact h2 x hx), fun h => ⟨h y (List.mem_cons_self ..), fun x hx => h x (List.mem_cons_of_mem _ hx)⟩⟩
def tp (ns : List Nd) (f : Nat) : Nat := Qo (dQ ns f)
theorem ln {ns : List Nd} {f T : Nat} : tp ns f ≤ T ↔ ∀ x, x ∈ dQ ns f → x < 2 ^ T := Je
theorem vZ {ns ns' : List Nd} {f : Nat} (hp : ns <+: ns') (h : f < ns.length + 2) : tp ns' f = tp ns f := by unfold tp; rw [gC hp h]
theorem Jg.tpa {ns : List Nd} {f l a b : Nat} (H : Jg ns f l a b) : tp ns a ≤ tp ns f := ln.2 fun x hx => ln.1 (Nat.le_refl _) x ((H.mem x).2 (.inl hx))
theorem Jg.tpb {ns : List Nd} {f l a b : Nat} (H : Jg ns f l a b) : tp ns b ≤ tp ns f := ln.2 fun x hx => by
  have := ln.1 (Nat.le_refl (tp ns f)) (x + 2 ^ l) ((H.mem _).2 (.inr ⟨x, hx, rfl⟩))
  exact Nat.lt_of_le_of_lt (Nat.le_add_right _ _) this
theorem rI {ns : List Nd} (h : Wf ns) {f : Nat} (hf : f < ns.length + 2) (h2 : 2 ≤ f) : d8 ns f < tp ns f := by
  have h24 := np h hf h2
  have H := gZ h hf (Nat.le_refl _) h24
  have e : ee ns f (d8 ns f) = (ns.getD (f - 2) mP).hi := if_pos ⟨h2, rfl⟩
  obtain ⟨i, rfl⟩ : ∃ i, f = i + 2 := ⟨f - 2, by omega⟩
  rw [Nat.add_sub_cancel] at e
  have hne : ee ns (i + 2) (d8 ns (i + 2)) ≠ 0 := by rw [e]; exact (h.ok i (by omega)).2.2.1
  obtain ⟨y, hy⟩ := iv h _ H.vb hne
  have hm : y + 2 ^ d8 ns (i + 2) ∈ dQ ns (i + 2) := (H.mem _).2 (.inr ⟨y, hy, rfl⟩)
  have := ln.1 (Nat.le_refl (tp ns (i + 2))) _ hm
  exact (Nat.pow_lt_pow_iff_right (a := 2) (by decide)).1 (Nat.lt_of_le_of_lt (Nat.le_add_left _ _) this)
theorem j2 {ns ns' : List Nd} {f l : Nat} (hp : ns <+: ns') (h : f < ns.length + 2) : dV ns' f l = dV ns f l ∧ ee ns' f l = ee ns f l := by
  unfold dV ee
  rw [gH hp h]
  by_cases hc : 2 ≤ f ∧ d8 ns f = l
  · rw [if_pos hc, if_pos hc, if_pos hc, if_pos hc, su hp (by omega)]
    exact ⟨rfl, rfl⟩
  · rw [if_neg hc, if_neg hc, if_neg hc, if_neg hc]
    exact ⟨rfl, rfl⟩
structure Op where
  res : (Nat → Prop) → (Nat → Prop) → Nat → Prop
  resH : (Nat → Prop) → (Nat → Prop) → (Nat → Prop) → (Nat → Prop) → Nat → Prop
  ends : Nat → Nat → Nat × Bool
  cst : List Nd → Nat → Nat → Nat
  hcst : List Nd → Nat → Nat → Nat → Nat → Nat → Nat
structure FN (o : Op) : Prop where
  dec : ∀ l A0 A1 B0 B1, KN l A0 → KN l A1 → KN l B0 → KN l B1 → ∀ x, o.res (up l A0 A1) (up l B0 B1) x ↔ up l (o.res A0 B0) (o.resH A0 A1 B0 B1) x
  endT : ∀ ns f g, Wf ns → f < ns.length + 2 → g < ns.length + 2 → (o.ends f g).2 = true → (o.ends f g).1 < ns.length + 2 ∧ min (d8 ns f) (d8 ns g) ≤ d8 ns (o.ends f g).1 ∧ ∀ x, x ∈ dQ ns (o.ends f g).1 ↔ o.res (M ns f) (M ns g) x
  endF : ∀ f g, (o.ends f g).2 = false → f ≠ 0 ∧ g ≠ 0 ∧ ¬ (f < 2 ∧ g < 2)
  cost : ∀ ns f g l, Wf ns → f < ns.length + 2 → g < ns.length + 2 → (o.ends f g).2 = false → l = min (d8 ns f) (d8 ns g) → l < 24 → o.cst ns (dV ns f l) (dV ns g l) + o.hcst ns l (dV ns f l) (ee ns f l) (dV ns g l) (ee ns g l) + 1 ≤ o.cst ns f g
  hpre : ∀ ns ns' l f0 f1 g0 g1, ns <+: ns' → Wf ns → f0 < ns.length + 2 → f1 < ns.length + 2 → g0 < ns.length + 2 → g1 < ns.length + 2 → o.hcst ns' l f0 f1 g0 g1 = o.hcst ns l f0 f1 g0 g1
theorem PZ : ∀ k k1 a0 a1 b0 b1, k1 < k → 1 ≤ a0 + a1 → 1 ≤ b0 + b1 → k1 * min a0 b0 + (k - 1) * min a1 b1 + 1 ≤ k * min (a0 + a1) (b0 + b1) := by
  intro k k1 a0 a1 b0 b1 hk h1 h2
  obtain ⟨m, rfl⟩ : ∃ m, k = m + 1 := ⟨k - 1, by omega⟩
  rw [Nat.add_sub_cancel]
  have e1 : k1 * min a0 b0 ≤ m * min a0 b0 := Nat.mul_le_mul_right _ (by omega)
  have e2 : m * min a0 b0 + m * min a1 b1 ≤ m * min (a0 + a1) (b0 + b1) := by
    rw [← Nat.mul_add]
    exact Nat.mul_le_mul_left _ (by omega)
  have e3 : 1 ≤ min (a0 + a1) (b0 + b1) := by omega
  rw [Nat.add_mul, Nat.one_mul]
  omega
def cP (en : Nat → Nat → Nat × Bool) : Nat → List Nd → Nat → Nat → Nat
  | 0, _, _, _ => 0
  | n + 1, ns, f, g => if (en f g).2 = true then 0 else cP en n ns (dV ns f (min (d8 ns f) (d8 ns g))) (dV ns g (min (d8 ns f) (d8 ns g))) + cP en n ns (ee ns f (min (d8 ns f) (d8 ns g))) (ee ns g (min (d8 ns f) (d8 ns g))) + 1
def cE (en : Nat → Nat → Nat × Bool) (ns : List Nd) (f g : Nat) : Nat := cP en (25 - min (d8 ns f) (d8 ns g)) ns f g
def hE (en : Nat → Nat → Nat × Bool) (ns : List Nd) (_ _ f1 _ g1 : Nat) : Nat := cE en ns f1 g1
section
variable {en : Nat → Nat → Nat × Bool} {ns ns' : List Nd}
theorem yR : ∀ (n f g : Nat), cP en n ns f g ≤ cP en (n + 1) ns f g
  | 0, _, _ => Nat.zero_le _
  | n + 1, f, g => by
    rw [cP, cP]
    by_cases h : (en f g).2 = true
    · rw [if_pos h, if_pos h]; exact Nat.le_refl _
    · rw [if_neg h, if_neg h]
      have h1 := yR n (dV ns f (min (d8 ns f) (d8 ns g))) (dV ns g (min (d8 ns f) (d8 ns g)))
      have h2 := yR n (ee ns f (min (d8 ns f) (d8 ns g))) (ee ns g (min (d8 ns f) (d8 ns g)))
      omega
theorem zz {n m : Nat} (h : n ≤ m) (f g : Nat) : cP en n ns f g ≤ cP en m ns f g := by
  obtain ⟨d, rfl⟩ : ∃ d, m = n + d := ⟨m - n, by omega⟩
  clear h
  induction d with
  | zero => exact Nat.le_refl _
  | succ d ih => exact Nat.le_trans ih (yR _ _ _)
theorem y7 (h : Wf ns) {f l : Nat} (hf : f < ns.length + 2) (hl : l ≤ d8 ns f) : dV ns f l < ns.length + 2 ∧ ee ns f l < ns.length + 2 := by
  by_cases h24 : l < 24
  · have H := gZ h hf hl h24
    exact ⟨H.va, H.vb⟩
  · have : ¬ 2 ≤ f := fun q => by have := np h hf q; omega
    unfold dV ee
    rw [if_neg (fun k => this k.1), if_neg (fun k => this k.1)]
    exact ⟨hf, by omega⟩
theorem Dr (hp : ns <+: ns') (h : Wf ns) : ∀ (n f g : Nat), f < ns.length + 2 → g < ns.length + 2 → cP en n ns' f g = cP en n ns f g
  | 0, _, _, _, _ => rfl
  | n + 1, f, g, hf, hg => by
    rw [cP, cP, gH hp hf, gH hp hg, (j2 hp hf).1, (j2 hp hf).2, (j2 hp hg).1, (j2 hp hg).2]
    obtain ⟨v1, v2⟩ := y7 h hf (Nat.min_le_left (d8 ns f) (d8 ns g))
    obtain ⟨v3, v4⟩ := y7 h hg (Nat.min_le_right (d8 ns f) (d8 ns g))
    rw [Dr hp h n _ _ v1 v3, Dr hp h n _ _ v2 v4]
theorem H5 (hp : ns <+: ns') (h : Wf ns) {f g : Nat} (hf : f < ns.length + 2) (hg : g < ns.length + 2) : cE en ns' f g = cE en ns f g := by
  unfold cE
  rw [gH hp hf, gH hp hg, Dr hp h _ _ _ hf hg]
theorem EW (h : Wf ns) {f g l : Nat} (hf : f < ns.length + 2) (hg : g < ns.length + 2) (he : (en f g).2 = false) (hl : l = min (d8 ns f) (d8 ns g)) (h24 : l < 24) :
    cE en ns (dV ns f l) (dV ns g l) + hE en ns l (dV ns f l) (ee ns f l) (dV ns g l) (ee ns g l) + 1 ≤ cE en ns f g := by
  have H1 := gZ h hf (l := l) (by omega) h24
  have H2 := gZ h hg (l := l) (by omega) h24
  have k1 := H1.la
  have k2 := H1.lb
  have k3 := H2.la
  have k4 := H2.lb
  unfold hE
  rw [show cE en ns f g = cP en (24 - l + 1) ns f g by unfold cE; rw [← hl]; congr 1; omega, cP, if_neg (by rw [he]; decide), ← hl]
  have h1 := zz (en := en) (ns := ns) (show 25 - min (d8 ns (dV ns f l)) (d8 ns (dV ns g l)) ≤ 24 - l by omega) (dV ns f l) (dV ns g l)
  have h2 := zz (en := en) (ns := ns) (show 25 - min (d8 ns (ee ns f l)) (d8 ns (ee ns g l)) ≤ 24 - l by omega) (ee ns f l) (ee ns g l)
  unfold cE
  omega
theorem ND (h : Wf ns) (hen : ∀ f g, (en f g).2 = false → f ≠ 0 ∧ g ≠ 0 ∧ ¬ (f < 2 ∧ g < 2)) (T : Nat) : ∀ (n f g : Nat), f < ns.length + 2 → g < ns.length + 2 → tp ns f ≤ T → tp ns g ≤ T → cP en n ns f g ≤ (T - min (d8 ns f) (d8 ns g)) * min (dQ ns f).length (dQ ns g).length
  | 0, _, _, _, _, _, _ => Nat.zero_le _
  | n + 1, f, g, hf, hg, tf, tg => by
    rw [cP]
    by_cases he : (en f g).2 = true
    · rw [if_pos he]; exact Nat.zero_le _
    · rw [if_neg he]
      obtain ⟨f0, g0, fg⟩ := hen f g (by simpa using he)
      have h1f := mE h hf
      have h1g := mE h hg
      have hlt : min (d8 ns f) (d8 ns g) < 24 ∧ min (d8 ns f) (d8 ns g) < T := by
        by_cases q : 2 ≤ f
        · have := np h hf q
          have := rI h hf q
          omega
        · have q2 : 2 ≤ g := by omega
          have := np h hg q2
          have := rI h hg q2
          omega
      generalize hl : min (d8 ns f) (d8 ns g) = l at hlt ⊢
      have H1 := gZ h hf (l := l) (by omega) hlt.1
      have H2 := gZ h hg (l := l) (by omega) hlt.1
      have k1 := H1.la
      have k2 := H1.lb
      have k3 := H2.la
      have k4 := H2.lb
      have n1 := List.length_pos_of_mem (iv h f hf f0).choose_spec
      have n2 := List.length_pos_of_mem (iv h g hg g0).choose_spec
      have r1 := ND h hen T n _ _ H1.va H2.va (Nat.le_trans H1.tpa tf) (Nat.le_trans H2.tpa tg)
      have r2 := ND h hen T n _ _ H1.vb H2.vb (Nat.le_trans H1.tpb tf) (Nat.le_trans H2.tpb tg)
      have r3 := PZ (T - l) (T - l - 1) (dQ ns (dV ns f l)).length (dQ ns (ee ns f l)).length (dQ ns (dV ns g l)).length (dQ ns (ee ns g l)).length (by omega) (by have := H1.cnt; omega) (by have := H2.cnt; omega)
      rw [← H1.cnt, ← H2.cnt] at r3
      have r4 : (T - min (d8 ns (dV ns f l)) (d8 ns (dV ns g l))) * min (dQ ns (dV ns f l)).length (dQ ns (dV ns g l)).length ≤ (T - l - 1) * min (dQ ns (dV ns f l)).length (dQ ns (dV ns g l)).length := Nat.mul_le_mul_right _ (by omega)
      have r5 : (T - min (d8 ns (ee ns f l)) (d8 ns (ee ns g l))) * min (dQ ns (ee ns f l)).length (dQ ns (ee ns g l)).length ≤ (T - l - 1) * min (dQ ns (ee ns f l)).length (dQ ns (ee ns g l)).length := Nat.mul_le_mul_right _ (by omega)
      omega
theorem LJ (h : Wf ns) (hen : ∀ f g, (en f g).2 = false → f ≠ 0 ∧ g ≠ 0 ∧ ¬ (f < 2 ∧ g < 2)) {T f g : Nat} (hf : f < ns.length + 2) (hg : g < ns.length + 2) (tf : tp ns f ≤ T) (tg : tp ns g ≤ T) : cE en ns f g ≤ (T - min (d8 ns f) (d8 ns g)) * min (dQ ns f).length (dQ ns g).length := ND h hen T _ f g hf hg tf tg
end
def Kd (f g : Nat) : Nat × Bool := if f = 0 ∨ f = g then (g, true) else (f, decide (g = 0))
def Pp (f g : Nat) : Nat × Bool := if f = 0 ∨ f = g then (0, true) else (f, decide (g = 0))
def nI : Op := ⟨fun F G x => F x ∨ G x, fun _ A1 _ B1 x => A1 x ∨ B1 x, Kd, cE Kd, hE Kd⟩
def sQ : Op := ⟨fun F G x => F x ∧ ¬ G x, fun _ A1 _ B1 x => A1 x ∧ ¬ B1 x, Pp, cE Pp, hE Pp⟩
theorem Gm (ns : List Nd) (x : Nat) : ¬ M ns 0 x := by unfold M; rw [mj]; exact fun h => by cases h
theorem LR (ns : List Nd) : d8 ns 0 = 24 := kL (by decide)
theorem Ce : FN nI := by
  refine ⟨fun l A0 A1 B0 B1 _ _ _ _ x => ?_, fun ns f g h hf hg ht => ?_, fun f g hf => ?_, fun ns f g l h hf hg he hl h24 => EW h hf hg he hl h24, fun ns ns' l f0 f1 g0 g1 hp h v0 v1 v2 v3 => H5 hp h v1 v3⟩
  · simp only [nI, up]
    constructor
    · rintro ((h | ⟨y, h, e⟩) | (h | ⟨y, h, e⟩))
      · exact .inl (.inl h)
      · exact .inr ⟨y, .inl h, e⟩
      · exact .inl (.inr h)
      · exact .inr ⟨y, .inr h, e⟩
    · rintro ((h | h) | ⟨y, h | h, e⟩)
      · exact .inl (.inl h)
      · exact .inr (.inl h)
      · exact .inl (.inr ⟨y, h, e⟩)
      · exact .inr (.inr ⟨y, h, e⟩)
  · simp only [nI, Kd] at ht ⊢
    by_cases hc : f = 0 ∨ f = g
    · rw [if_pos hc]
      refine ⟨hg, Nat.min_le_right _ _, fun x => ⟨.inr, fun h => ?_⟩⟩
      rcases h with h | h
      · rcases hc with rfl | rfl
        · exact absurd h (Gm ns x)
        · exact h
      · exact h
    · rw [if_neg hc] at ht ⊢
      obtain rfl : g = 0 := of_decide_eq_true ht
      exact ⟨hf, Nat.min_le_left _ _, fun x => ⟨.inl, fun h => h.elim id (fun h => absurd h (Gm ns x))⟩⟩
  · simp only [nI, Kd] at hf
    by_cases hc : f = 0 ∨ f = g
    · rw [if_pos hc] at hf; cases hf
    · rw [if_neg hc] at hf
      have := of_decide_eq_false hf
      omega
theorem Cd : FN sQ := by
  refine ⟨fun l A0 A1 B0 B1 hA0 hA1 hB0 hB1 x => ?_, fun ns f g h hf hg ht => ?_, fun f g hf => ?_, fun ns f g l h hf hg he hl h24 => EW h hf hg he hl h24, fun ns ns' l f0 f1 g0 g1 hp h v0 v1 v2 v3 => H5 hp h v1 v3⟩
  · simp only [sQ]
    constructor
    · rintro ⟨h, k⟩
      rcases h with h | ⟨y, h, rfl⟩
      · exact .inl ⟨h, fun q => k (.inl q)⟩
      · exact .inr ⟨y, ⟨h, fun q => k (.inr ⟨y, q, rfl⟩)⟩, rfl⟩
    · rintro (⟨h, k⟩ | ⟨y, ⟨h, k⟩, rfl⟩)
      · exact ⟨.inl h, fun q => k (((MA hB0 hB1).1 (gi (hA0 x h))).1 q)⟩
      · exact ⟨.inr ⟨y, h, rfl⟩, fun q => k (((MA (x := 0) hB0 hB1).2 y (hA1 y h)).1 q)⟩
  · simp only [sQ, Pp] at ht ⊢
    have := mE h hf
    by_cases hc : f = 0 ∨ f = g
    · rw [if_pos hc]
      refine ⟨by omega, by rw [LR]; omega, fun x => ⟨fun k => absurd k (Gm ns x), fun ⟨h1, h2⟩ => ?_⟩⟩
      rcases hc with rfl | rfl
      · exact absurd h1 (Gm ns x)
      · exact absurd h1 h2
    · rw [if_neg hc] at ht ⊢
      obtain rfl : g = 0 := of_decide_eq_true ht
      exact ⟨hf, Nat.min_le_left _ _, fun x => ⟨fun k => ⟨k, Gm ns x⟩, fun k => k.1⟩⟩
  · simp only [sQ, Pp] at hf
    by_cases hc : f = 0 ∨ f = g
    · rw [if_pos hc] at hf; cases hf
    · rw [if_neg hc] at hf
      have := of_decide_eq_false hf
      omega
def rh : Nat → Nat
  | 0 => 0
  | k + 1 => rh k + (k + 1)
theorem pP : ∀ {a b : Nat}, a ≤ b → rh a ≤ rh b := fun {a b} h => by
  obtain ⟨d, rfl⟩ : ∃ d, b = a + d := ⟨b - a, by omega⟩
  clear h
  induction d with
  | zero => exact Nat.le_refl _
  | succ d ih => show rh a ≤ rh (a + d) + _; omega
def mH (F G : Nat → Prop) (x : Nat) : Prop := ∃ a b, F a ∧ G b ∧ x = a ||| b
def BZ (f g : Nat) : Nat × Bool := if f = 0 ∨ g = 0 then (0, true) else if f = 1 then (g, true) else (f, decide (g = 1))
def kJ (ns : List Nd) (f0 f1 g0 g1 : Nat) : Nat := max (max (tp ns f0) (tp ns f1)) (max (tp ns g0) (tp ns g1))
def uJ (k a0 a1 b0 b1 : Nat) : Nat := k * min (a1 * b0) (a0 * b1) + k * min (a1 * b0 + a0 * b1) (a1 * b1)
def JS (ns : List Nd) (l f0 f1 g0 g1 : Nat) : Nat := uJ (kJ ns f0 f1 g0 g1 - (l + 1)) (dQ ns f0).length (dQ ns f1).length (dQ ns g0).length (dQ ns g1).length
def wU : Nat → List Nd → Nat → Nat → Nat
  | 0, _, _, _ => 0
  | n + 1, ns, f, g => if (BZ f g).2 = true then 0 else wU n ns (dV ns f (min (d8 ns f) (d8 ns g))) (dV ns g (min (d8 ns f) (d8 ns g))) + (wU n ns (ee ns f (min (d8 ns f) (d8 ns g))) (dV ns g (min (d8 ns f) (d8 ns g))) + wU n ns (dV ns f (min (d8 ns f) (d8 ns g))) (ee ns g (min (d8 ns f) (d8 ns g))) + wU n ns (ee ns f (min (d8 ns f) (d8 ns g))) (ee ns g (min (d8 ns f) (d8 ns g))) + JS ns (min (d8 ns f) (d8 ns g)) (dV ns f (min (d8 ns f) (d8 ns g))) (ee ns f (min (d8 ns f) (d8 ns g))) (dV ns g (min (d8 ns f) (d8 ns g))) (ee ns g (min (d8 ns f) (d8 ns g)))) + 1
def pc (ns : List Nd) (f g : Nat) : Nat := wU (25 - min (d8 ns f) (d8 ns g)) ns f g
def O9 (ns : List Nd) (l f0 f1 g0 g1 : Nat) : Nat := pc ns f1 g0 + pc ns f0 g1 + pc ns f1 g1 + JS ns l f0 f1 g0 g1
def qa : Op := ⟨mH, fun A0 A1 B0 B1 x => mH A1 B0 x ∨ mH A0 B1 x ∨ mH A1 B1 x, BZ, pc, O9⟩
theorem MC {f g : Nat} (hf : (BZ f g).2 = false) : f ≠ 0 ∧ g ≠ 0 ∧ ¬ (f < 2 ∧ g < 2) := by
  simp only [BZ] at hf
  by_cases hc : f = 0 ∨ g = 0
  · rw [if_pos hc] at hf; cases hf
  · rw [if_neg hc] at hf
    by_cases h1 : f = 1
    · rw [if_pos h1] at hf; cases hf
    · rw [if_neg h1] at hf
      have := of_decide_eq_false hf
      omega
section
variable {ns ns' : List Nd}
theorem pm : ∀ (n f g : Nat), wU n ns f g ≤ wU (n + 1) ns f g
  | 0, _, _ => Nat.zero_le _
  | n + 1, f, g => by
    rw [wU, wU]
    by_cases h : (BZ f g).2 = true
    · rw [if_pos h, if_pos h]; exact Nat.le_refl _
    · rw [if_neg h, if_neg h]
      generalize min (d8 ns f) (d8 ns g) = l
      have h1 := pm n (dV ns f l) (dV ns g l)
      have h2 := pm n (ee ns f l) (dV ns g l)
      have h3 := pm n (dV ns f l) (ee ns g l)
      have h4 := pm n (ee ns f l) (ee ns g l)
      omega
theorem sd {n m : Nat} (h : n ≤ m) (f g : Nat) : wU n ns f g ≤ wU m ns f g := by
  obtain ⟨d, rfl⟩ : ∃ d, m = n + d := ⟨m - n, by omega⟩
  clear h
  induction d with
  | zero => exact Nat.le_refl _
  | succ d ih => exact Nat.le_trans ih (pm _ _ _)
theorem ER (hp : ns <+: ns') {l f0 f1 g0 g1 : Nat} (v0 : f0 < ns.length + 2) (v1 : f1 < ns.length + 2) (v2 : g0 < ns.length + 2) (v3 : g1 < ns.length + 2) : JS ns' l f0 f1 g0 g1 = JS ns l f0 f1 g0 g1 := by
  unfold JS kJ
  rw [vZ hp v0, vZ hp v1, vZ hp v2, vZ hp v3, gC hp v0, gC hp v1, gC hp v2, gC hp v3]
theorem sH (hp : ns <+: ns') (h : Wf ns) : ∀ (n f g : Nat), f < ns.length + 2 → g < ns.length + 2 → wU n ns' f g = wU n ns f g
  | 0, _, _, _, _ => rfl
  | n + 1, f, g, hf, hg => by
    rw [wU, wU, gH hp hf, gH hp hg, (j2 hp hf).1, (j2 hp hf).2, (j2 hp hg).1, (j2 hp hg).2]
    obtain ⟨v1, v2⟩ := y7 h hf (Nat.min_le_left (d8 ns f) (d8 ns g))
    obtain ⟨v3, v4⟩ := y7 h hg (Nat.min_le_right (d8 ns f) (d8 ns g))
    rw [sH hp h n _ _ v1 v3, sH hp h n _ _ v2 v3, sH hp h n _ _ v1 v4, sH hp h n _ _ v2 v4, ER hp v1 v2 v3 v4]
theorem rM (hp : ns <+: ns') (h : Wf ns) {f g : Nat} (hf : f < ns.length + 2) (hg : g < ns.length + 2) : pc ns' f g = pc ns f g := by
  unfold pc
  rw [gH hp hf, gH hp hg, sH hp h _ _ _ hf hg]
theorem JI (h : Wf ns) {f g l : Nat} (hf : f < ns.length + 2) (hg : g < ns.length + 2) (he : (BZ f g).2 = false) (hl : l = min (d8 ns f) (d8 ns g)) (h24 : l < 24) :
    pc ns (dV ns f l) (dV ns g l) + O9 ns l (dV ns f l) (ee ns f l) (dV ns g l) (ee ns g l) + 1 ≤ pc ns f g := by
  have H1 := gZ h hf (l := l) (by omega) h24
  have H2 := gZ h hg (l := l) (by omega) h24
  have k1 := H1.la
  have k2 := H1.lb
  have k3 := H2.la
  have k4 := H2.lb
  unfold O9
  rw [show pc ns f g = wU (24 - l + 1) ns f g by unfold pc; rw [← hl]; congr 1; omega, wU, if_neg (by rw [he]; decide), ← hl]
  have h1 := sd (ns := ns) (show 25 - min (d8 ns (dV ns f l)) (d8 ns (dV ns g l)) ≤ 24 - l by omega) (dV ns f l) (dV ns g l)
  have h2 := sd (ns := ns) (show 25 - min (d8 ns (ee ns f l)) (d8 ns (dV ns g l)) ≤ 24 - l by omega) (ee ns f l) (dV ns g l)
  have h3 := sd (ns := ns) (show 25 - min (d8 ns (dV ns f l)) (d8 ns (ee ns g l)) ≤ 24 - l by omega) (dV ns f l) (ee ns g l)
  have h4 := sd (ns := ns) (show 25 - min (d8 ns (ee ns f l)) (d8 ns (ee ns g l)) ≤ 24 - l by omega) (ee ns f l) (ee ns g l)
  unfold pc
  omega
theorem Qe (m k1 a0 a1 b0 b1 u x y z q : Nat) (hk : k1 ≤ m) (h1 : 1 ≤ a0 + a1) (h2 : 1 ≤ b0 + b1) (hq : q ≤ rh k1 * (a0 * b0)) (hx : x ≤ rh m * (a1 * b0)) (hy : y ≤ rh m * (a0 * b1)) (hz : z ≤ rh m * (a1 * b1)) (hu : u ≤ m * (a1 * b0 + a0 * b1 + a1 * b1)) :
    q + (x + y + z + u) + 1 ≤ rh (m + 1) * ((a0 + a1) * (b0 + b1)) := by
  have e1 : rh k1 * (a0 * b0) ≤ (rh m + m) * (a0 * b0) := Nat.mul_le_mul_right _ (by have := pP hk; omega)
  have e2 : (a0 + a1) * (b0 + b1) = a0 * b0 + (a1 * b0 + a0 * b1 + a1 * b1) := by
    rw [Nat.add_mul, Nat.mul_add, Nat.mul_add]; omega
  have e3 : 1 ≤ (a0 + a1) * (b0 + b1) := Nat.mul_pos h1 h2
  have e4 : rh (m + 1) = (rh m + m) + 1 := by show rh m + (m + 1) = _; omega
  have e5 : (rh m + m) * ((a0 + a1) * (b0 + b1)) = (rh m + m) * (a0 * b0) + (rh m + m) * (a1 * b0 + a0 * b1 + a1 * b1) := by rw [e2, Nat.mul_add]
  have e6 : (rh m + m) * (a1 * b0 + a0 * b1 + a1 * b1) = rh m * (a1 * b0) + rh m * (a0 * b1) + rh m * (a1 * b1) + m * (a1 * b0 + a0 * b1 + a1 * b1) := by
    rw [Nat.add_mul (rh m) m, Nat.mul_add (rh m), Nat.mul_add (rh m)]
  rw [e4, Nat.add_mul (rh m + m) 1, Nat.one_mul]
  omega
theorem Px {k m a0 a1 b0 b1 : Nat} (h : k ≤ m) : uJ k a0 a1 b0 b1 ≤ m * (a1 * b0 + a0 * b1 + a1 * b1) := by
  unfold uJ
  rw [← Nat.mul_add]
  exact Nat.mul_le_mul h (by omega)
theorem AQ (h : Wf ns) (T : Nat) : ∀ (n f g : Nat), f < ns.length + 2 → g < ns.length + 2 → tp ns f ≤ T → tp ns g ≤ T → wU n ns f g ≤ rh (T - min (d8 ns f) (d8 ns g)) * ((dQ ns f).length * (dQ ns g).length)
  | 0, _, _, _, _, _, _ => Nat.zero_le _
  | n + 1, f, g, hf, hg, tf, tg => by
    rw [wU]
    by_cases he : (BZ f g).2 = true
    · rw [if_pos he]; exact Nat.zero_le _
    · rw [if_neg he]
      obtain ⟨f0, g0, fg⟩ := MC (f := f) (g := g) (by simpa using he)
      have h1f := mE h hf
      have h1g := mE h hg
      have hlt : min (d8 ns f) (d8 ns g) < 24 ∧ min (d8 ns f) (d8 ns g) < T := by
        by_cases q : 2 ≤ f
        · have := np h hf q
          have := rI h hf q
          omega
        · have q2 : 2 ≤ g := by omega
          have := np h hg q2
          have := rI h hg q2
          omega
      generalize hl : min (d8 ns f) (d8 ns g) = l at hlt ⊢
      have H1 := gZ h hf (l := l) (by omega) hlt.1
      have H2 := gZ h hg (l := l) (by omega) hlt.1
      have k1 := H1.la
      have k2 := H1.lb
      have k3 := H2.la
      have k4 := H2.lb
      have ta := Nat.le_trans H1.tpa tf
      have tb := Nat.le_trans H1.tpb tf
      have tc := Nat.le_trans H2.tpa tg
      have td := Nat.le_trans H2.tpb tg
      have n1 := List.length_pos_of_mem (iv h f hf f0).choose_spec
      have n2 := List.length_pos_of_mem (iv h g hg g0).choose_spec
      have r1 := AQ h T n _ _ H1.va H2.va ta tc
      have r2 := Nat.le_trans (AQ h T n _ _ H1.vb H2.va tb tc) (Nat.mul_le_mul_right _ (pP (show T - min (d8 ns (ee ns f l)) (d8 ns (dV ns g l)) ≤ T - l - 1 by omega)))
      have r3 := Nat.le_trans (AQ h T n _ _ H1.va H2.vb ta td) (Nat.mul_le_mul_right _ (pP (show T - min (d8 ns (dV ns f l)) (d8 ns (ee ns g l)) ≤ T - l - 1 by omega)))
      have r4 := Nat.le_trans (AQ h T n _ _ H1.vb H2.vb tb td) (Nat.mul_le_mul_right _ (pP (show T - min (d8 ns (ee ns f l)) (d8 ns (ee ns g l)) ≤ T - l - 1 by omega)))
      have r5 : JS ns l (dV ns f l) (ee ns f l) (dV ns g l) (ee ns g l) ≤ (T - l - 1) * _ := Px (show kJ ns (dV ns f l) (ee ns f l) (dV ns g l) (ee ns g l) - (l + 1) ≤ T - l - 1 by unfold kJ; omega)
      have r6 := Qe (T - l - 1) (T - min (d8 ns (dV ns f l)) (d8 ns (dV ns g l))) _ _ _ _ _ _ _ _ _ (by omega) (by have := H1.cnt; omega) (by have := H2.cnt; omega) r1 r2 r3 r4 r5
      rw [← H1.cnt, ← H2.cnt, show T - l - 1 + 1 = T - l by omega] at r6
      exact r6
theorem Qi (h : Wf ns) {T f g : Nat} (hf : f < ns.length + 2) (hg : g < ns.length + 2) (tf : tp ns f ≤ T) (tg : tp ns g ≤ T) : pc ns f g ≤ rh (T - min (d8 ns f) (d8 ns g)) * ((dQ ns f).length * (dQ ns g).length) := AQ h T _ f g hf hg tf tg
end
theorem N8 : FN qa := by
  refine ⟨fun l A0 A1 B0 B1 hA0 hA1 hB0 hB1 x => ?_, fun ns f g h hf hg ht => ?_, fun f g hf => MC hf, fun ns f g l h hf hg he hl h24 => JI h hf hg he hl h24, fun ns ns' l f0 f1 g0 g1 hp h v0 v1 v2 v3 => ?_⟩
  · simp only [qa, mH]
    constructor
    · rintro ⟨a, b, ha | ⟨p, ha, rfl⟩, hb | ⟨q, hb, rfl⟩, rfl⟩
      · exact .inl ⟨a, b, ha, hb, rfl⟩
      · exact .inr ⟨a ||| q, .inr (.inl ⟨a, q, ha, hb, rfl⟩), (q7 (hA0 a ha) (hB1 q hb)).2.1⟩
      · exact .inr ⟨p ||| b, .inl ⟨p, b, ha, hb, rfl⟩, (q7 (hA1 p ha) (hB0 b hb)).1⟩
      · exact .inr ⟨p ||| q, .inr (.inr ⟨p, q, ha, hb, rfl⟩), (q7 (hA1 p ha) (hB1 q hb)).2.2.1⟩
    · rintro (⟨a, b, ha, hb, rfl⟩ | ⟨y, ⟨a, b, ha, hb, rfl⟩ | ⟨a, b, ha, hb, rfl⟩ | ⟨a, b, ha, hb, rfl⟩, rfl⟩)
      · exact ⟨a, b, .inl ha, .inl hb, rfl⟩
      · exact ⟨a + 2 ^ l, b, .inr ⟨a, ha, rfl⟩, .inl hb, (q7 (hA1 a ha) (hB0 b hb)).1.symm⟩
      · exact ⟨a, b + 2 ^ l, .inl ha, .inr ⟨b, hb, rfl⟩, (q7 (hA0 a ha) (hB1 b hb)).2.1.symm⟩
      · exact ⟨a + 2 ^ l, b + 2 ^ l, .inr ⟨a, ha, rfl⟩, .inr ⟨b, hb, rfl⟩, (q7 (hA1 a ha) (hB1 b hb)).2.2.1.symm⟩
  · have hm1 : ∀ x, M ns 1 x ↔ x = 0 := fun x => by unfold M; rw [mu]; exact List.mem_singleton
    simp only [qa, BZ] at ht ⊢
    have := mE h hf
    by_cases hc : f = 0 ∨ g = 0
    · rw [if_pos hc]
      refine ⟨by omega, by rw [LR]; omega, fun x => ⟨fun k => absurd k (Gm ns x), fun ⟨a, b, h1, h2, _⟩ => ?_⟩⟩
      rcases hc with rfl | rfl
      · exact absurd h1 (Gm ns a)
      · exact absurd h2 (Gm ns b)
    · rw [if_neg hc] at ht ⊢
      by_cases h1 : f = 1
      · subst h1
        rw [if_pos rfl]
        refine ⟨hg, Nat.min_le_right _ _, fun x => ⟨fun k => ⟨0, x, (hm1 0).2 rfl, k, by simp⟩, ?_⟩⟩
        rintro ⟨a, b, ha, hb, rfl⟩
        rw [(hm1 a).1 ha, Nat.zero_or]
        exact hb
      · rw [if_neg h1] at ht ⊢
        obtain rfl : g = 1 := of_decide_eq_true ht
        refine ⟨hf, Nat.min_le_left _ _, fun x => ⟨fun k => ⟨x, 0, k, (hm1 0).2 rfl, by simp⟩, ?_⟩⟩
        rintro ⟨a, b, ha, hb, rfl⟩
        rw [(hm1 b).1 hb, Nat.or_zero]
        exact ha
  · show O9 ns' l f0 f1 g0 g1 = O9 ns l f0 f1 g0 g1
    unfold O9
    rw [rM hp h v1 v2, rM hp h v0 v3, rM hp h v1 v3, ER hp v0 v1 v2 v3]
def ob (p : Nat × Nat) : Value := .agg #[.int .i64 (p.1 : Int), .int .i64 (p.2 : Int)]
theorem ww (a b : Nat × Nat) (h : ob a = ob b) : a = b := by
  obtain ⟨a1, a2⟩ := a
  obtain ⟨b1, b2⟩ := b
  simp only [ob, Value.agg.injEq, Array.mk.injEq, List.cons.injEq, Value.int.injEq, true_and, and_true] at h
  simp only [Prod.mk.injEq]
  omega
structure Eo (res : (Nat → Prop) → (Nat → Prop) → Nat → Prop) (ns : List Nd) (p : (Nat × Nat) × Int) : Prop where
  v1 : p.1.1 < ns.length + 2
  v2 : p.1.2 < ns.length + 2
  id : ∃ id : Nat, p.2 = (id : Int) ∧ id < ns.length + 2 ∧ min (d8 ns p.1.1) (d8 ns p.1.2) ≤ d8 ns id ∧ ∀ x, x ∈ dQ ns id ↔ res (M ns p.1.1) (M ns p.1.2) x
def qz (res : (Nat → Prop) → (Nat → Prop) → Nat → Prop) (ns : List Nd) (dl : List ((Nat × Nat) × Int)) : Prop := ∀ p, p ∈ dl → Eo res ns p
theorem Eo.pre {res : (Nat → Prop) → (Nat → Prop) → Nat → Prop} {ns ns' : List Nd} {p : (Nat × Nat) × Int} (hp : ns <+: ns') (h : Eo res ns p) : Eo res ns' p := by
  have hl := fX hp
  obtain ⟨id, h1, h2, h3, h4⟩ := h.id
  refine ⟨by have := h.v1; omega, by have := h.v2; omega, id, h1, by omega, ?_, ?_⟩
  · rw [gH hp h.v1, gH hp h.v2, gH hp h2]; exact h3
  · rw [iA hp h.v1, iA hp h.v2, gC hp h2]; exact h4
theorem qz.pre {res : (Nat → Prop) → (Nat → Prop) → Nat → Prop} {ns ns' : List Nd} {dl : List ((Nat × Nat) × Int)} (hp : ns <+: ns') (h : qz res ns dl) : qz res ns' dl := fun p q => (h p q).pre hp
theorem AS {α β : Type} [DecidableEq α] {l : List (α × β)} {k : α} {v : β} {p : α × β} (h : p ∈ g7 l k v) : p ∈ l ∨ p = (k, v) := by
  unfold g7 at h
  split at h
  · obtain ⟨q, hq, e⟩ := List.mem_map.1 h
    split at e
    · exact .inr e.symm
    · exact .inl (e ▸ hq)
  · rcases List.mem_append.1 h with h | h
    · exact .inl h
    · exact .inr (by simpa using h)
theorem vR {α β : Type} [DecidableEq α] : ∀ {l : List (α × β)} {k : α} {v : β}, g6 l k = some v → (k, v) ∈ l
  | [], _, _, h => by cases h
  | (a, b) :: r, k, v, h => by
    simp only [g6] at h
    by_cases e : a = k
    · rw [if_pos e] at h
      cases h; subst e
      exact List.mem_cons_self ..
    · rw [if_neg e] at h
      exact List.mem_cons_of_mem _ (vR h)
section
variable {o : Op} {ns ns1 ns2 ns3 : List Nd} {R f g l l1 l2 c1 c2 c low high id : Nat} {er : Int}
theorem NG (ho : FN o) (h : Wf ns) (hf : f < ns.length + 2) (hg : g < ns.length + 2) (hl : l = min (d8 ns f) (d8 ns g)) (h24 : l < 24)
    (g1 : jv ns ns1 R c1 l1 (o.res (M ns (dV ns f l)) (M ns (dV ns g l))) low 0)
    (g2 : jv ns1 ns2 R c2 l2 (o.resH (M ns1 (dV ns f l)) (M ns1 (ee ns f l)) (M ns1 (dV ns g l)) (M ns1 (ee ns g l))) high 0)
    (g3 : jv ns2 ns3 R 1 l (up l (M ns2 low) (M ns2 high)) id er) (hc : c1 + c2 + 1 ≤ c) : jv ns ns3 R c l (o.res (M ns f) (M ns g)) id er := by
  have H1 := gZ h hf (l := l) (by omega) h24
  have H2 := gZ h hg (l := l) (by omega) h24
  refine (((jv.then' g1 g2 (Nat.le_refl _)).then' g3 (Nat.le_refl _)).weak (c := c) (by omega) fun x => ?_)
  obtain ⟨v1, _, m1⟩ := g1.ok rfl
  obtain ⟨v2, _, m2⟩ := g2.ok rfl
  have eF : M ns f = up l (M ns (dV ns f l)) (M ns (ee ns f l)) := fH H1.mem
  have eG : M ns g = up l (M ns (dV ns g l)) (M ns (ee ns g l)) := fH H2.mem
  rw [eF, eG, ho.dec l _ _ _ _ (Ed h H1.va H1.la) (Ed h H1.vb H1.lb) (Ed h H2.va H2.la) (Ed h H2.vb H2.lb)]
  have e1 : M ns2 low = o.res (M ns (dV ns f l)) (M ns (dV ns g l)) := by
    rw [iA g2.pre v1]; exact fH m1
  have e2 : M ns2 high = o.resH (M ns (dV ns f l)) (M ns (ee ns f l)) (M ns (dV ns g l)) (M ns (ee ns g l)) := by
    rw [← iA g1.pre H1.va, ← iA g1.pre H1.vb, ← iA g1.pre H2.va, ← iA g1.pre H2.vb]; exact fH m2
  rw [e1, e2]
end
end
section
open Go Go.RowKit
section
variable {P : Program} {f : Nat → Value} {w : World} {d : Option Nat} {ty : TypeId} {ps : String} {af : Array Edge} {g : Option (Nat × Bool)} {x y : Operand} {t t2 e : TypeId}
theorem B8 (hu : P.underlying t = some (.pointer e)) : P.underlying t = some (.pointer (P.pointee t)) := by
  rw [hu]
  simp [Program.pointee, hu]
theorem pu {a : Addr} (hx : dO f x = .pointer (some a)) (hy : dO f y = .pointer none) (hu : P.underlying t = some (.pointer e)) : (execOp (dO f) ⟨d, .binOp .eql t x y t2, ty, ps, af, g⟩).run P w = .ok (.value (.bool false)) w := by
  have h := run_eql_pointer_nil w t (some a) (B8 hu)
  simp [execOp, hx, hy, eqGuard, h]
theorem MX {m n : Nat} {k : IntKind} {tys : Array TypeId} (hx : dO f x = .int k (m : Int)) (hy : dO f y = .int k (n : Int)) : (execOp (dO f) ⟨d, .call ⟨.builtin .min, #[x, y], tys⟩, ty, ps, af, g⟩).run P w = .ok (.value (.int k ((min m n : Nat) : Int))) w := by
  simp [execOp, resolve, invoke, builtin, hx, hy, Builtin.min_, Builtin.min2]
  split <;> omega
theorem BO {q : Nat} {a : Operand} {v : Value} (h : dO f a = v) :
    (execOp (dO f) ⟨d, .makeFunc (.func q) #[a] #[], ty, ps, af, g⟩).run P w = .ok (.value (.func (.func q) #[v] #[])) w := by
  simp [execOp, Instr.makeFunc, h]
theorem Be {cs : Array Value} {n sz : Nat} {v : Value} {k : IntKind} {i : Nat} (hx : dO f x = .agg cs) (hy : dO f y = .int k (i : Int)) (hu : P.underlying t = some (.array n e)) (hi : i < n) (hs : (sizeOf e).run P w = .ok sz w) (hp : (part e cs (i * sz)).run P w = .ok v w) :
    (execOp (dO f) ⟨d, .index t x y, ty, ps, af, g⟩).run P w = .ok (.value v) w := by
  simp [execOp, hx, hy, Instr.index, asIntOf, run_underlying hu, hi, hs, hp]
end
section
variable {P : Program} {fr : Nat → Value} {w : World} {d : Option Nat} {ty : TypeId} {ps : String} {af : Array Edge} {g : Option (Nat × Bool)} {x y : Operand} {t kt et : TypeId} {b : Nat}
variable {α β : Type} [DecidableEq α] {enc : α → Value} {encV : β → Value} {l : List (α × β)} {k : α} {S : Value → Prop}
theorem xV {z0 : Value} {v0 : β} (hx : dO fr x = .map (some b)) (hy : dO fr y = enc k) (hT : lK P t = some (kt, et)) (KO : oS P kt S) (hS : ∀ a, S (enc a)) (hi : ∀ a a', enc a = enc a' → a = a')
    (hz : eL P et = some z0) (hz0 : z0 = encV v0) (hm : dR enc encV w b l) :
    (execOp (dO fr) ⟨d, .lookup t x y true, ty, ps, af, g⟩).run P w = .ok (.value (.tuple #[encV ((g6 l k).getD v0), .bool (g6 l k).isSome])) w := by
  subst hz0
  obtain ⟨f, clock, hm⟩ := hm
  unfold eL at hz
  obtain ⟨i, hi2, hzz⟩ := Option.bind_eq_some_iff.1 hz
  rcases rP (P := P) (kt := kt) (encV := encV) KO hS hi (f := f) hm.nodup w k with ⟨h1, h2⟩ | ⟨j, v, h1, h2, h3⟩
  · rw [nD.2 h2]
    simp [execOp, hx, hy, Instr.lookup, run_underlying (ip hT), getObj, Sem.run, hm.heap, Result.andThen, KO.check w _ (hS k), h1, zeroValue, typeInfo, hi2, hzz]
  · rw [h3]
    simp [execOp, hx, hy, Instr.lookup, run_underlying (ip hT), getObj, Sem.run, hm.heap, Result.andThen, KO.check w _ (hS k), h1]
end
def PD (Ta Tn : TypeId) (N ba bm R bx : Nat) (res : (Nat → Prop) → (Nat → Prop) → Nat → Prop) (w : World) (ns : List Nd) (c l : Nat) (S : Nat → Prop) (v : Value) (w' : World) : Prop :=
  ∃ (ns' : List Nd) (id : Nat) (er : Int) (dl : List ((Nat × Nat) × Int)), v = .tuple #[.int .i64 (id : Int), .int .i64 er] ∧ Dx Tn N [bx, ba, bm] w w' ∧ fD Ta Tn N ba bm R w' ns' ∧ jv ns ns' R c l S id er ∧ dR ob eK w' bx dl ∧ qz res ns' dl
theorem PD.dx {Ta Tn : TypeId} {N ba bm R bx : Nat} {res : (Nat → Prop) → (Nat → Prop) → Nat → Prop} {w w' : World} {ns : List Nd} {c l : Nat} {S : Nat → Prop} {v : Value} (h : PD Ta Tn N ba bm R bx res w ns c l S v w') : Dx Tn N [bx, ba, bm] w w' := by
  obtain ⟨_, _, _, _, _, h, _⟩ := h; exact h
section
variable {Ta Tn T : TypeId} {N N' ba bm R b bx sz : Nat} {w w' : World} {ns : List Nd} {c : Array Value} {dl : List ((Nat × Nat) × Int)}
theorem At.dxm (k : fD Ta Tn N ba bm R w ns) (hq : dR ob eK w bx dl) (hx : Dx Tn N [bx, ba, bm] w w') (hm : At w b c T) (hTa : T ≠ Ta) (hTn : T ≠ Tn) : At w' b c T := At.dx3 k hx hm hTa hTn (At.ne_map hm hq)
theorem Dx.done {w0 : World} (h : Dx Tn N [bx, ba, bm] w0 w) (k : Dx Tn N [ba, bm] w w') : Dx Tn N [bx, ba, bm] w0 w' := h.trans (k.mono (fun x hx => List.mem_cons_of_mem _ hx))
theorem Dx.toX (k : Dx Tn N [ba, bm] w w') : Dx Tn N [bx, ba, bm] w w' := k.mono (fun x hx => List.mem_cons_of_mem _ hx)
end
end
section
open Go Go.RowKit
def ic (ns : List Nd) (id : Int) : Bool := decide (2 ≤ id ∧ id < (ns.length : Int) + 2)
theorem Jd {ns : List Nd} {id : Int} (h : ¬ 2 ≤ id) : Value.bool false = .bool (ic ns id) := congrArg Value.bool (decide_eq_false (fun k => h k.1)).symm
theorem I2 {ns : List Nd} {id : Int} (h : ¬ id - 2 < (ns.length : Int)) : Value.bool false = .bool (ic ns id) := congrArg Value.bool (decide_eq_false (fun k => h (by omega))).symm
theorem Oy {ns : List Nd} {id : Int} {x : Nat} (h : 2 ≤ id) (h2 : id - 2 < (ns.length : Int)) : Value.bool (decide (¬ ((x : Nat) : Int) = -1)) = .bool (ic ns id) := congrArg Value.bool (by
  rw [decide_eq_true (show ¬ ((x : Nat) : Int) = -1 by omega)]
  exact (decide_eq_true ⟨h, by omega⟩).symm)
theorem P5 {ns : List Nd} {id : Nat} (h : (id : Int) = 0 ∨ (id : Int) = 1) : Value.int .i64 24 = .int .i64 ((d8 ns id : Nat) : Int) := by
  rw [kL (by omega)]; rfl
theorem QQ {ns : List Nd} {id : Nat} (h : ¬ (id : Int) = 0) (h2 : ¬ (id : Int) = 1) : Value.int .i64 (((ns.getD ((id : Int) - 2).toNat mP).l : Nat) : Int) = .int .i64 ((d8 ns id : Nat) : Int) := by
  obtain ⟨i, rfl⟩ : ∃ i, id = i + 2 := ⟨id - 2, by omega⟩
  rw [jF, show (((i + 2 : Nat) : Int) - 2).toNat = i by omega]
theorem N3 {ns : List Nd} {id : Nat} (hid : id < ns.length + 2) (h : ¬ (id : Int) = 0) (h2 : ¬ (id : Int) = 1) (h3 : ic ns (id : Int) = false) : False := by
  have := of_decide_eq_false h3
  omega
def lI (ns : List Nd) (id : Int) : Nd := if ic ns id = true then ns.getD (id - 2).toNat mP else mP
theorem Ma {ns : List Nd} {id : Int} (h : (!ic ns id) = true) : ic ns id = false ∧ lI ns id = mP := by
  have h2 : ic ns id = false := by cases k : ic ns id <;> simp_all
  exact ⟨h2, by unfold lI; rw [h2]; rfl⟩
theorem J8 {ns : List Nd} {id : Int} (h : (!ic ns id) = false) : ic ns id = true ∧ lI ns id = ns.getD (id - 2).toNat mP := by
  have h2 : ic ns id = true := by cases k : ic ns id <;> simp_all
  exact ⟨h2, by unfold lI; rw [h2]; rfl⟩
theorem nx {ns : List Nd} {id : Int} : ic ns id = true ↔ 2 ≤ id ∧ id < (ns.length : Int) + 2 := decide_eq_true_iff
def rB (ns : List Nd) (id : Int) : Int := if 0 ≤ id ∧ id < (ns.length : Int) + 2 then ((d8 ns id.toNat : Nat) : Int) else -1
theorem Pn {ns : List Nd} {id : Int} (h : id = 0 ∨ id = 1) : Value.int .i64 24 = .int .i64 (rB ns id) := by
  unfold rB
  rw [if_pos ⟨by omega, by omega⟩, kL (by omega)]; rfl
theorem Qu {ns : List Nd} {id : Int} (h3 : ic ns id = true) : Value.int .i64 (((lI ns id).l : Nat) : Int) = .int .i64 (rB ns id) := by
  have h4 := nx.1 h3
  unfold lI rB
  rw [h3, if_pos rfl, if_pos ⟨by omega, by omega⟩]
  obtain ⟨i, rfl⟩ : ∃ i : Nat, id = ((i + 2 : Nat) : Int) := ⟨(id - 2).toNat, by omega⟩
  rw [Int.toNat_natCast, jF, show (((i + 2 : Nat) : Int) - 2).toNat = i by omega]
theorem QF {ns : List Nd} {id : Int} (h : ¬ id = 0) (h2 : ¬ id = 1) (h3 : ic ns id = false) : Value.int .i64 (-1) = .int .i64 (rB ns id) := by
  have := of_decide_eq_false h3
  unfold rB
  rw [if_neg (by omega)]
theorem AX {ns : List Nd} {id : Nat} (h : id < ns.length + 2) : rB ns (id : Int) = ((d8 ns id : Nat) : Int) := by
  unfold rB
  rw [if_pos ⟨by omega, by omega⟩, Int.toNat_natCast]
def nt (ns : List Nd) (id : Int) : Bool := decide (0 ≤ id ∧ id < (ns.length : Int) + 2)
theorem Cp {ns : List Nd} {id : Int} : nt ns id = true ↔ 0 ≤ id ∧ id < (ns.length : Int) + 2 := decide_eq_true_iff
theorem Pj {ns : List Nd} {id : Int} (h : rB ns id < 0) : ¬ nt ns id = true := fun k => by
  have := Cp.1 k
  unfold rB at h
  rw [if_pos this] at h
  omega
theorem MQ {ns : List Nd} {id : Int} (h : ¬ rB ns id < 0) : nt ns id = true := Cp.2 (by
  unfold rB at h
  split at h
  · assumption
  · omega)
theorem L3 {ns : List Nd} {li : List Int} {k : Nat} (hk : k < li.length) (h : rB ns (li.getD k 0) < 0) : Value.bool false = .bool (li.all (nt ns)) := congrArg Value.bool (Eq.symm (Bool.eq_false_iff.2 fun q => Pj h (List.all_eq_true.1 q _ (dS hk))))
theorem JV {ns : List Nd} {li : List Int} {k : Nat} (hk : k = li.length) (h : ∀ q, q < k → nt ns (li.getD q 0) = true) : Value.bool true = .bool (li.all (nt ns)) := congrArg Value.bool (Eq.symm (List.all_eq_true.2 fun x hx => by
  obtain ⟨j, hj, rfl⟩ := List.getElem_of_mem hx
  have := h j (by omega)
  rwa [List.getD_eq_getElem?_getD, List.getElem?_eq_getElem hj] at this))
theorem NY {ns : List Nd} (h : Wf ns) {n : Nd} (hs : (g6 (oZ ns) n).isSome = true) : ∃ i, i < ns.length ∧ ns.getD i mP = n ∧ (g6 (oZ ns) n).getD 0 = ((i + 2 : Nat) : Int) := by
  cases k : g6 (oZ ns) n with
  | none => rw [k] at hs; cases hs
  | some v =>
    obtain ⟨i, h1, h2, h3⟩ := FJ h.nd k
    exact ⟨i, h1, h2, h3⟩
theorem NO {ns : List Nd} {n : Nd} (hs : (g6 (oZ ns) n).isSome = false) : n ∉ ns := by
  cases k : g6 (oZ ns) n with
  | none => exact Fg k
  | some v => rw [k] at hs; cases hs
theorem O6 {ns : List Nd} (h : Wf ns) {i l lo hi R c : Nat} (hi' : i < ns.length) (hn : ns.getD i mP = ⟨l, lo, hi⟩) : jv ns ns R c l (up l (M ns lo) (M ns hi)) (i + 2) 0 := by
  refine jv.same (by omega) (by rw [jF, hn]; exact Nat.le_refl _) fun x => ?_
  rw [iz h hi', hn, List.mem_append, List.mem_map]
  exact or_congr Iff.rfl ⟨fun ⟨y, a, b⟩ => ⟨y, a, b.symm⟩, fun ⟨y, a, b⟩ => ⟨y, a, b.symm⟩⟩
theorem Nv {ns : List Nd} {l lo hi R : Nat} (hlo : lo < ns.length + 2) (hhi : hi < ns.length + 2) : jv ns (ns ++ [⟨l, lo, hi⟩]) R 1 l (up l (M ns lo) (M ns hi)) (ns.length + 2) 0 := by
  refine ⟨List.prefix_append _ _, by simp, .inl ⟨rfl, by simp, ?_, fun x => ?_⟩⟩
  · rw [jF, List.getD_eq_getElem?_getD, List.getElem?_append_right (Nat.le_refl _), Nat.sub_self]
    exact Nat.le_refl _
  · rw [qT, List.mem_append, List.mem_map]
    exact or_congr Iff.rfl ⟨fun ⟨y, a, b⟩ => ⟨y, a, b.symm⟩, fun ⟨y, a, b⟩ => ⟨y, a, b.symm⟩⟩
theorem LH {ns : List Nd} {R c l : Nat} {S : Nat → Prop} (h : R ≤ ns.length) : jv ns ns R c l S 0 5 := ⟨List.prefix_refl _, by omega, .inr ⟨rfl, rfl, h⟩⟩
theorem FL {ns : List Nd} {l lo hi : Nat} (h : (hi : Int) = 0) : ∀ x, x ∈ dQ ns lo ↔ up l (M ns lo) (M ns hi) x := fun x => by
  obtain rfl : hi = 0 := by omega
  unfold up
  exact ⟨.inl, fun k => k.elim _root_.id fun ⟨y, hy, _⟩ => absurd hy (Gm ns y)⟩
theorem xw {ns : List Nd} {f : Nat} (h : ic ns (f : Int) = true) : 2 ≤ f ∧ lI ns (f : Int) = ns.getD (f - 2) mP ∧ d8 ns f = (lI ns (f : Int)).l := by
  have h4 := nx.1 h
  unfold lI
  rw [h, if_pos rfl]
  obtain ⟨i, rfl⟩ : ∃ i, f = i + 2 := ⟨f - 2, by omega⟩
  rw [show (((i + 2 : Nat) : Int) - 2).toNat = i by omega]
  exact ⟨by omega, rfl, jF i⟩
theorem QD {ns : List Nd} {f l : Nat} (h : ic ns (f : Int) = true) (hl : ((lI ns (f : Int)).l : Int) = (l : Int)) : Value.tuple #[.int .i64 ((lI ns (f : Int)).lo : Int), .int .i64 ((lI ns (f : Int)).hi : Int)] = .tuple #[.int .i64 ((dV ns f l : Nat) : Int), .int .i64 ((ee ns f l : Nat) : Int)] := by
  obtain ⟨h1, h2, h3⟩ := xw h
  unfold dV ee
  rw [if_pos ⟨h1, by omega⟩, if_pos ⟨h1, by omega⟩, h2]
theorem PL {ns : List Nd} {f l : Nat} (hf : f < ns.length + 2) (h : ¬ (ic ns (f : Int) = true ∧ ((lI ns (f : Int)).l : Int) = (l : Int))) : Value.tuple #[.int .i64 (f : Int), .int .i64 0] = .tuple #[.int .i64 ((dV ns f l : Nat) : Int), .int .i64 ((ee ns f l : Nat) : Int)] := by
  unfold dV ee
  have hc : ¬ (2 ≤ f ∧ d8 ns f = l) := fun ⟨a, b⟩ => h (by
    have ht : ic ns (f : Int) = true := nx.2 (by omega)
    obtain ⟨_, _, h3⟩ := xw ht
    exact ⟨ht, by omega⟩)
  rw [if_neg hc, if_neg hc]
  rfl
end
section
open Go Go.RowKit
theorem IH {b : Bool} (h : (!b) = true) : b = false := by cases b <;> simp_all
theorem y9 {a b : Nat} : decide ((a : Int) = (b : Int)) = decide (a = b) := by
  by_cases h : a = b
  · rw [decide_eq_true h, decide_eq_true (by omega)]
  · rw [decide_eq_false h, decide_eq_false (by omega)]
theorem F2 {f g : Nat} (h : (f : Int) = 0 ∨ (f : Int) = (g : Int)) : Value.tuple #[.int .i64 (g : Int), .bool true] = .tuple #[.int .i64 ((nI.ends f g).1 : Int), .bool (nI.ends f g).2] := by
  have e : nI.ends f g = (g, true) := if_pos (by omega)
  rw [e]
theorem NP {f g : Nat} (h : ¬ (f : Int) = 0) (h2 : ¬ (f : Int) = (g : Int)) : Value.tuple #[.int .i64 (f : Int), .bool (decide ((g : Int) = 0))] = .tuple #[.int .i64 ((nI.ends f g).1 : Int), .bool (nI.ends f g).2] := by
  have e : nI.ends f g = (f, decide (g = 0)) := if_neg (by omega)
  rw [e, show decide ((g : Int) = 0) = decide (g = 0) from y9 (b := 0)]
theorem FE {f g : Nat} (h : (f : Int) = 0 ∨ (f : Int) = (g : Int)) : Value.tuple #[.int .i64 0, .bool true] = .tuple #[.int .i64 ((sQ.ends f g).1 : Int), .bool (sQ.ends f g).2] := by
  have e : sQ.ends f g = (0, true) := if_pos (by omega)
  rw [e]; rfl
theorem Oh {f g : Nat} (h : ¬ (f : Int) = 0) (h2 : ¬ (f : Int) = (g : Int)) : Value.tuple #[.int .i64 (f : Int), .bool (decide ((g : Int) = 0))] = .tuple #[.int .i64 ((sQ.ends f g).1 : Int), .bool (sQ.ends f g).2] := by
  have e : sQ.ends f g = (f, decide (g = 0)) := if_neg (by omega)
  rw [e, show decide ((g : Int) = 0) = decide (g = 0) from y9 (b := 0)]
theorem zV {f g : Nat} (h : (f : Int) = 0 ∨ (g : Int) = 0) : Value.tuple #[.int .i64 0, .bool true] = .tuple #[.int .i64 ((qa.ends f g).1 : Int), .bool (qa.ends f g).2] := by
  have e : qa.ends f g = (0, true) := if_pos (by omega)
  rw [e]; rfl
theorem Lo {f g : Nat} (h : ¬ (f : Int) = 0) (h2 : ¬ (g : Int) = 0) (h3 : (f : Int) = 1) : Value.tuple #[.int .i64 (g : Int), .bool true] = .tuple #[.int .i64 ((qa.ends f g).1 : Int), .bool (qa.ends f g).2] := by
  have e : qa.ends f g = (g, true) := (if_neg (by omega)).trans (if_pos (by omega))
  rw [e]
theorem K1 {f g : Nat} (h : ¬ (f : Int) = 0) (h2 : ¬ (g : Int) = 0) (h3 : ¬ (f : Int) = 1) : Value.tuple #[.int .i64 (f : Int), .bool (decide ((g : Int) = 1))] = .tuple #[.int .i64 ((qa.ends f g).1 : Int), .bool (qa.ends f g).2] := by
  have e : qa.ends f g = (f, decide (g = 1)) := (if_neg (by omega)).trans (if_neg (by omega))
  rw [e, show decide ((g : Int) = 1) = decide (g = 1) from y9 (b := 1)]
theorem jv.low {ns ns' : List Nd} {R c l l2 : Nat} {S : Nat → Prop} {id : Nat} {er : Int} (g : jv ns ns' R c l S id er) (h : l2 ≤ l) : jv ns ns' R c l2 S id er :=
  ⟨g.pre, g.cost, g.res.imp (fun ⟨a, b, d, e⟩ => ⟨a, b, by omega, e⟩) _root_.id⟩
theorem jv.cheap {ns ns' : List Nd} {R c c2 l : Nat} {S : Nat → Prop} {id : Nat} {er : Int} (g : jv ns ns' R c l S id er) (h : c ≤ c2) : jv ns ns' R c2 l S id er := g.weak h (fun _ => Iff.rfl)
theorem Gz {res : (Nat → Prop) → (Nat → Prop) → Nat → Prop} {ns : List Nd} {dl : List ((Nat × Nat) × Int)} {f g : Nat} (h : qz res ns dl) (hs : (g6 dl (f, g)).isSome = true) :
    ∃ id : Nat, (g6 dl (f, g)).getD 0 = (id : Int) ∧ id < ns.length + 2 ∧ min (d8 ns f) (d8 ns g) ≤ d8 ns id ∧ ∀ x, x ∈ dQ ns id ↔ res (M ns f) (M ns g) x := by
  cases k : g6 dl (f, g) with
  | none => rw [k] at hs; cases hs
  | some v =>
    obtain ⟨id, h1, h2, h3, h4⟩ := (h _ (vR k)).id
    exact ⟨id, h1, h2, h3, h4⟩
theorem Il {res : (Nat → Prop) → (Nat → Prop) → Nat → Prop} {ns ns' : List Nd} {dl : List ((Nat × Nat) × Int)} {f g id l R c : Nat} {er : Int} (h : qz res ns' dl) (hf : f < ns.length + 2) (hg : g < ns.length + 2) (hl : min (d8 ns f) (d8 ns g) = l) (hgot : jv ns ns' R c l (res (M ns f) (M ns g)) id er) (he : er = 0) : qz res ns' (g7 dl (f, g) (id : Int)) := fun p hp => by
  rcases AS hp with hp | rfl
  · exact h p hp
  · obtain ⟨v1, v2, v3⟩ := hgot.ok he
    obtain ⟨a1, a2, a3⟩ := hgot.old hf
    obtain ⟨b1, b2, b3⟩ := hgot.old hg
    refine ⟨a1, b1, id, rfl, v1, by rw [a3, b3, hl]; exact v2, ?_⟩
    rw [iA hgot.pre hf, iA hgot.pre hg]
    exact v3
theorem qz.nil {res : (Nat → Prop) → (Nat → Prop) → Nat → Prop} {ns : List Nd} : qz res ns [] := fun p h => by cases h
theorem iY : ∀ {l1 l2 : List Nat}, l1.Nodup → (∀ x, x ∈ l1 → x ∈ l2) → l1.length ≤ l2.length
  | [], _, _, _ => Nat.zero_le _
  | x :: xs, l2, hn, hs => by
    obtain ⟨h1, h2⟩ := List.nodup_cons.1 hn
    have hx := hs x (List.mem_cons_self ..)
    have := iY (l2 := l2.erase x) h2 (fun y hy => (List.mem_erase_of_ne (fun (e : y = x) => h1 (e ▸ hy))).2 (hs y (List.mem_cons_of_mem _ hy)))
    rw [List.length_erase_of_mem hx] at this
    have hp := List.length_pos_of_mem hx
    rw [List.length_cons]; omega
theorem FK {ns ns' : List Nd} (h : Wf ns') {id a b : Nat} (hid : id < ns'.length + 2) (hs : ∀ x, x ∈ dQ ns' id → mH (M ns a) (M ns b) x) : (dQ ns' id).length ≤ (dQ ns a).length * (dQ ns b).length := by
  have h1 := iY (l2 := (dQ ns a).flatMap fun x => (dQ ns b).map fun y => x ||| y) (jo h id hid) (fun x hx => by
    obtain ⟨p, q, hp, hq, rfl⟩ := hs x hx
    exact List.mem_flatMap.2 ⟨p, hp, List.mem_map.2 ⟨q, hq, rfl⟩⟩)
  have h2 : ∀ (l : List Nat), (l.flatMap fun x => (dQ ns b).map fun y => x ||| y).length = l.length * (dQ ns b).length := fun l => by
    induction l with
    | nil => simp
    | cons x l ih => rw [List.flatMap_cons, List.length_append, List.length_map, ih, List.length_cons, Nat.add_mul]; omega
  rw [h2] at h1
  exact h1
def zT (f0 f1 i : Nat) : Nat := [f1, f0, f1].getD i 0
def zN (g0 g1 i : Nat) : Nat := [g0, g1, g1].getD i 0
def JU (A0 A1 B0 B1 : Nat → Prop) (i : Nat) (x : Nat) : Prop := (1 ≤ i ∧ mH A1 B0 x) ∨ (2 ≤ i ∧ mH A0 B1 x) ∨ (3 ≤ i ∧ mH A1 B1 x)
def QH (a0 a1 b0 b1 : Nat) : Nat → Nat
  | 0 => 0
  | 1 => a1 * b0
  | 2 => a1 * b0 + a0 * b1
  | _ => a1 * b0 + a0 * b1 + a1 * b1
def JR (ns : List Nd) (l f0 f1 g0 g1 : Nat) : Nat → Nat
  | 0 => 0
  | 1 => pc ns f1 g0
  | 2 => pc ns f1 g0 + pc ns f0 g1 + (kJ ns f0 f1 g0 g1 - (l + 1)) * min ((dQ ns f1).length * (dQ ns g0).length) ((dQ ns f0).length * (dQ ns g1).length)
  | _ => pc ns f1 g0 + pc ns f0 g1 + pc ns f1 g1 + JS ns l f0 f1 g0 g1
theorem QI (A0 A1 B0 B1 : Nat → Prop) (ns : List Nd) (x : Nat) : x ∈ dQ ns 0 ↔ JU A0 A1 B0 B1 0 x := by
  rw [mj]
  unfold JU
  exact ⟨fun h => (by cases h), fun h => (by omega)⟩
theorem QG (A0 A1 B0 B1 : Nat → Prop) (x : Nat) : JU A0 A1 B0 B1 3 x ↔ qa.resH A0 A1 B0 B1 x := by
  unfold JU qa
  simp
theorem Qz {A0 A1 B0 B1 P Q : Nat → Prop} {i : Nat} (hi : i < 3) (hP : P = [A1, A0, A1].getD i A0) (hQ : Q = [B0, B1, B1].getD i B0) (x : Nat) : (JU A0 A1 B0 B1 i x ∨ mH P Q x) ↔ JU A0 A1 B0 B1 (i + 1) x := by
  subst hP hQ
  have : i = 0 ∨ i = 1 ∨ i = 2 := by omega
  unfold JU
  rcases this with rfl | rfl | rfl
  · constructor
    · rintro (h | h)
      · omega
      · exact .inl ⟨by omega, h⟩
    · rintro (h | h | h)
      · exact .inr h.2
      · omega
      · omega
  · constructor
    · rintro ((h | h | h) | h)
      · exact .inl ⟨by omega, h.2⟩
      · omega
      · omega
      · exact .inr (.inl ⟨by omega, h⟩)
    · rintro (h | h | h)
      · exact .inl (.inl ⟨by omega, h.2⟩)
      · exact .inr h.2
      · omega
  · constructor
    · rintro ((h | h | h) | h)
      · exact .inl ⟨by omega, h.2⟩
      · exact .inr (.inl ⟨by omega, h.2⟩)
      · omega
      · exact .inr (.inr ⟨by omega, h⟩)
    · rintro (h | h | h)
      · exact .inl (.inl ⟨by omega, h.2⟩)
      · exact .inl (.inr (.inl ⟨by omega, h.2⟩))
      · exact .inr h.2
theorem Jx {ns : List Nd} {l f0 f1 g0 g1 i : Nat} (hi : i < 3) : JR ns l f0 f1 g0 g1 i + (pc ns (zT f0 f1 i) (zN g0 g1 i) + (kJ ns f0 f1 g0 g1 - (l + 1)) * min (QH (dQ ns f0).length (dQ ns f1).length (dQ ns g0).length (dQ ns g1).length i) ((dQ ns (zT f0 f1 i)).length * (dQ ns (zN g0 g1 i)).length)) = JR ns l f0 f1 g0 g1 (i + 1) := by
  have : i = 0 ∨ i = 1 ∨ i = 2 := by omega
  rcases this with rfl | rfl | rfl
  · show 0 + (pc ns f1 g0 + _ * min 0 _) = pc ns f1 g0
    rw [Nat.zero_min, Nat.mul_zero]; omega
  · show pc ns f1 g0 + (pc ns f0 g1 + _ * min _ _) = pc ns f1 g0 + pc ns f0 g1 + _ * min _ _
    exact (Nat.add_assoc _ _ _).symm
  · show pc ns f1 g0 + pc ns f0 g1 + (kJ ns f0 f1 g0 g1 - (l + 1)) * min ((dQ ns f1).length * (dQ ns g0).length) ((dQ ns f0).length * (dQ ns g1).length) + (pc ns f1 g1 + (kJ ns f0 f1 g0 g1 - (l + 1)) * min ((dQ ns f1).length * (dQ ns g0).length + (dQ ns f0).length * (dQ ns g1).length) ((dQ ns f1).length * (dQ ns g1).length)) = pc ns f1 g0 + pc ns f0 g1 + pc ns f1 g1 + JS ns l f0 f1 g0 g1
    unfold JS uJ
    omega
theorem Ms (ns : List Nd) (l f0 f1 g0 g1 : Nat) {i : Nat} (h : i ≤ 3) : JR ns l f0 f1 g0 g1 i ≤ JR ns l f0 f1 g0 g1 3 := by
  have s0 := Jx (ns := ns) (l := l) (f0 := f0) (f1 := f1) (g0 := g0) (g1 := g1) (show 0 < 3 by decide)
  have s1 := Jx (ns := ns) (l := l) (f0 := f0) (f1 := f1) (g0 := g0) (g1 := g1) (show 1 < 3 by decide)
  have s2 := Jx (ns := ns) (l := l) (f0 := f0) (f1 := f1) (g0 := g0) (g1 := g1) (show 2 < 3 by decide)
  simp only [Nat.zero_add, Nat.reduceAdd] at s0 s1 s2
  have : i = 0 ∨ i = 1 ∨ i = 2 ∨ i = 3 := by omega
  rcases this with rfl | rfl | rfl | rfl <;> omega
theorem PP {ns : List Nd} {l f0 f1 g0 g1 i : Nat} (hi : i < 3) : JR ns l f0 f1 g0 g1 i + pc ns (zT f0 f1 i) (zN g0 g1 i) ≤ JR ns l f0 f1 g0 g1 3 := by
  refine Nat.le_trans ?_ (Ms _ _ _ _ _ _ (show i + 1 ≤ 3 by omega))
  rw [← Jx hi]
  omega
theorem wD (F G : List Nat) : (F.flatMap fun x => G.map fun y => x ||| y).length = F.length * G.length := by
  induction F with
  | nil => simp
  | cons x F ih => rw [List.flatMap_cons, List.length_append, List.length_map, ih, List.length_cons, Nat.add_mul, Nat.one_mul]; omega
theorem u4 {F G : List Nat} {x : Nat} (h : mH (· ∈ F) (· ∈ G) x) : x ∈ F.flatMap fun x => G.map fun y => x ||| y := by
  obtain ⟨p, q, hp, hq, rfl⟩ := h
  exact List.mem_flatMap.2 ⟨p, hp, List.mem_map.2 ⟨q, hq, rfl⟩⟩
theorem Ke {ns nsc : List Nd} (h : Wf nsc) {f0 f1 g0 g1 i out : Nat} (ho : out < nsc.length + 2) (hi : i < 3) (hs : ∀ x, x ∈ dQ nsc out → JU (M ns f0) (M ns f1) (M ns g0) (M ns g1) i x) : (dQ nsc out).length ≤ QH (dQ ns f0).length (dQ ns f1).length (dQ ns g0).length (dQ ns g1).length i := by
  have hn := jo h out ho
  have : i = 0 ∨ i = 1 ∨ i = 2 := by omega
  rcases this with rfl | rfl | rfl
  · have := iY (l2 := []) hn (fun x hx => by
      have := hs x hx
      unfold JU at this
      omega)
    exact this
  · have := iY (l2 := (dQ ns f1).flatMap fun x => (dQ ns g0).map fun y => x ||| y) hn (fun x hx => by
      rcases hs x hx with h | h | h
      · exact u4 h.2
      · omega
      · omega)
    rwa [wD] at this
  · have := iY (l2 := ((dQ ns f1).flatMap fun x => (dQ ns g0).map fun y => x ||| y) ++ ((dQ ns f0).flatMap fun x => (dQ ns g1).map fun y => x ||| y)) hn (fun x hx => by
      rcases hs x hx with h | h | h
      · exact List.mem_append.2 (.inl (u4 h.2))
      · exact List.mem_append.2 (.inr (u4 h.2))
      · omega)
    rwa [List.length_append, wD, wD] at this
theorem t9 {ns : List Nd} {f g K x : Nat} (hf : tp ns f ≤ K) (hg : tp ns g ≤ K) (h : mH (M ns f) (M ns g) x) : x < 2 ^ K := by
  obtain ⟨a, b, ha, hb, rfl⟩ := h
  exact Nat.or_lt_two_pow (ln.1 hf a ha) (ln.1 hg b hb)
theorem PQ {ns nsc : List Nd} {f0 f1 g0 g1 i out : Nat} (hs : ∀ x, x ∈ dQ nsc out → JU (M ns f0) (M ns f1) (M ns g0) (M ns g1) i x) : tp nsc out ≤ kJ ns f0 f1 g0 g1 := ln.2 fun x hx => by
  have k : tp ns f0 ≤ kJ ns f0 f1 g0 g1 ∧ tp ns f1 ≤ kJ ns f0 f1 g0 g1 ∧ tp ns g0 ≤ kJ ns f0 f1 g0 g1 ∧ tp ns g1 ≤ kJ ns f0 f1 g0 g1 := by unfold kJ; omega
  rcases hs x hx with h | h | h
  · exact t9 k.2.1 k.2.2.1 h.2
  · exact t9 k.1 k.2.2.2 h.2
  · exact t9 k.2.1 k.2.2.2 h.2
theorem pg {i : Nat} (hi : i < 3) (f0 f1 : Nat) : zT f0 f1 i = f0 ∨ zT f0 f1 i = f1 := by
  have : i = 0 ∨ i = 1 ∨ i = 2 := by omega
  rcases this with rfl | rfl | rfl
  · exact .inr rfl
  · exact .inl rfl
  · exact .inr rfl
theorem pN {i : Nat} (hi : i < 3) (g0 g1 : Nat) : zN g0 g1 i = g0 ∨ zN g0 g1 i = g1 := by
  have : i = 0 ∨ i = 1 ∨ i = 2 := by omega
  rcases this with rfl | rfl | rfl
  · exact .inl rfl
  · exact .inr rfl
  · exact .inr rfl
theorem Ox {ns nsc ns1 ns2 : List Nd} {R l i f0 f1 g0 g1 out id id2 : Nat} {er2 : Int} (hw : Wf ns) (hcw : Wf nsc) (h1w : Wf ns1) (hi : i < 3) (hl : l < 24)
    (v0 : f0 < ns.length + 2) (v1 : f1 < ns.length + 2) (v2 : g0 < ns.length + 2) (v3 : g1 < ns.length + 2) (k0 : l < d8 ns f0) (k1 : l < d8 ns f1) (k2 : l < d8 ns g0) (k3 : l < d8 ns g1)
    (g : jv ns nsc R (JR ns l f0 f1 g0 g1 i) (l + 1) (JU (M ns f0) (M ns f1) (M ns g0) (M ns g1) i) out 0)
    (gd : jv nsc ns1 R (qa.cst nsc (zT f0 f1 i) (zN g0 g1 i)) (min (d8 nsc (zT f0 f1 i)) (d8 nsc (zN g0 g1 i))) (qa.res (M nsc (zT f0 f1 i)) (M nsc (zN g0 g1 i))) id 0)
    (gu : jv ns1 ns2 R (nI.cst ns1 out id) (min (d8 ns1 out) (d8 ns1 id)) (nI.res (M ns1 out) (M ns1 id)) id2 er2) :
    jv ns ns2 R (JR ns l f0 f1 g0 g1 (i + 1)) (l + 1) (JU (M ns f0) (M ns f1) (M ns g0) (M ns g1) (i + 1)) id2 er2 := by
  obtain ⟨o1, o2, o3⟩ := g.ok rfl
  obtain ⟨d1, d2, d3⟩ := gd.ok rfl
  obtain ⟨q1, q2, q3⟩ := gd.old o1
  have hpx : zT f0 f1 i < ns.length + 2 := by rcases pg hi f0 f1 with e | e <;> rw [e] <;> assumption
  have hpy : zN g0 g1 i < ns.length + 2 := by rcases pN hi g0 g1 with e | e <;> rw [e] <;> assumption
  have hlx : l < d8 ns (zT f0 f1 i) := by rcases pg hi f0 f1 with e | e <;> rw [e] <;> assumption
  have hly : l < d8 ns (zN g0 g1 i) := by rcases pN hi g0 g1 with e | e <;> rw [e] <;> assumption
  obtain ⟨x1, x2, x3⟩ := g.old hpx
  obtain ⟨y1, y2, y3⟩ := g.old hpy
  have hc := FK (ns := nsc) h1w d1 (fun x hx => (d3 x).1 hx)
  rw [x2, y2] at hc
  have hco := Ke hcw o1 hi (fun x hx => (o3 x).1 hx)
  have hto : tp ns1 out ≤ kJ ns f0 f1 g0 g1 := by rw [vZ gd.pre o1]; exact PQ (fun x hx => (o3 x).1 hx)
  have htd : tp ns1 id ≤ kJ ns f0 f1 g0 g1 := ln.2 fun x hx => by
    have h := (d3 x).1 hx
    rw [iA g.pre hpx, iA g.pre hpy] at h
    refine t9 ?_ ?_ h
    · unfold kJ; rcases pg hi f0 f1 with e | e <;> rw [e] <;> omega
    · unfold kJ; rcases pN hi g0 g1 with e | e <;> rw [e] <;> omega
  have eu : nI.cst ns1 out id ≤ (kJ ns f0 f1 g0 g1 - (l + 1)) * min (QH (dQ ns f0).length (dQ ns f1).length (dQ ns g0).length (dQ ns g1).length i) ((dQ ns (zT f0 f1 i)).length * (dQ ns (zN g0 g1 i)).length) := by
    refine Nat.le_trans (LJ h1w Ce.endF q1 d1 hto htd) ?_
    rw [x3, y3] at d2
    rw [q3, q2]
    exact Nat.mul_le_mul (by omega) (by omega)
  have ed : qa.cst nsc (zT f0 f1 i) (zN g0 g1 i) = pc ns (zT f0 f1 i) (zN g0 g1 i) := rM g.pre hw hpx hpy
  rw [ed] at gd
  refine (((g.then' gd (Nat.le_refl _)).then' gu (Nat.le_refl _)).weak (c := JR ns l f0 f1 g0 g1 (i + 1)) ?_ fun x => ?_).low (by rw [x3, y3] at d2; omega)
  · rw [← Jx hi]
    omega
  · have ePx : ([M ns f1, M ns f0, M ns f1].getD i (M ns f0)) = M ns (zT f0 f1 i) := by
      have : i = 0 ∨ i = 1 ∨ i = 2 := by omega
      rcases this with rfl | rfl | rfl <;> rfl
    have ePy : ([M ns g0, M ns g1, M ns g1].getD i (M ns g0)) = M ns (zN g0 g1 i) := by
      have : i = 0 ∨ i = 1 ∨ i = 2 := by omega
      rcases this with rfl | rfl | rfl <;> rfl
    rw [← Qz hi rfl rfl, ePx, ePy]
    refine or_congr ?_ ?_
    · show x ∈ dQ ns1 out ↔ _
      rw [q2]; exact o3 x
    · rw [← iA g.pre hpx, ← iA g.pre hpy]
      exact d3 x
end
section
open Go Go.RowKit
theorem zZ {n l : Nat} : ((n / 2 ^ l &&& 1 : Nat) : Int) = 1 ↔ n.testBit l = true := by
  rw [Nat.and_one_is_mod, Nat.testBit_eq_decide_div_mod_eq, decide_eq_true_eq]
  omega
section
variable {P : Program} {f : Nat → Value} {w : World} {d : Option Nat} {ty : TypeId} {ps : String} {af : Array Edge} {g : Option (Nat × Bool)} {x y : Operand} {t t2 : TypeId}
theorem OO {a b : Int} {yk : IntKind} (hx : dO f x = .int .i64 a) (hy : dO f y = .int yk b) (h0 : 0 ≤ a) (hb : 0 ≤ b) (hl : b ≤ 64) : (execOp (dO f) ⟨d, .binOp .shr t x y t2, ty, ps, af, g⟩).run P w = .ok (.value (.int .i64 ((a.toNat / 2 ^ b.toNat : Nat) : Int))) w := by
  obtain ⟨m, rfl⟩ := Int.eq_ofNat_of_zero_le h0
  rw [sL hx hy hb (by simpa [IntKind.bits] using hl), Int.toNat_natCast]
end
def Mc (n l : Nat) : Nat := n / 2 ^ l * 2 ^ l
theorem DP (n l : Nat) : Mc n l = Mc n (l + 1) + (if n.testBit l then 2 ^ l else 0) := by
  unfold Mc
  have e : n / 2 ^ (l + 1) = n / 2 ^ l / 2 := by rw [Nat.div_div_eq_div_mul, Nat.pow_succ]
  have hb : n.testBit l = decide (n / 2 ^ l % 2 = 1) := Nat.testBit_eq_decide_div_mod_eq
  rw [e, hb, Nat.pow_succ]
  have h2 := Nat.div_add_mod (n / 2 ^ l) 2
  generalize n / 2 ^ l = q at *
  generalize 2 ^ l = p at *
  by_cases h : q % 2 = 1
  · rw [if_pos (decide_eq_true h)]
    rw [h] at h2
    conv => lhs; rw [← h2]
    rw [Nat.add_mul, Nat.one_mul]
    congr 1
    rw [Nat.mul_comm 2, Nat.mul_assoc, Nat.mul_comm 2 p]
  · have h0 : q % 2 = 0 := by omega
    rw [if_neg (by simpa using h)]
    rw [h0] at h2
    conv => lhs; rw [← h2]
    rw [Nat.add_zero, Nat.add_zero, Nat.mul_comm 2, Nat.mul_assoc, Nat.mul_comm 2 p]
theorem GC {n : Nat} (h : n < 2 ^ 24) : Mc n 24 = 0 := by
  unfold Mc; rw [Nat.div_eq_of_lt h, Nat.zero_mul]
theorem x8 (n : Nat) : Mc n 0 = n := by unfold Mc; simp
def bS (l : List Int) (lv : Nat) (x : Nat) : Prop := ∃ m, m ∈ l ∧ x = Mc m.toNat lv
def x5 (l : List Int) (lv k : Nat) : List Int := (l.take k).filter fun m => !m.toNat.testBit lv
def yb (l : List Int) (lv k : Nat) : List Int := (l.take k).filter fun m => m.toNat.testBit lv
theorem Dh {l : List Int} {k : Nat} (h : k < l.length) : l.take (k + 1) = l.take k ++ [l.getD k 0] := by
  rw [List.take_add_one, List.getD_eq_getElem?_getD, List.getElem?_eq_getElem h]; rfl
theorem Kx {l : List Int} {lv k : Nat} (h : k < l.length) (hb : (l.getD k 0).toNat.testBit lv = true) : yb l lv k ++ [l.getD k 0] = yb l lv (k + 1) ∧ x5 l lv k = x5 l lv (k + 1) := by
  unfold yb x5
  rw [Dh h, List.filter_append, List.filter_append]
  simp only [List.filter_cons, List.filter_nil, hb, Bool.not_true, if_true]
  simp
theorem Kc {l : List Int} {lv k : Nat} (h : k < l.length) (hb : ¬ (l.getD k 0).toNat.testBit lv = true) : x5 l lv k ++ [l.getD k 0] = x5 l lv (k + 1) ∧ yb l lv k = yb l lv (k + 1) := by
  have hb2 : (l.getD k 0).toNat.testBit lv = false := Bool.eq_false_iff.2 hb
  unfold yb x5
  rw [Dh h, List.filter_append, List.filter_append]
  simp only [List.filter_cons, List.filter_nil, hb2, Bool.not_false, if_true]
  simp
theorem He (l : List Int) (lv : Nat) : ∀ k, (x5 l lv k).length + (yb l lv k).length = (l.take k).length := fun k => by
  unfold x5 yb
  generalize l.take k = q
  induction q with
  | nil => rfl
  | cons a q ih =>
    simp only [List.filter_cons]
    cases a.toNat.testBit lv <;> simp <;> omega
theorem NV {l : List Int} {lv k : Nat} {m : Int} (h : m ∈ x5 l lv k) : m ∈ l := List.mem_of_mem_take (List.mem_filter.1 h).1
theorem Oo {l : List Int} {lv k : Nat} {m : Int} (h : m ∈ yb l lv k) : m ∈ l := List.mem_of_mem_take (List.mem_filter.1 h).1
theorem GW (l : List Int) (lv x : Nat) : up lv (bS (x5 l lv l.length) (lv + 1)) (bS (yb l lv l.length) (lv + 1)) x ↔ bS l lv x := by
  unfold up bS x5 yb
  rw [List.take_length]
  simp only [List.mem_filter]
  constructor
  · rintro (⟨m, ⟨h1, h2⟩, rfl⟩ | ⟨y, ⟨m, ⟨h1, h2⟩, rfl⟩, rfl⟩)
    · refine ⟨m, h1, ?_⟩
      have h3 : m.toNat.testBit lv = false := by simpa using h2
      rw [DP m.toNat lv, h3]; rfl
    · refine ⟨m, h1, ?_⟩
      rw [DP m.toNat lv, h2]; rfl
  · rintro ⟨m, h1, rfl⟩
    cases hb : m.toNat.testBit lv with
    | true => exact .inr ⟨_, ⟨m, ⟨h1, hb⟩, rfl⟩, by rw [DP m.toNat lv, hb]; rfl⟩
    | false => exact .inl ⟨m, ⟨h1, by rw [hb]; rfl⟩, by rw [DP m.toNat lv, hb]; rfl⟩
def JQ : Nat → Nat → Nat → Nat
  | 0, _, _ => 0
  | n + 1, lv, m => (if m.testBit lv = true then 1 else 0) + JQ n (lv + 1) m
def uM (lv : Nat) : List Int → Nat
  | [] => 0
  | m :: l => JQ (24 - lv) lv m.toNat + uM lv l
theorem z5 {lv : Nat} (h24 : lv < 24) (l : List Int) : uM lv l = uM (lv + 1) (l.filter fun m => !m.toNat.testBit lv) + uM (lv + 1) (l.filter fun m => m.toNat.testBit lv) + (l.filter fun m => m.toNat.testBit lv).length := by
  induction l with
  | nil => rfl
  | cons m l ih =>
    obtain ⟨n, hn⟩ : ∃ n, 24 - lv = n + 1 := ⟨24 - lv - 1, by omega⟩
    have e : 24 - (lv + 1) = n := by omega
    have h1 : uM lv (m :: l) = (if m.toNat.testBit lv = true then 1 else 0) + JQ n (lv + 1) m.toNat + uM lv l := by rw [uM, hn, JQ]
    rw [h1, ih]
    cases hb : m.toNat.testBit lv
    · simp only [List.filter_cons, hb, Bool.not_false, if_true, Bool.false_eq_true, if_false, uM, e]; omega
    · simp only [List.filter_cons, hb, Bool.not_true, if_true, Bool.false_eq_true, if_false, uM, e, List.length_cons]; omega
theorem Gv : ∀ (l : List Int), uM 0 l ≤ 24 * l.length
  | [] => Nat.zero_le _
  | m :: l => by
    have ih := Gv l
    have h1 : ∀ n lv, JQ n lv m.toNat ≤ n := fun n => by
      induction n with
      | zero => intro lv; exact Nat.zero_le _
      | succ n ih => intro lv; have := ih (lv + 1); rw [JQ]; split <;> omega
    have h2 := h1 (24 - 0) 0
    rw [uM, List.length_cons, Nat.mul_add, Nat.mul_one]
    omega
theorem Gf {ns ns1 ns2 ns3 : List Nd} {l : List Int} {R lv low high id : Nat} {er : Int} (h2w : Wf ns2) (h24 : lv < 24) (hl : 1 ≤ l.length)
    (g1 : jv ns ns1 R (uM (lv + 1) (x5 l lv l.length)) (lv + 1) (bS (x5 l lv l.length) (lv + 1)) low 0) (g2 : jv ns1 ns2 R (uM (lv + 1) (yb l lv l.length)) (lv + 1) (bS (yb l lv l.length) (lv + 1)) high 0)
    (g3 : jv ns2 ns3 R (min high 1) lv (up lv (M ns2 low) (M ns2 high)) id er) : jv ns ns3 R (uM lv l) lv (bS l lv) id er := by
  obtain ⟨v1, _, m1⟩ := g1.ok rfl
  obtain ⟨v2, _, m2⟩ := g2.ok rfl
  refine ((g1.then' g2 (Nat.le_refl _)).then' g3 (Nat.le_refl _)).weak ?_ fun x => ?_
  · have hs := z5 h24 l
    have ew : x5 l lv l.length = l.filter fun m => !m.toNat.testBit lv := by unfold x5; rw [List.take_length]
    have ei : yb l lv l.length = l.filter fun m => m.toNat.testBit lv := by unfold yb; rw [List.take_length]
    rw [← ew, ← ei] at hs
    by_cases h0 : high = 0
    · subst h0; omega
    · obtain ⟨y, hy⟩ := iv h2w high v2 h0
      obtain ⟨m, hm, _⟩ := (m2 y).1 hy
      have := List.length_pos_of_mem hm
      omega
  · rw [← GW l lv x, show M ns2 low = bS (x5 l lv l.length) (lv + 1) by rw [iA g2.pre v1]; exact fH m1, show M ns2 high = bS (yb l lv l.length) (lv + 1) from fH m2]
theorem H6 {l : List Int} {lv : Nat} (h24 : lv < 24) : uM (lv + 1) (x5 l lv l.length) + uM (lv + 1) (yb l lv l.length) ≤ uM lv l := by
  unfold x5 yb
  rw [List.take_length, z5 h24 l]
  omega
theorem KH {ns : List Nd} {l : List Int} {lv : Nat} (h : ¬ (1 ≤ l.length)) (x : Nat) : x ∈ dQ ns 0 ↔ bS l lv x := by
  rw [mj]
  have : l = [] := List.eq_nil_of_length_eq_zero (by omega)
  subst this
  exact ⟨fun h => (by cases h), fun ⟨m, h, _⟩ => (by cases h)⟩
theorem Kv {ns : List Nd} {l : List Int} (h : 1 ≤ l.length) (hm : ∀ m, m ∈ l → 0 ≤ m ∧ m < 16777216) (x : Nat) : x ∈ dQ ns 1 ↔ bS l 24 x := by
  rw [mu, List.mem_singleton]
  constructor
  · rintro rfl
    obtain ⟨m, hm2⟩ := List.exists_mem_of_length_pos (show 0 < l.length by omega)
    exact ⟨m, hm2, (GC (by have := hm m hm2; omega)).symm⟩
  · rintro ⟨m, h2, rfl⟩
    exact GC (by have := hm m h2; omega)
theorem HS {ns ns' : List Nd} (h : Wf ns') {id a : Nat} (hid : id < ns'.length + 2) (hs : ∀ x, x ∈ dQ ns' id → x ∈ dQ ns a) : (dQ ns' id).length ≤ (dQ ns a).length := iY (jo h id hid) hs
def Nn (ns : List Nd) (id : Int) : Int := if nt ns id = true then (((dQ ns id.toNat).length : Nat) : Int) else 0
theorem JD {ns : List Nd} {id : Nat} (h : id < ns.length + 2) : Nn ns (id : Int) = (((dQ ns id).length : Nat) : Int) := by
  unfold Nn
  rw [if_pos (Cp.2 (by omega)), Int.toNat_natCast]
def yP (l : List Int) : Bool := l.all fun m => decide (0 ≤ m ∧ m < 16777216)
theorem qn {l : List Int} : yP l = true ↔ ∀ m, m ∈ l → 0 ≤ m ∧ m < 16777216 := by
  unfold yP
  rw [List.all_eq_true]
  exact ⟨fun h m hm => of_decide_eq_true (h m hm), fun h m hm => decide_eq_true (h m hm)⟩
theorem Mj {l : List Int} {k : Nat} (hk : k < l.length) (h : l.getD k 0 < 0 ∨ 16777216 ≤ l.getD k 0) : yP l = false := Bool.eq_false_iff.2 fun q => by
  have := qn.1 q _ (dS (d := 0) hk)
  omega
theorem LX {l : List Int} {k : Nat} (hk : k = l.length) (h : ∀ q, q < k → 0 ≤ l.getD q 0 ∧ l.getD q 0 < 16777216) : yP l = true := qn.2 fun m hm => by
  obtain ⟨j, hj, rfl⟩ := List.getElem_of_mem hm
  have := h j (by omega)
  rwa [List.getD_eq_getElem?_getD, List.getElem?_eq_getElem hj] at this
def PE (Ta Tn : TypeId) (N ba bm R : Nat) (w : World) (ns : List Nd) (ok : Bool) (c l : Nat) (S : Nat → Prop) (v : Value) (w' : World) : Prop :=
  ∃ (ns' : List Nd) (id : Nat) (er : Int), v = .tuple #[.int .i64 (id : Int), .int .i64 er] ∧ Dx Tn N [ba, bm] w w' ∧ fD Ta Tn N ba bm R w' ns' ∧ ((ok = true ∧ jv ns ns' R c l S id er) ∨ (ok = false ∧ ns' = ns ∧ id = 0 ∧ er = 1))
end
end
section
section
open Go Go.RowKit
theorem Q0 {b : Bool} (h : b = true) : Value.bool true = .bool b := by rw [h]
theorem Q1 {b : Bool} (h : ¬ b = true) : Value.bool false = .bool b := by rw [Bool.eq_false_iff.2 h]
def Gn (l : List Int) : Prop := l.Pairwise fun a b => a < b
theorem yy : ∀ {a b : List Int}, Gn a → Gn b → (∀ x, x ∈ a ↔ x ∈ b) → a = b
 | [], [], _, _, _ => rfl
 | [], b :: bs, _, _, h => by have := (h b).2 (List.mem_cons_self ..); cases this
 | a :: aq, [], _, _, h => by have := (h a).1 (List.mem_cons_self ..); cases this
 | a :: aq, b :: bs, ha, hb, h => by
  obtain ⟨a1, a2⟩ := List.pairwise_cons.1 ha
  obtain ⟨b1, b2⟩ := List.pairwise_cons.1 hb
  have e : a = b := by
   rcases List.mem_cons.1 ((h a).1 (List.mem_cons_self ..)) with e | k
   ·exact e
   ·rcases List.mem_cons.1 ((h b).2 (List.mem_cons_self ..)) with e | q
    ·exact e.symm
    ·have := a1 b q
     have := b1 a k
     omega
  subst e
  rw [yy a2 b2 (fun x => ⟨fun k => ?_, fun k => ?_⟩)]
  ·rcases List.mem_cons.1 ((h x).1 (List.mem_cons_of_mem _ k)) with e | q
   ·have := a1 x k; omega
   ·exact q
  ·rcases List.mem_cons.1 ((h x).2 (List.mem_cons_of_mem _ k)) with e | q
   ·have := b1 x k; omega
   ·exact q
theorem Gn.nodup {l : List Int} (h : Gn l) : l.Nodup := h.imp (fun h e => by omega)
def rN : List Int → Int → List Int
 | [], m => [m]
 | x :: xs, m => if x < m then x :: rN xs m else if x = m then x :: xs else m :: x :: xs
theorem tu {m x : Int} : ∀ {l : List Int}, x ∈ rN l m ↔ x ∈ l ∨ x = m
 | [] => by simp [rN]
 | y :: ys => by
  rw [rN]
  split
  ·rw [List.mem_cons, tu, List.mem_cons, or_assoc]
  ·split
   ·rename_i h; subst h
    exact ⟨.inl, fun h => h.elim _root_.id fun e => by rw [e]; exact List.mem_cons_self ..⟩
   ·rw [List.mem_cons]
    exact ⟨fun h => h.elim .inr .inl, fun h => h.elim .inr .inl⟩
theorem xy {m : Int} : ∀ {l : List Int}, Gn l → Gn (rN l m)
 | [], _ => List.pairwise_singleton _ _
 | y :: ys, h => by
  obtain ⟨h1, h2⟩ := List.pairwise_cons.1 h
  rw [rN]
  split
  ·refine List.pairwise_cons.2 ⟨fun z hz => ?_, xy h2⟩
   rcases tu.1 hz with hz | rfl
   ·exact h1 z hz
   ·assumption
  ·split
   ·exact h
   ·refine List.pairwise_cons.2 ⟨fun z hz => ?_, h⟩
    rcases List.mem_cons.1 hz with rfl | hz
    ·omega
    ·have := h1 z hz; omega
theorem FO (l : List Int) (m : Int) : (rN l m).length ≤ l.length + 1 := by
 induction l with
 | nil => exact Nat.le_refl _
 | cons x xs ih =>
  rw [rN]
  split
  ·simp only [List.length_cons]; omega
  ·split <;> simp
def zh (l : List Int) : Nat → List Int
 | 0 => []
 | k + 1 => rN (zh l k) (l.getD k 0)
def Ky (l : List Int) : List Int := zh l l.length
theorem Bv (l : List Int) : ∀ k, Gn (zh l k)
 | 0 => List.Pairwise.nil
 | k + 1 => xy (Bv l k)
theorem AL (l : List Int) : ∀ k, (zh l k).length ≤ k
 | 0 => Nat.le_refl _
 | k + 1 => by
  have h1 := AL l k
  have h2 := FO (zh l k) (l.getD k 0)
  rw [zh]; omega
theorem AP {l : List Int} {x : Int} : ∀ k, k ≤ l.length → (x ∈ zh l k ↔ x ∈ l.take k)
 | 0, _ => by simp [zh]
 | k + 1, hk => by
  rw [zh, tu, AP k (by omega), Dh (by omega), List.mem_append, List.mem_singleton]
theorem ui {l : List Int} {x : Int} : x ∈ Ky l ↔ x ∈ l := by
 unfold Ky
 rw [AP _ (Nat.le_refl _), List.take_length]
theorem yr (l : List Int) : Gn (Ky l) := Bv l _
theorem Kq (l : List Int) : (Ky l).length ≤ l.length := AL l _
theorem OZ {l a : List Int} (h : Gn a) (hm : ∀ x, x ∈ a ↔ x ∈ l) : a = Ky l := yy h (yr l) fun x => by rw [hm, ui]
theorem xc {l : List Int} (h : l.Nodup) : (Ky l).length = l.length := by
 have key : ∀ {l1 l2 : List Int}, l1.Nodup → (∀ x, x ∈ l1 → x ∈ l2) → l1.length ≤ l2.length := by
  intro l1
  induction l1 with
  | nil => intro l2 _ _; exact Nat.zero_le _
  | cons x xs ih =>
   intro l2 hn hs
   obtain ⟨h1, h2⟩ := List.nodup_cons.1 hn
   have hx := hs x (List.mem_cons_self ..)
   have := ih (l2 := l2.erase x) h2 (fun y hy => (List.mem_erase_of_ne (fun (e : y = x) => h1 (e ▸ hy))).2 (hs y (List.mem_cons_of_mem _ hy)))
   rw [List.length_erase_of_mem hx] at this
   have hp := List.length_pos_of_mem hx
   rw [List.length_cons]; omega
 have h1 := key h (fun x hx => ui.2 hx)
 have h2 := Kq l
 omega
def qG (ns : List Nd) (f : Nat) : List Int := Ky ((dQ ns f).map fun x : Nat => (x : Int))
theorem rL {ns : List Nd} {f : Nat} {x : Int} : x ∈ qG ns f ↔ ∃ y : Nat, y ∈ dQ ns f ∧ x = (y : Int) := by
 unfold qG
 rw [ui, List.mem_map]
 exact ⟨fun ⟨y, h1, h2⟩ => ⟨y, h1, h2.symm⟩, fun ⟨y, h1, h2⟩ => ⟨y, h1, h2.symm⟩⟩
theorem Ip {ns : List Nd} (h : Wf ns) {f : Nat} (hf : f < ns.length + 2) : (qG ns f).length = (dQ ns f).length := by
 unfold qG
 rw [xc, List.length_map]
 exact List.pairwise_map.2 ((jo h f hf).imp (fun hne e => hne (by omega)))
end
section
open Go Go.RowKit
structure FQ (ns ns' : List Nd) (c : Nat) (S : Nat → Prop) (id : Nat) : Prop where
 v : id < ns'.length + 2
 mem : ∀ x, x ∈ dQ ns' id ↔ S x
 pre : ns <+: ns'
 cost : ns'.length ≤ ns.length + c
theorem jv.valid {ns ns' : List Nd} {R c l : Nat} {S : Nat → Prop} {id : Nat} {er : Int} (g : jv ns ns' R c l S id er) : id < ns'.length + 2 := by
 rcases g.res with ⟨_, h2, _⟩ | ⟨_, h2, _⟩ <;> omega
theorem FQ.old {ns ns' : List Nd} {c : Nat} {S : Nat → Prop} {id f : Nat} (g : FQ ns ns' c S id) (h : f < ns.length + 2) : f < ns'.length + 2 ∧ dQ ns' f = dQ ns f := ⟨by have := fX g.pre; omega, gC g.pre h⟩
theorem HL {ns ns' : List Nd} (h : Wf ns') {id a b : Nat} (hid : id < ns'.length + 2) (hs : ∀ x, x ∈ dQ ns' id → x ∈ dQ ns a ∨ x ∈ dQ ns b) : (dQ ns' id).length ≤ (dQ ns a).length + (dQ ns b).length := by
 have := iY (l2 := dQ ns a ++ dQ ns b) (jo h id hid) (fun x hx => List.mem_append.2 (hs x hx))
 rwa [List.length_append] at this
def B3 (T : TypeId) (w : World) (v : Value) (l : List Int) : Prop := l ≠ [] → ∃ c fr, w.heap[sP v]? = some (.cells c T fr)
section
variable {T Ta Tn : TypeId} {N ba bm R : Nat} {w w' : World} {v : Value} {l : List Int} {ns : List Nd}
theorem B3.own (h : dh d9 1 T w N v l) : B3 T w v l := fun hne => by
 obtain ⟨h1, h2 | ⟨g, cap, cur, h3, hg, hh, r⟩⟩ := h
 ·exact absurd (List.eq_nil_of_length_eq_zero h2.2) hne
 ·subst h3
  exact ⟨_, _, hh⟩
theorem B3.ext (h : eo w w') (k : B3 T w v l) : B3 T w' v l := fun hne => by
 obtain ⟨c, fr, hc⟩ := k hne
 exact ⟨c, fr, by rw [Below.block h _ (iF hc)]; exact hc⟩
theorem B3.blk (D : fD Ta Tn N ba bm R w ns) (hx : Dx Tn N [ba, bm] w w') (k : B3 T w v l) (hTa : T ≠ Ta) (hTn : T ≠ Tn) (hne : l ≠ []) : w'.heap[sP v]? = w.heap[sP v]? := by
 obtain ⟨c, fr, hc⟩ := k hne
 obtain ⟨nv, h1, h2⟩ := D.out
 obtain ⟨f, ck, hf⟩ := D.hm
 refine hx.block _ (iF hc) (.inr ⟨?_, fun c' fr' e => ?_⟩)
 ·have n1 : sP v ≠ ba := fun e => by
   have h3 : w.heap[ba]? = _ := h1
   rw [e, h3] at hc
   simp only [Option.some.injEq, Obj.cells.injEq] at hc
   exact hTa hc.2.1.symm
  have n2 : sP v ≠ bm := fun e => by rw [e, hf.heap] at hc; cases hc
  simp [n1, n2]
 ·rw [hc] at e
  simp only [Option.some.injEq, Obj.cells.injEq] at e
  exact hTn e.2.1
theorem B3.dx (D : fD Ta Tn N ba bm R w ns) (hx : Dx Tn N [ba, bm] w w') (k : B3 T w v l) (hTa : T ≠ Ta) (hTn : T ≠ Tn) : B3 T w' v l := fun hne => by
 rw [B3.blk D hx k hTa hTn hne]
 exact k hne
theorem dM.dx (D : fD Ta Tn N ba bm R w ns) (hx : Dx Tn N [ba, bm] w w') (k : B3 T w v l) (hs : dM d9 1 w v l) (hTa : T ≠ Ta) (hTn : T ≠ Tn) : dM d9 1 w' v l := by
 have hs' : Sl w 1 v l.length (l.flatMap d9) := hs
 refine ⟨hs'.form, hs'.len, fun j u hu => ?_⟩
 have hne : l ≠ [] := fun e => by subst e; simp at hu
 have h1 := hs'.cell j u hu
 have e := B3.blk D hx k hTa hTn hne
 unfold World.cell? at h1 ⊢
 rw [e]; exact h1
theorem B3.part (k : B3 T w v l) (hs : dM d9 1 w v l) {i j m : Nat} {l2 : List Int} (hj : j ≤ m) (hl : l2.length = j - i) (hl0 : l2 ≠ [] → l ≠ []) : B3 T w (fV 1 v i j m) l2 := fun hne => by
 obtain ⟨c, fr, hc⟩ := k (hl0 hne)
 have hpos : 0 < l2.length := List.length_pos_iff.2 hne
 have hmi : ¬ m = i := by omega
 obtain ⟨hv, hn, h0, ha⟩ := Sl.eqv hs
 cases hA : zI v with
 | none =>
  have := h0 hA
  have : l = [] := List.eq_nil_of_length_eq_zero (by omega)
  exact absurd this (hl0 hne)
 | some a =>
  have hb : sP (fV 1 v i j m) = sP v := by
   have e1 : sP v = a.block := by rw [hv, hA]; rfl
   rw [e1]
   unfold fV
   rw [if_neg hmi, hA]
   show (a.add (i * 1)).block = a.block
   unfold Addr.add
   split <;> rfl
  rw [hb]
  exact ⟨c, fr, hc⟩
end
def Jm (F G : List Int) (b : Bool) : List Int := F.filter fun x => decide (x ∈ G) == b
theorem Dn {l : List Int} (h : Gn l) (p : Int → Bool) : Gn (l.filter p) := List.Pairwise.filter p h
theorem Nm {ns : List Nd} {a : Nat} {f : List Int} (hf : yP f = true) (hm : ∀ x, x ∈ dQ ns a ↔ bS f 0 x) : qG ns a = Ky f := by
 unfold qG
 refine OZ (yr _) fun x => ?_
 rw [ui, List.mem_map]
 have h0 := qn.1 hf
 constructor
 ·rintro ⟨y, hy, rfl⟩
  obtain ⟨m, h1, h2⟩ := (hm y).1 hy
  rw [x8] at h2
  have := h0 m h1
  rw [h2, Int.toNat_of_nonneg this.1]; exact h1
 ·intro h
  have := h0 x h
  exact ⟨x.toNat, (hm _).2 ⟨x, h, (x8 _).symm⟩, Int.toNat_of_nonneg this.1⟩
theorem AJ (ns : List Nd) (a : Nat) : Gn (qG ns a) := yr _
theorem vK {ns : List Nd} {b y : Nat} : ((y : Nat) : Int) ∈ qG ns b ↔ y ∈ dQ ns b := by
 rw [rL]
 exact ⟨fun ⟨z, h1, h2⟩ => by rw [show y = z by omega]; exact h1, fun h => ⟨y, h, rfl⟩⟩
theorem Nq {ns ns' : List Nd} {a b u : Nat} {F G : List Int} (ha : qG ns a = F) (hb : qG ns b = G) (hu : ∀ x, x ∈ dQ ns' u ↔ sQ.res (M ns a) (M ns b) x) : qG ns' u = Jm F G false := by
 subst ha hb
 refine yy (AJ _ _) (Dn (AJ _ _) _) fun x => ?_
 unfold Jm
 rw [List.mem_filter, rL]
 constructor
 ·rintro ⟨y, hy, rfl⟩
  obtain ⟨h1, h2⟩ := (hu y).1 hy
  exact ⟨vK.2 h1, by rw [decide_eq_false (fun k => h2 (vK.1 k))]; rfl⟩
 ·rintro ⟨h1, h2⟩
  obtain ⟨y, hy, rfl⟩ := rL.1 h1
  have h3 : ¬ ((y : Nat) : Int) ∈ qG ns b := by simpa using h2
  exact ⟨y, (hu y).2 ⟨hy, fun k => h3 (vK.2 k)⟩, rfl⟩
theorem Jv {ns : List Nd} (h : Wf ns) {a b : Nat} (ha : a < ns.length + 2) (hb : b < ns.length + 2) : decide ((a : Int) = (b : Int)) = decide (qG ns a = qG ns b) := by
 by_cases e : a = b
 ·subst e; rw [decide_eq_true rfl, decide_eq_true rfl]
 ·rw [decide_eq_false (by omega), decide_eq_false]
  intro hs
  exact e (G3 h a ha b hb fun x => by rw [← vK, ← vK, hs])
end
section
open Go Go.RowKit
structure Is (ns : List Nd) (a : Nat) (F : List Int) : Prop where
 v : a < ns.length + 2
 s : qG ns a = F
section
variable {ns ns' : List Nd} {a b id R c l : Nat} {A B f g : List Int} {er : Int}
theorem Is.pre (h : Is ns a A) (p : ns <+: ns') : Is ns' a A := by
 have e := h.s
 refine ⟨by have := fX p; have := h.v; omega, ?_⟩
 unfold qG at e ⊢
 rw [gC p h.v]
 exact e
theorem Is.len (h : Is ns a A) (hw : Wf ns) : (dQ ns a).length = A.length := by rw [← h.s, Ip hw h.v]
theorem Is.cnt (h : Is ns a A) (hw : Wf ns) : Nn ns (a : Int) = (A.length : Int) := by
 rw [← h.len hw]
 exact JD h.v
theorem Is.same (h : Is ns a A) (k : Is ns b B) (hw : Wf ns) : decide ((a : Int) = (b : Int)) = decide (A = B) := by rw [Jv hw h.v k.v, h.s, k.s]
theorem Is.item (h : Is ns a A) : ∀ x, x ∈ A → 0 ≤ x := fun x hx => by
 rw [← h.s] at hx
 obtain ⟨y, _, rfl⟩ := rL.1 hx
 omega
theorem FQ.of (q : FQ ns ns' c (bS f 0) id) (hf : yP f = true) : Is ns' id (Ky f) := ⟨q.v, Nm hf q.mem⟩
theorem FQ.le (q : FQ ns ns' c (sQ.res (M ns a) (M ns b)) id) (ha : Is ns a A) (hb : Is ns b B) : Is ns' id (Jm A B false) := ⟨q.v, Nq ha.s hb.s q.mem⟩
end
section
variable {ns ns' : List Nd} {a b id R c l n : Nat} {A B f g : List Int} {er : Int}
theorem Mi {ok : Bool} {S : Nat → Prop} (q : (ok = true ∧ jv ns ns' R c l S id er) ∨ (ok = false ∧ ns' = ns ∧ id = 0 ∧ er = 1)) (h : ok = true) : jv ns ns' R c l S id er := by
 rcases q with q | q
 ·exact q.2
 ·rw [h] at q; exact absurd q.1 (by decide)
theorem OQ {j : Nat} (hj : j < 24) : yP [((2 ^ j : Nat) : Int)] = true := qn.2 fun m hm => by
 rw [List.mem_singleton.1 hm]
 have h1 : 2 ^ j ≤ 8388608 := by have := Nat.pow_le_pow_right (show 0 < 2 by decide) (show j ≤ 23 by omega); simpa using this
 have h2 := Nat.two_pow_pos j
 omega
end
theorem CM (u0 u1 u2 : Value) (z : Array Value) (h0 : u0.cells = #[u0]) (h1 : u1.cells = #[u1]) (h2 : u2.cells = #[u2]) (hz : z.size = 3) : Instr.fill (fun i => some (i * 1, 1)) z [(0, u0), (1, u1), (2, u2)] = some #[u0, u1, u2] := by
 rw [nP 1 0 u0 _ z (by rw [h0]; rfl) (by omega), nP 1 1 u1 _ _ (by rw [h1]; rfl) (by simp [h0]; omega), nP 1 2 u2 _ _ (by rw [h2]; rfl) (by simp [h0, h1]; omega), Instr.fill, h0, h1, h2]
 obtain ⟨l⟩ := z
 match l, hz with
 | [a, b, c], _ => simp
section
variable {P : Program} {f : Nat → Value} {w w' : World} {d : Option Nat} {ty : TypeId} {ps : String} {af : Array Edge} {g : Option (Nat × Bool)} {t e T : TypeId} {by_ N sz b : Nat} {K : Value → World → Prop}
theorem Oq {x0 x1 x2 : Operand} {u0 u1 u2 : Value} (hx0 : dO f x0 = u0) (hx1 : dO f x1 = u1) (hx2 : dO f x2 = u2) (hT : fO P t = some (e, 1, by_)) (hz : (eL P e).map (fun z => z.cells.size) = some 1) (h0 : u0.cells = #[u0]) (h1 : u1.cells = #[u1]) (h2 : u2.cells = #[u2])
  (hK : ∀ b w', b = w.heap.size → eo w w' → At w' b #[u0, u1, u2] e → K (.slice (some ⟨b, 0, none⟩) 3 3) w') : Yd P ⟨d, .buildSlice t 3 #[(0, x0), (1, x1), (2, x2)], ty, ps, af, g⟩ f w K := by
 obtain ⟨z, hz, hzs⟩ := Option.map_eq_some_iff.1 hz
 unfold eL at hz
 obtain ⟨i, hi, hzz⟩ := Option.bind_eq_some_iff.1 hz
 unfold fO at hT
 cases hun : P.underlying t with
 | none => simp [hun] at hT
 | some desc =>
  cases desc <;> simp [hun] at hT
  rename_i e'
  obtain ⟨i', hi', rfl, q1, rfl⟩ := hT
  obtain rfl : i' = i := by rw [hi] at hi'; exact (Option.some.inj hi').symm
  refine .val (w' := w.alloc (.cells #[u0, u1, u2] e')) ?_ (hK w.heap.size _ rfl (eo.alloc w _) (nL w _ _))
  have hf := CM u0 u1 u2 ((Array.range (3 * 1)).map (z.cells[· % z.cells.size]!)) h0 h1 h2 (by simp)
  simp only [Nat.mul_one] at hf
  simp [execOp, hx0, hx1, hx2, Instr.buildSlice, run_underlying hun, sizeOf, typeInfo, hi, q1, zeroValue, hzz, newRow, hf]
end
end
end
end Go.Proofs.YteimkklmmanncaaGreat
