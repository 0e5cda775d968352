/-
  The members that no other one holds, item by item. No program in it. Dividing one family by another one, item by item. No program in it. The members that no other one holds, and dividing: the outer deeds. No program in it. The document's rows of more deeds with families, and that the families are these. No program in it. What the statements about more deeds with families need: rooms, and the same families. No program in it.
-/
import Derived.Test.YtpamgfbecgjjeaaZ11
namespace Go.Proofs.Ytpamgfbecgjjeaa
set_option linter.unusedVariables false
set_option linter.unusedSimpArgs false

section
open Go Go.RowKit

def msS (F : Nat → Prop) (x : Nat) : Prop := F x ∧ ∀ y, F y → holdsN y x → y = x
theorem holds_ge {y x : Nat} (h : holdsN y x) : x ≤ y := by
  have := Nat.right_le_or (n := y) (m := x)
  rwa [h] at this
theorem most_above {F : Nat → Prop} {b : Nat} (hb : ∀ x, F x → x < b) : ∀ (n y : Nat), b - y ≤ n → F y → ∃ z, msS F z ∧ holdsN z y
  | 0, y, hn, hy => by have := hb y hy; omega
  | n + 1, y, hn, hy => by
    by_cases hm : ∀ z, F z → holdsN z y → z = y
    · exact ⟨y, ⟨hy, hm⟩, Nat.or_self y⟩
    · have hm2 : ∃ z, F z ∧ holdsN z y ∧ z ≠ y := Classical.byContradiction fun h => hm fun z h1 h2 => Classical.byContradiction fun h3 => h ⟨z, h1, h2, h3⟩
      obtain ⟨z, h1, h2, h3⟩ := hm2
      have := holds_ge h2
      have := hb z h1
      obtain ⟨u, h4, h5⟩ := most_above hb n z (by omega) h1
      exact ⟨u, h4, holdsZ_trans h5 h2⟩
theorem ms_dec {A B : Nat → Prop} {l b : Nat} (hA : lev l A) (hB : lev l B) (hb : ∀ x, B x → x < b) (x : Nat) : msS (up l A B) x ↔ up l (fun x => msS A x ∧ ¬ wS false (msS A) (msS B) x) (msS B) x := by
  constructor
  · rintro ⟨h | ⟨z, h, rfl⟩, hm⟩
    · refine .inl ⟨⟨h, fun y hy hh => hm y (.inl hy) hh⟩, fun ⟨_, y, hy, hh⟩ => ?_⟩
      have hh : holdsN y x := hh
      have e := hm (y + 2 ^ l) (.inr ⟨y, hy.1, rfl⟩) ((holds_up (hB y hy.1) (hA x h)).2.1.2 hh)
      have h1 := bit_set (hB y hy.1)
      rw [e, bit_clear (hA x h)] at h1
      cases h1
    · refine .inr ⟨z, ⟨h, fun y hy hh => ?_⟩, rfl⟩
      have e := hm (y + 2 ^ l) (.inr ⟨y, hy, rfl⟩) ((holds_up (hB y hy) (hB z h)).2.2.2 hh)
      omega
  · rintro (⟨⟨h, hm⟩, hn⟩ | ⟨z, ⟨h, hm⟩, rfl⟩)
    · refine ⟨.inl h, fun y hy hh => ?_⟩
      rcases hy with hy | ⟨y, hy, rfl⟩
      · exact hm y hy hh
      · exfalso
        have h1 := (holds_up (hB y hy) (hA x h)).2.1.1 hh
        obtain ⟨u, hu, h2⟩ := most_above hb (b - y) y (Nat.le_refl _) hy
        exact hn ⟨⟨h, hm⟩, u, hu, holdsZ_trans h2 h1⟩
    · refine ⟨.inr ⟨z, h, rfl⟩, fun y hy hh => ?_⟩
      rcases hy with hy | ⟨y, hy, rfl⟩
      · exact absurd hh (holds_up (hA y hy) (hB z h)).1
      · rw [hm y hy ((holds_up (hB y hy) (hB z h)).2.2.1 hh)]
/-! ### What it may cost -/
def pr : Nat → Nat
  | 0 => 0
  | n + 1 => pr n + n
theorem pr_add (a : Nat) : ∀ b, pr (a + b) = pr a + pr b + a * b
  | 0 => by simp [pr]
  | b + 1 => by
    show pr (a + b) + (a + b) = pr a + (pr b + b) + a * (b + 1)
    rw [pr_add a b, Nat.mul_add, Nat.mul_one]
    omega
def qW (T : Nat) : Nat → Nat
  | 0 => 0
  | k + 1 => qW T k + (2 + (T - (23 - k) - 1) + (T - (23 - k)))
theorem qW_mono (T k : Nat) : ∀ d, qW T k + 2 * d ≤ qW T (k + d)
  | 0 => Nat.le_refl _
  | d + 1 => by
    have := qW_mono T k d
    show _ ≤ qW T (k + d) + _
    omega
def mC (T K i L n : Nat) : Nat := if n = 0 then 0 else 2 * (L - i) + (n * qW T (24 - L) + K * pr n)
def KOk (T K : Nat) : Prop := ∀ j, j < 24 → 4 * (j + 1) + (aW T (23 - j) + bW T (23 - j)) ≤ 2 * K
theorem kok_8 : KOk 8 73 := by unfold KOk; decide
theorem mC_0 {T K i L : Nat} : mC T K i L 0 = 0 := if_pos rfl
theorem mC_skip {T K i L n : Nat} (h : i < L) (hn : 1 ≤ n) : mC T K (i + 1) L n + 2 ≤ mC T K i L n := by
  unfold mC
  rw [if_neg (by omega), if_neg (by omega)]
  omega
theorem mC_le {T K i L n : Nat} (h : i ≤ L) (h24 : L ≤ 24) : mC T K i L n ≤ n * qW T (24 - i) + K * pr n := by
  unfold mC
  split
  · omega
  · rename_i hn
    have h1 := qW_mono T (24 - L) (L - i)
    rw [show 24 - L + (L - i) = 24 - i by omega] at h1
    have h2 : n * (qW T (24 - L) + 2 * (L - i)) ≤ n * qW T (24 - i) := Nat.mul_le_mul_left _ h1
    rw [Nat.mul_add] at h2
    have h3 : 1 * (2 * (L - i)) ≤ n * (2 * (L - i)) := Nat.mul_le_mul_right _ (by omega)
    omega
theorem wC_K {T K i L a b : Nat} (hK : KOk T K) (hL : i + 1 ≤ L) (h24 : L ≤ 24) : wC T 0 L a b ≤ K * (a * b) := by
  unfold wC
  split
  · omega
  · rename_i h
    obtain ⟨j, rfl⟩ : ∃ j, L = j + 1 := ⟨L - 1, by omega⟩
    have hk := hK j (by omega)
    rw [show 24 - (j + 1) = 23 - j by omega]
    generalize aW T (23 - j) = P at *
    generalize bW T (23 - j) = Q at *
    have hab : 1 ≤ a * b := Nat.mul_pos (by omega) (by omega)
    have h1 : a * (P + Q * b) ≤ (a * b) * (P + Q) := by
      have e : (a * b) * (P + Q) = a * (b * P) + a * (Q * b) := by
        rw [Nat.mul_add, Nat.mul_assoc, Nat.mul_assoc, Nat.mul_comm b Q]
      rw [e, Nat.mul_add]
      have : 1 * P ≤ b * P := Nat.mul_le_mul_right _ (by omega)
      have := Nat.mul_le_mul_left a (show P ≤ b * P by omega)
      omega
    have h2 : (a * b) * (4 * (j + 1) + (P + Q)) ≤ (a * b) * (2 * K) := Nat.mul_le_mul_left _ hk
    have h3 : 1 * (4 * (j + 1)) ≤ (a * b) * (4 * (j + 1)) := Nat.mul_le_mul_right _ hab
    rw [Nat.mul_add] at h2
    have h4 : (a * b) * (2 * K) = 2 * (K * (a * b)) := by
      rw [Nat.mul_comm (a * b), Nat.mul_assoc]
    have h5 : 2 * (a * (P + Q * b) / 2) ≤ a * (P + Q * b) := Nat.mul_div_le _ _
    omega
theorem mC_call {T K i a0 a1 L0 L1 LH ca cb u v h l z : Nat} (hK : KOk T K) (hi : i < 24) (hn : 1 ≤ a0 + a1) (h0 : i + 1 ≤ L0) (h1 : i + 1 ≤ L1) (k0 : L0 ≤ 24) (k1 : L1 ≤ 24) (hH : i + 1 ≤ LH) (kH : LH ≤ 24) (ha : ca ≤ a0) (hb : cb ≤ a1)
    (hu : u ≤ mC T K (i + 1) L0 a0) (hv : v ≤ mC T K (i + 1) L1 a1) (hh : h ≤ wC T 0 LH ca cb) (hl : l ≤ (T - (i + 1)) * a0) (hz : z ≤ (T - i) * (a0 + a1)) : u + v + h + l + 2 + z ≤ mC T K i i (a0 + a1) := by
  have e0 := mC_le (T := T) (K := K) (n := a0) h0 k0
  have e1 := mC_le (T := T) (K := K) (n := a1) h1 k1
  have eh := wC_K (a := ca) (b := cb) hK hH kH
  have eh2 : K * (ca * cb) ≤ K * (a0 * a1) := Nat.mul_le_mul_left _ (Nat.mul_le_mul ha hb)
  have hw : mC T K i i (a0 + a1) = (a0 + a1) * qW T (24 - i) + K * pr (a0 + a1) := by
    unfold mC
    rw [if_neg (by omega), Nat.sub_self, Nat.mul_zero, Nat.zero_add]
  have hk : 24 - i = (24 - (i + 1)) + 1 := by omega
  have eq : qW T (24 - i) = qW T (24 - (i + 1)) + (2 + (T - i - 1) + (T - i)) := by rw [hk, qW, show 23 - (24 - (i + 1)) = i by omega]
  rw [hw, eq, pr_add, Nat.mul_add K, Nat.mul_add K]
  generalize qW T (24 - (i + 1)) = P at *
  have s1 : (a0 + a1) * (P + (2 + (T - i - 1) + (T - i))) = a0 * P + a1 * P + ((a0 + a1) * 2 + (a0 + a1) * (T - i - 1) + (a0 + a1) * (T - i)) := by
    rw [Nat.mul_add, Nat.add_mul a0 a1 P, Nat.mul_add, Nat.mul_add]
  rw [s1]
  have s2 : (T - (i + 1)) * a0 ≤ (a0 + a1) * (T - i - 1) := by
    rw [show T - (i + 1) = T - i - 1 by omega, Nat.mul_comm]
    exact Nat.mul_le_mul_right _ (by omega)
  have s3 : (T - i) * (a0 + a1) = (a0 + a1) * (T - i) := Nat.mul_comm _ _
  omega

/-! ### What a call comes to -/
structure MostW (ns ns' : List Nd) (R : Nat) (e e' : Int) (f i id : Nat) : Prop where
  v : id < ns'.length + 2
  pre : ns <+: ns'
  sta : e = 0 → ∀ T K, KOk T K → tp ns f ≤ T → Sta ns ns' R (mC T K i (lvl ns f) (mems ns f).length) e'
  err : ¬ e = 0 → e' = e
  m : e' = 0 → ∀ x, x ∈ mems ns' id ↔ msS (M ns f) x
theorem msS_1 {F : Nat → Prop} (h : ∀ x y, F x → F y → x = y) (x : Nat) : F x ↔ msS F x := ⟨fun hx => ⟨hx, fun y hy _ => h y x hy hx⟩, fun h => h.1⟩
theorem most_0 {ns : List Nd} {R f i : Nat} {e : Int} (hf : f < ns.length + 2) (h : ¬ e = 0 ∨ f < 2) : MostW ns ns R e e f i f := by
  refine ⟨hf, List.prefix_refl _, fun he T K _ _ => ⟨List.prefix_refl _, .inl ⟨he, by omega⟩⟩, fun _ => rfl, fun he => ?_⟩
  have h2 : f < 2 := h.elim (fun k => absurd he k) id
  refine msS_1 fun x y hx hy => ?_
  have : f = 0 ∨ f = 1 := by omega
  rcases this with rfl | rfl
  · exact absurd hx (M_0 ns x)
  · have hx' : x ∈ mems ns 1 := hx
    have hy' : y ∈ mems ns 1 := hy
    rw [mems_1, List.mem_singleton] at hx' hy'
    omega
/-- One step more: an outer deed. -/
theorem Sta.didA {ns ns1 ns2 : List Nd} {R c c2 : Nat} {e er : Int} (h : Sta ns ns1 R c e) (g : e = 0 → Sta ns1 ns2 R c2 er) (hp : ns1 <+: ns2) : Sta ns ns2 R (c + c2) (didE e er) := by
  rcases h.st with ⟨h1, h2⟩ | ⟨h1, h2⟩
  · have k := g h1
    subst h1
    refine ⟨h.pre.trans hp, ?_⟩
    show (er = 0 ∧ _) ∨ (er = 5 ∧ _)
    rcases k.st with ⟨k1, k2⟩ | ⟨k1, k2⟩
    · exact .inl ⟨k1, by omega⟩
    · exact .inr ⟨k1, by omega⟩
  · refine ⟨h.pre.trans hp, .inr ⟨?_, by omega⟩⟩
    unfold didE; rw [if_neg (by rw [h1]; decide)]; exact h1
section
variable {ns ns1 ns2 ns3 ns4 ns5 ns6 ns7 : List Nd} {R f i fa fb ida idb idH idL idc idZ lL lZ : Nat} {e1 e2 e3 e6 erH erL erZ : Int}
theorem most_lo (hw : Wf ns) (hf : f < ns.length + 2) (hi : i < 24) (lf : i ≤ lvl ns f) (pA : PartW ns ns1 R 0 e1 f i fa fb) (z : e1 = 0) : lev i (M ns1 fa) ∧ lev i (M ns1 fb) := by
  have H1 := half_of hw hf lf hi
  obtain ⟨a0, a1⟩ := pA.half hw hf hi lf z
  rw [a0, a1]
  exact ⟨lev_M hw H1.va H1.la, lev_M hw H1.vb H1.lb⟩
theorem didE_err {e er : Int} (h : ¬ e = 0) : didE e er = e := if_neg h
theorem most_all (hw : Wf ns) (hw1 : Wf ns1) (hw2 : Wf ns2) (hw3 : Wf ns3) (hw4 : Wf ns4) (hw5 : Wf ns5) (hw6 : Wf ns6) (hf : f < ns.length + 2) (f2 : 2 ≤ f) (hi : i < 24) (lf : i ≤ lvl ns f)
    (pA : PartW ns ns1 R 0 e1 f i fa fb) (wA : MostW ns1 ns2 R e1 e2 fa (i + 1) ida) (wB : MostW ns2 ns3 R e2 e3 fb (i + 1) idb) (aH : AbW false R ns3 ida idb ns4 idH erH)
    (gL : Got ns4 ns5 R (opL.cst ns4 ida (didV e3 erH idH)) lL (opL.res (M ns4 ida) (M ns4 (didV e3 erH idH))) idL erL) (pC : PutW ns5 ns6 R (didE (didE e3 erH) erL) e6 idb i idc)
    (gZ : Got ns6 ns7 R (opU.cst ns6 (didV (didE e3 erH) erL idL) idc) lZ (opU.res (M ns6 (didV (didE e3 erH) erL idL)) (M ns6 idc)) idZ erZ) : MostW ns ns7 R 0 (didE e6 erZ) f i (didV e6 erZ idZ) := by
  have H1 := half_of hw hf lf hi
  have l24 := lvl_le hw hf
  have p12 := pre_len wA.pre
  have p23 := pre_len wB.pre
  have p34 := pre_len aH.1.pre
  have p45 := pre_len gL.pre
  have p56 := pre_len pC.pre
  have va0 := pA.v0
  have va1 := pA.v1
  have vA := wA.v
  have vB := wB.v
  have vH : didV e3 erH idH < ns4.length + 2 := didV_v aH.1.v
  have vL : didV (didE e3 erH) erL idL < ns5.length + 2 := didV_v gL.valid
  have lA := lev_M hw H1.va H1.la
  have lB := lev_M hw H1.vb H1.lb
  have bB : ∀ x, M ns (halfB ns f i) x → x < 2 ^ 24 := fun x hx => (mems_bits hw _ H1.vb x hx).2
  have hpre := ((((((pA.pre.trans wA.pre).trans wB.pre).trans aH.1.pre).trans gL.pre).trans pC.pre).trans gZ.pre)
  -- what is known, if no error came up
  have A1 : e1 = 0 → M ns1 fa = M ns (halfA ns f i) ∧ M ns1 fb = M ns (halfB ns f i) := fun z => pA.half hw hf hi lf z
  have A2 : e2 = 0 → M ns2 ida = msS (M ns (halfA ns f i)) := fun z => by rw [← (A1 (back_0 wA.err z)).1]; exact set_ext' (wA.m z)
  have B3 : e3 = 0 → M ns3 idb = msS (M ns (halfB ns f i)) := fun z => by
    have z2 := back_0 wB.err z
    rw [← (A1 (back_0 wA.err z2)).2, ← M_pre wA.pre va1]
    exact set_ext' (wB.m z)
  have A3 : e3 = 0 → M ns3 ida = msS (M ns (halfA ns f i)) := fun z => by rw [M_pre wB.pre vA, A2 (back_0 wB.err z)]
  have H4 : didE e3 erH = 0 → M ns4 (didV e3 erH idH) = wS false (msS (M ns (halfA ns f i))) (msS (M ns (halfB ns f i))) := fun z => by
    obtain ⟨z3, zH⟩ := didE_0.1 z
    rw [didV_0 z, ← A3 z3, ← B3 z3]
    exact set_ext' (aH.1.m zH)
  have A4 : e3 = 0 → M ns4 ida = msS (M ns (halfA ns f i)) := fun z => by rw [M_pre aH.1.pre (by omega), A3 z]
  have L5 : didE (didE e3 erH) erL = 0 → M ns5 (didV (didE e3 erH) erL idL) = fun x => msS (M ns (halfA ns f i)) x ∧ ¬ wS false (msS (M ns (halfA ns f i))) (msS (M ns (halfB ns f i))) x := fun z => by
    obtain ⟨z4, zL⟩ := didE_0.1 z
    rw [didV_0 z, ← H4 z4, ← A4 (didE_0.1 z4).1]
    exact set_ext' (gL.ok zL).2.2
  have err6 : e6 = 0 → didE (didE e3 erH) erL = 0 := fun z => back_0 pC.err z
  have L6 : e6 = 0 → M ns6 (didV (didE e3 erH) erL idL) = fun x => msS (M ns (halfA ns f i)) x ∧ ¬ wS false (msS (M ns (halfA ns f i))) (msS (M ns (halfB ns f i))) x := fun z => by rw [M_pre pC.pre vL, L5 (err6 z)]
  have B5 : didE (didE e3 erH) erL = 0 → M ns5 idb = msS (M ns (halfB ns f i)) := fun z => by rw [M_pre (aH.1.pre.trans gL.pre) vB, B3 (didE_0.1 (didE_0.1 z).1).1]
  have lmB : lev i (msS (M ns (halfB ns f i))) := fun x hx => lB x hx.1
  have lmA : lev i (msS (M ns (halfA ns f i))) := fun x hx => lA x hx.1
  have C6 : e6 = 0 → ∀ x, x ∈ mems ns6 idc ↔ ∃ y, msS (M ns (halfB ns f i)) y ∧ x = y + 2 ^ i := fun z x => by
    have h := pC.m z x
    rw [B5 (err6 z)] at h
    exact h.trans (join_one lmB x)
  refine ⟨didV_v gZ.valid, hpre, fun _ T K hK tf => ?_, fun z => absurd rfl z, fun z x => ?_⟩
  · -- the cost
    have tA : tp ns (halfA ns f i) ≤ T := Nat.le_trans H1.tpa tf
    have tB : tp ns (halfB ns f i) ≤ T := Nat.le_trans H1.tpb tf
    have sub_tp : ∀ {q : List Nd} {a b : Nat}, (∀ x, x ∈ mems q a → M ns b x) → tp ns b ≤ T → tp q a ≤ T := fun h ht => tp_le.2 fun x hx => tp_le.1 ht x (h x hx)
    have s3A : e3 = 0 → ∀ x, x ∈ mems ns3 ida → M ns (halfA ns f i) x := fun z x hx => by
      have hx' : M ns3 ida x := hx
      rw [A3 z] at hx'; exact hx'.1
    have s3B : e3 = 0 → ∀ x, x ∈ mems ns3 idb → M ns (halfB ns f i) x := fun z x hx => by
      have hx' : M ns3 idb x := hx
      rw [B3 z] at hx'; exact hx'.1
    have s4A : didE e3 erH = 0 → ∀ x, x ∈ mems ns4 ida → M ns (halfA ns f i) x := fun z x hx => by
      have hx' : M ns4 ida x := hx
      rw [A4 (didE_0.1 z).1] at hx'; exact hx'.1
    have s4H : didE e3 erH = 0 → ∀ x, x ∈ mems ns4 (didV e3 erH idH) → M ns (halfA ns f i) x := fun z x hx => by
      have hx' : M ns4 (didV e3 erH idH) x := hx
      rw [H4 z] at hx'; exact hx'.1.1
    have s6L : e6 = 0 → ∀ x, x ∈ mems ns6 (didV (didE e3 erH) erL idL) → M ns (halfA ns f i) x := fun z x hx => by
      have hx' : M ns6 (didV (didE e3 erH) erL idL) x := hx
      rw [L6 z] at hx'; exact hx'.1.1
    have cA : e3 = 0 → (mems ns3 ida).length ≤ (mems ns (halfA ns f i)).length := fun z => card_sub hw3 (by omega) (s3A z)
    have cB : e3 = 0 → (mems ns3 idb).length ≤ (mems ns (halfB ns f i)).length := fun z => card_sub hw3 vB (s3B z)
    have cH : didE e3 erH = 0 → (mems ns4 (didV e3 erH idH)).length ≤ (mems ns (halfB ns f i)).length * (mems ns4 (didV e3 erH idH)).length := fun z => by
      rcases Nat.eq_zero_or_pos (mems ns (halfB ns f i)).length with k | k
      · have : (mems ns4 (didV e3 erH idH)).length = 0 := by
          rcases Nat.eq_zero_or_pos (mems ns4 (didV e3 erH idH)).length with q | q
          · exact q
          · obtain ⟨x, hx⟩ := List.exists_mem_of_length_pos q
            have hx' : M ns4 (didV e3 erH idH) x := hx
            rw [H4 z] at hx'
            obtain ⟨y, hy, _⟩ := hx'.2
            have hy' : y ∈ mems ns (halfB ns f i) := hy.1
            rw [List.eq_nil_of_length_eq_zero k] at hy'
            cases hy'
        omega
      · exact Nat.le_mul_of_pos_left _ k
    have cL : didE e3 erH = 0 → opL.cst ns4 ida (didV e3 erH idH) ≤ (T - (i + 1)) * min (mems ns (halfA ns f i)).length (mems ns4 (didV e3 erH idH)).length := fun z => by
      refine Nat.le_trans (cE_T hw4 opL_ok.endF (by omega) vH (sub_tp (s4A z) tA) (sub_tp (s4H z) tA)) (Nat.mul_le_mul ?_ ?_)
      · have k1 := lev_lvl hw4 (show ida < ns4.length + 2 by omega) hi fun x hx => lA x (s4A z x hx)
        have k2 := lev_lvl hw4 vH hi fun x hx => lA x (s4H z x hx)
        omega
      · have := card_sub hw4 (show ida < ns4.length + 2 by omega) (s4A z)
        omega
    have cC : e6 = 0 → (mems ns6 idc).length ≤ (mems ns (halfB ns f i)).length := fun z => by
      have := nodupN_le (l2 := (mems ns (halfB ns f i)).map fun y => y + 2 ^ i) (mems_nodup hw6 idc pC.v) fun x hx => by
        obtain ⟨y, hy, e⟩ := (C6 z x).1 hx
        exact List.mem_map.2 ⟨y, hy.1, e.symm⟩
      rw [List.length_map] at this
      exact this
    have cZ : e6 = 0 → opU.cst ns6 (didV (didE e3 erH) erL idL) idc ≤ (T - i) * min (mems ns (halfA ns f i)).length (mems ns (halfB ns f i)).length := fun z => by
      refine cU_le hw6 (by omega) pC.v (sub_tp (s6L z) tA) (tp_le.2 fun x hx => ?_) (Nat.le_of_lt (lev_lvl hw6 (by omega) hi fun x hx => lA x (s6L z x hx))) (lvl_ge hw6 pC.v (by omega) fun x hx => ?_) (card_sub hw6 (by omega) (s6L z)) (cC z)
      · obtain ⟨y, hy, e⟩ := (C6 z x).1 hx
        exact tp_le.1 tf x ((H1.mem x).2 (.inr ⟨y, hy.1, e⟩))
      · obtain ⟨y, hy, e⟩ := (C6 z x).1 hx
        rw [e]
        exact dvd_up (lB y hy.1)
    have l1a : e1 = 0 → i + 1 ≤ lvl ns1 fa := fun z => lev_lvl hw1 va0 hi (by rw [(A1 z).1]; exact lA)
    have l2b : e2 = 0 → i + 1 ≤ lvl ns2 fb := fun z => lev_lvl hw2 (by omega) hi (by rw [M_pre wA.pre va1, (A1 (back_0 wA.err z)).2]; exact lB)
    have M2b : e2 = 0 → M ns2 fb = M ns (halfB ns f i) := fun z => by rw [M_pre wA.pre va1, (A1 (back_0 wA.err z)).2]
    have c1a : e1 = 0 → (mems ns1 fa).length = (mems ns (halfA ns f i)).length := fun z => card_eq hw hw1 va0 H1.va (A1 z).1
    have c2b : e2 = 0 → (mems ns2 fb).length = (mems ns (halfB ns f i)).length := fun z => card_eq hw hw2 (by omega) H1.vb (M2b z)
    have chain : ∀ u v h l zc, (e1 = 0 → mC T K (i + 1) (lvl ns1 fa) (mems ns1 fa).length ≤ u) → (e2 = 0 → mC T K (i + 1) (lvl ns2 fb) (mems ns2 fb).length ≤ v) → (e3 = 0 → wC T 0 (min (lvl ns3 ida) (lvl ns3 idb)) (mems ns3 ida).length (mems ns3 idb).length ≤ h) →
        (didE e3 erH = 0 → opL.cst ns4 ida (didV e3 erH idH) ≤ l) → (e6 = 0 → opU.cst ns6 (didV (didE e3 erH) erL idL) idc ≤ zc) → Sta ns ns7 R (u + v + h + l + 2 + zc) (didE e6 erZ) := fun u v h l zc hu hv hh hl hz => by
      have s1 : Sta ns ns1 R 0 e1 := (pA.sta rfl).mono (by rw [cPt_top lf]; omega)
      have s2 := s1.step (fun z => (wA.sta z T K hK (Nat.le_trans (tp_eq (A1 z).1) tA)).mono (hu z)) (fun z => ⟨wA.pre, wA.err z⟩)
      have s3 := s2.step (fun z => (wB.sta z T K hK (Nat.le_trans (tp_eq (M2b z)) tB)).mono (hv z)) (fun z => ⟨wB.pre, wB.err z⟩)
      have s4 := s3.didA (fun z => (aH.1.sta rfl T (sub_tp (s3A z) tA) (sub_tp (s3B z) tB)).mono (hh z)) aH.1.pre
      have s5 := s4.did gL hl
      have s6 := s5.step (c2 := 2) (fun z => pC.sta z (lev_lvl hw5 (by omega) hi fun x hx => by rw [B5 z] at hx; exact lB x hx.1)) (fun z => ⟨pC.pre, pC.err z⟩)
      exact (s6.did gZ hz).mono (by omega)
    have cf : 1 ≤ (mems ns f).length := len_pos hw hf (by omega)
    rcases Nat.lt_or_ge i (lvl ns f) with k | k
    · have eA : halfA ns f i = f := if_neg (fun q => by omega)
      have eB : halfB ns f i = 0 := if_neg (fun q => by omega)
      have n0 : (mems ns (halfB ns f i)).length = 0 := by rw [eB, mems_0]; rfl
      have hfa : e1 = 0 → fa = f := fun z => by
        refine one_id hw1 _ va0 f (by have := pre_len pA.pre; omega) fun x => ?_
        have h : M ns1 fa x ↔ M ns f x := by rw [(A1 z).1, eA]
        rw [show M ns f = M ns1 f from (M_pre pA.pre hf).symm] at h
        exact h
      have s := chain (mC T K (i + 1) (lvl ns f) (mems ns f).length) 0 0 0 0 (fun z => by rw [hfa z, lvl_pre pA.pre hf, mems_pre pA.pre hf]; exact Nat.le_refl _) (fun z => by rw [c2b z, n0, mC_0]; exact Nat.le_refl _)
        (fun z => by have := cB z; rw [n0] at this; rw [Nat.le_zero.1 this, wC_0r]; exact Nat.le_refl _)
        (fun z => by have h1 := cL z; have h2 := cH z; rw [n0, Nat.zero_mul] at h2; rw [Nat.le_zero.1 h2, Nat.min_zero, Nat.mul_zero] at h1; exact h1) (fun z => by have := cZ z; rw [n0, Nat.min_zero, Nat.mul_zero] at this; exact this)
      refine s.mono ?_
      have := mC_skip (T := T) (K := K) k cf
      omega
    · have eL : lvl ns f = i := by omega
      have lA3 : e3 = 0 → i + 1 ≤ lvl ns3 ida := fun z => lev_lvl hw3 (by omega) hi fun x hx => lA x (s3A z x hx)
      have lB3 : e3 = 0 → i + 1 ≤ lvl ns3 idb := fun z => lev_lvl hw3 vB hi fun x hx => lB x (s3B z x hx)
      have s := chain ((mems ns (halfA ns f i)).length * qW T (24 - (i + 1)) + K * pr (mems ns (halfA ns f i)).length) ((mems ns (halfB ns f i)).length * qW T (24 - (i + 1)) + K * pr (mems ns (halfB ns f i)).length) (K * ((mems ns (halfA ns f i)).length * (mems ns (halfB ns f i)).length)) ((T - (i + 1)) * (mems ns (halfA ns f i)).length) ((T - i) * ((mems ns (halfA ns f i)).length + (mems ns (halfB ns f i)).length))
        (fun z => by rw [c1a z]; exact mC_le (l1a z) (lvl_le hw1 va0)) (fun z => by rw [c2b z]; exact mC_le (l2b z) (lvl_le hw2 (by omega)))
        (fun z => Nat.le_trans (wC_K hK (L := min (lvl ns3 ida) (lvl ns3 idb)) (i := i) (by have := lA3 z; have := lB3 z; omega) (by have := lvl_le hw3 (show ida < ns3.length + 2 by omega); omega)) (Nat.mul_le_mul_left _ (Nat.mul_le_mul (cA z) (cB z))))
        (fun z => Nat.le_trans (cL z) (Nat.mul_le_mul_left _ (Nat.min_le_left _ _))) (fun z => Nat.le_trans (cZ z) (Nat.mul_le_mul_left _ (by omega)))
      refine s.mono ?_
      rw [eL, H1.cnt]
      have hw' : mC T K i i ((mems ns (halfA ns f i)).length + (mems ns (halfB ns f i)).length) = ((mems ns (halfA ns f i)).length + (mems ns (halfB ns f i)).length) * qW T (24 - i) + K * pr ((mems ns (halfA ns f i)).length + (mems ns (halfB ns f i)).length) := by
        unfold mC
        rw [if_neg (by rw [← H1.cnt]; omega), Nat.sub_self, Nat.mul_zero, Nat.zero_add]
      have hc := H1.cnt
      rw [hw', show 24 - i = (24 - (i + 1)) + 1 by omega, qW, show 23 - (24 - (i + 1)) = i by omega, pr_add, Nat.mul_add K, Nat.mul_add K]
      generalize (mems ns (halfA ns f i)).length = a0 at *
      generalize (mems ns (halfB ns f i)).length = a1 at *
      generalize qW T (24 - (i + 1)) = P at *
      have s1 : (a0 + a1) * (P + (2 + (T - i - 1) + (T - i))) = a0 * P + a1 * P + ((a0 + a1) * 2 + (a0 + a1) * (T - i - 1) + (a0 + a1) * (T - i)) := by
        rw [Nat.mul_add, Nat.add_mul a0 a1 P, Nat.mul_add, Nat.mul_add]
      rw [s1]
      have s2 : (T - (i + 1)) * a0 ≤ (a0 + a1) * (T - i - 1) := by
        rw [show T - (i + 1) = T - i - 1 by omega, Nat.mul_comm]
        exact Nat.mul_le_mul_right _ (by omega)
      have s3 : (T - i) * (a0 + a1) = (a0 + a1) * (T - i) := Nat.mul_comm _ _
      omega
  · obtain ⟨z6, zZ⟩ := didE_0.1 z
    have eF : M ns f = up i (M ns (halfA ns f i)) (M ns (halfB ns f i)) := set_ext' H1.mem
    rw [didV_0 z, eF, ms_dec lA lB bB x]
    refine ((gZ.ok zZ).2.2 x).trans ?_
    show (M ns6 (didV (didE e3 erH) erL idL) x ∨ x ∈ mems ns6 idc) ↔ _
    rw [L6 z6, C6 z6]
    exact Iff.rfl
end
end

section
open Go Go.RowKit

/-! ### Slices under work -/
section
variable {T T' Ta Tn Tw : TypeId} {N ba bm bw bz bd b R : Nat} {w w' : World} {v : Value} {l : List Int} {ns : List Nd} {c cw : Array Value} {dl : List (Nd × Int)}
theorem TyS.grownAt (k : TyS T w v l) (hm : At w b c T') (hG : w.grownBy w' (some b)) (hT : T ≠ T') : TyS T w' v l := fun hne => by
  obtain ⟨c0, fr, hc⟩ := k hne
  refine ⟨c0, fr, ?_⟩
  rw [hG.block _ (lt_of_block hc) fun e => ?_]
  · exact hc
  · have e : b = slB v := (Option.some.inj e).symm
    have h3 : w.heap[b]? = _ := hm
    rw [e, hc] at h3
    simp only [Option.some.injEq, Obj.cells.injEq] at h3
    exact hT h3.2.1
theorem SlT.grownTy (k : TyS T w v l) (hs : SlT encI 1 w v l) (hm : At w b c T') (hG : w.grownBy w' (some b)) (hT : T ≠ T') : SlT encI 1 w' v l := by
  have hs' : Sl w 1 v l.length (l.flatMap encI) := hs
  refine ⟨hs'.form, hs'.len, fun j u hu => ?_⟩
  have hne : l ≠ [] := fun e => by subst e; simp at hu
  have h1 := hs'.cell j u hu
  obtain ⟨c0, fr, hc⟩ := k hne
  have e : w'.heap[slB v]? = w.heap[slB v]? := hG.block _ (lt_of_block hc) fun e => by
    have e : b = slB v := (Option.some.inj e).symm
    have h3 : w.heap[b]? = _ := hm
    rw [e, hc] at h3
    simp only [Option.some.injEq, Obj.cells.injEq] at h3
    exact hT h3.2.1
  unfold World.cell? at h1 ⊢
  rw [e]; exact h1
end

/-! ### All items of a row -/
def orT (l : List Int) (k : Nat) : Nat := (l.take k).foldl (fun a m => a ||| m.toNat) 0
theorem orT_s {l : List Int} {k : Nat} (h : k < l.length) : orT l k ||| (l.getD k 0).toNat = orT l (k + 1) := by
  unfold orT
  rw [take_s h, List.foldl_append]
  rfl
theorem orT_bit {l : List Int} {b : Nat} : ∀ k, k ≤ l.length → ((orT l k).testBit b = true ↔ ∃ m, m ∈ l.take k ∧ m.toNat.testBit b = true)
  | 0, _ => by simp [orT]
  | k + 1, h => by
    rw [← orT_s (by omega), Nat.testBit_or, Bool.or_eq_true, orT_bit k (by omega), take_s (by omega)]
    simp only [List.mem_append, List.mem_singleton]
    constructor
    · rintro (⟨m, h1, h2⟩ | h2)
      · exact ⟨m, .inl h1, h2⟩
      · exact ⟨_, .inr rfl, h2⟩
    · rintro ⟨m, h1 | rfl, h2⟩
      · exact .inl ⟨m, h1, h2⟩
      · exact .inr h2
theorem orT_lt {l : List Int} (hl : ∀ m, m ∈ l → m.toNat < 16777216) : ∀ k, k ≤ l.length → orT l k < 16777216
  | 0, _ => by show 0 < 16777216; omega
  | k + 1, h => by
    rw [← orT_s (by omega)]
    exact Nat.or_lt_two_pow (n := 24) (orT_lt hl k (by omega)) (hl _ (getD_mem (by omega)))

/-! ### One member, item by item -/
def QJ (F : Nat → Prop) (m it j y : Nat) : Prop := (∀ b, b < j → it.testBit b = true → y.testBit b = false) ∧ F (y + m % 2 ^ j)
theorem mod_t {m j : Nat} (h : m.testBit j = true) : m % 2 ^ (j + 1) = m % 2 ^ j + 2 ^ j := by
  have h2 : m / 2 ^ j % 2 = 1 := by rw [Nat.testBit_eq_decide_div_mod_eq] at h; exact of_decide_eq_true h
  rw [Nat.pow_succ, Nat.mod_mul, h2, Nat.mul_one]
theorem mod_f {m j : Nat} (h : m.testBit j = false) : m % 2 ^ (j + 1) = m % 2 ^ j := by
  have h2 : ¬ m / 2 ^ j % 2 = 1 := by rw [Nat.testBit_eq_decide_div_mod_eq] at h; exact of_decide_eq_false h
  have h3 : m / 2 ^ j % 2 = 0 := by omega
  rw [Nat.pow_succ, Nat.mod_mul, h3, Nat.mul_zero, Nat.add_zero]
theorem qj_0 {F : Nat → Prop} {m it : Nat} : QJ F m it 0 = F := set_ext' fun y => by
  unfold QJ
  rw [Nat.pow_zero, Nat.mod_one, Nat.add_zero]
  exact ⟨fun h => h.2, fun h => ⟨fun b hb => absurd hb (Nat.not_lt_zero _), h⟩⟩
theorem lt_succ_cases {p : Nat → Prop} {j : Nat} : (∀ b, b < j + 1 → p b) ↔ (∀ b, b < j → p b) ∧ p j := by
  constructor
  · exact fun h => ⟨fun b hb => h b (by omega), h j (by omega)⟩
  · rintro ⟨h1, h2⟩ b hb
    rcases Nat.lt_or_ge b j with k | k
    · exact h1 b k
    · obtain rfl : b = j := by omega
      exact h2
theorem qj_t {F : Nat → Prop} {m it j : Nat} (hm : m.testBit j = true) (hit : it.testBit j = true) : QJ F m it (j + 1) = pS true j (QJ F m it j) := set_ext' fun y => by
  show _ ↔ ((∀ b, b < j → it.testBit b = true → (y + 2 ^ j).testBit b = false) ∧ F (y + 2 ^ j + m % 2 ^ j)) ∧ (y + 2 ^ j).testBit j = true
  unfold QJ
  rw [lt_succ_cases, mod_t hm, Nat.add_comm y (2 ^ j), Nat.testBit_two_pow_add_eq]
  have e : 2 ^ j + y + m % 2 ^ j = y + (m % 2 ^ j + 2 ^ j) := by omega
  rw [e]
  constructor
  · rintro ⟨⟨h1, h2⟩, h3⟩
    refine ⟨⟨fun b hb hi => ?_, h3⟩, by rw [h2 hit]; rfl⟩
    rw [Nat.testBit_two_pow_add_gt hb]
    exact h1 b hb hi
  · rintro ⟨⟨h1, h3⟩, h2⟩
    refine ⟨⟨fun b hb hi => ?_, fun _ => ?_⟩, h3⟩
    · have := h1 b hb hi
      rwa [Nat.testBit_two_pow_add_gt hb] at this
    · cases hy : y.testBit j
      · rfl
      · rw [hy] at h2; cases h2
theorem qj_f {F : Nat → Prop} {m it j : Nat} (hm : m.testBit j = false) (hit : it.testBit j = true) : QJ F m it (j + 1) = pS false j (QJ F m it j) := set_ext' fun y => by
  show _ ↔ ((∀ b, b < j → it.testBit b = true → y.testBit b = false) ∧ F (y + m % 2 ^ j)) ∧ y.testBit j = false
  unfold QJ
  rw [lt_succ_cases, mod_f hm]
  exact ⟨fun h => ⟨⟨h.1.1, h.2⟩, h.1.2 hit⟩, fun h => ⟨⟨h.1.1, fun _ => h.2⟩, h.1.2⟩⟩
theorem qj_n {F : Nat → Prop} {m it j : Nat} (hm : m.testBit j = false) (hit : it.testBit j = false) : QJ F m it (j + 1) = QJ F m it j := set_ext' fun y => by
  unfold QJ
  rw [lt_succ_cases, mod_f hm, hit]
  exact ⟨fun h => ⟨h.1.1, h.2⟩, fun h => ⟨⟨h.1, fun q => (by cases q)⟩, h.2⟩⟩

def dW (T a : Nat) : Nat := T * (T * a) + T * a
def dC (T a b : Nat) : Nat := b * dW T a + tri T * (a * b) + T * a
def itOk (ns : List Nd) (g it : Nat) : Prop := ∀ b, it.testBit b = true ↔ ∃ m, M ns g m ∧ m.testBit b = true
structure InD (ns nsc nsi : List Nd) (R f g it k m j : Nat) (ec ei : Int) (q : Nat) : Prop where
  v : q < nsi.length + 2
  pre : nsc <+: nsi
  sta : ∀ T, tp ns f ≤ T → tp ns g ≤ T → Sta ns nsi R (k * dW T (mems ns f).length + min j T * (T * (mems ns f).length)) ei
  err : ¬ ec = 0 → ei = ec
  m : ei = 0 → M nsi q = QJ (M ns f) m it j
structure OutD (ns nsc : List Nd) (R f g it : Nat) (l : List Int) (k : Nat) (ec : Int) (q : Nat) : Prop where
  v : q < nsc.length + 2
  pre : ns <+: nsc
  sta : ∀ T, tp ns f ≤ T → tp ns g ≤ T → Sta ns nsc R (k * dW T (mems ns f).length) ec
  m : ec = 0 → 1 ≤ k → ∀ y, M nsc q y ↔ ∀ i, i < k → QJ (M ns f) (l.getD i 0).toNat it 24 y
section
variable {ns nsc nsi ns2 ns3 : List Nd} {R f g it k m j q id lc_ l1 l2 : Nat} {ec ei er er2 : Int} {l : List Int}
theorem qj_card (hw : Wf ns) (hwi : Wf nsi) (hq : q < nsi.length + 2) (h : ∀ y, M nsi q y → QJ (M ns f) m it j y) : (mems nsi q).length ≤ (mems ns f).length ∧ ∀ T, tp ns f ≤ T → tp nsi q ≤ T := by
  constructor
  · have := nodupN_le (l1 := (mems nsi q).map fun y => y + m % 2 ^ j) (l2 := mems ns f) (List.pairwise_map.2 ((mems_nodup hwi q hq).imp fun h e => h (by omega))) fun x hx => by
      obtain ⟨y, hy, e⟩ := List.mem_map.1 hx
      subst e
      exact (h y hy).2
    rwa [List.length_map] at this
  · exact fun T tf => tp_le.2 fun y hy => by
      have := tp_le.1 tf _ (h y hy).2
      omega
theorem in_start (h : OutD ns nsc R f g it l k ec q) (hf : f < ns.length + 2) (m : Nat) : InD ns nsc nsc R f g it k m 0 ec ec f := by
  have := pre_len h.pre
  exact ⟨by omega, List.prefix_refl _, fun T tf tg => (h.sta T tf tg).mono (by omega), fun _ => rfl, fun _ => by rw [qj_0]; exact M_pre h.pre hf⟩
theorem in_step {wi : Bool} (hw : Wf ns) (hwi : Wf nsi) (h : InD ns nsc nsi R f g it k m j ec ei q) (hit : itOk ns g it) (hb : it.testBit j = true) (hm : m.testBit j = wi) (gq : Got nsi ns2 R (cPt nsi q j) l1 (pS wi j (M nsi q)) id er) :
    InD ns nsc ns2 R f g it k m (j + 1) ec (didE ei er) (didV ei er id) := by
  refine ⟨didV_v gq.valid, h.pre.trans gq.pre, fun T tf tg => ?_, fun z => ?_, fun z => ?_⟩
  · have hj : j < T := by
      obtain ⟨x, hx, hxb⟩ := (hit j).1 hb
      have h1 := tp_le.1 tg x hx
      rcases Nat.lt_or_ge j T with k | k
      · exact k
      · have := Nat.ge_two_pow_of_testBit hxb
        have := Nat.pow_le_pow_right (show 0 < 2 by decide) k
        omega
    refine ((h.sta T tf tg).did gq (c2 := T * (mems ns f).length) fun z => ?_).mono ?_
    · obtain ⟨c1, c2⟩ := qj_card hw hwi h.v fun y hy => by rw [h.m z] at hy; exact hy
      exact Nat.le_trans (cPt_T (c2 T tf)) (Nat.mul_le_mul_left _ c1)
    · rw [show min (j + 1) T = min j T + 1 by omega, Nat.add_mul (min j T), Nat.one_mul]
      omega
  · have := h.err z
    subst this
    exact if_neg z
  · obtain ⟨z1, z2⟩ := didE_0.1 z
    rw [didV_0 z, show M ns2 id = pS wi j (M nsi q) from set_ext' (gq.ok z2).2.2, h.m z1]
    cases wi with
    | true => exact (qj_t hm hb).symm
    | false => exact (qj_f hm hb).symm
theorem in_skip (h : InD ns nsc nsi R f g it k m j ec ei q) (hm : m.testBit j = false) (hb : it.testBit j = false) : InD ns nsc nsi R f g it k m (j + 1) ec ei q :=
  ⟨h.v, h.pre, fun T tf tg => (h.sta T tf tg).mono (Nat.add_le_add_left (Nat.mul_le_mul_right _ (by omega)) _), h.err, fun z => by rw [qj_n hm hb]; exact h.m z⟩
theorem out_start (hw : Wf ns) : OutD ns ns R f g it l 0 0 0 := ⟨by omega, List.prefix_refl _, fun T _ _ => ⟨List.prefix_refl _, .inl ⟨rfl, by omega⟩⟩, fun _ h => absurd h (by decide)⟩
theorem outD_step {quo : Nat} (hw : Wf ns) (hwi : Wf nsi) (ho : OutD ns nsc R f g it l k ec q) {q2 : Nat} (h : InD ns nsc nsi R f g it k (l.getD k 0).toNat 24 ec ei q2) (hquo : quo = if k = 0 then q2 else q) (gM : Got nsi ns2 R (opM.cst nsi quo q2) l1 (opM.res (M nsi quo) (M nsi q2)) id er) :
    OutD ns ns2 R f g it l (k + 1) (didE ei er) (didV ei er id) := by
  have hp := pre_len h.pre
  have hv : quo < nsi.length + 2 := by
    have := ho.v
    have := h.v
    rw [hquo]; split <;> omega
  have mq : ei = 0 → ∀ y, M nsi quo y ↔ if k = 0 then M nsi q2 y else ∀ i, i < k → QJ (M ns f) (l.getD i 0).toNat it 24 y := fun z y => by
    subst hquo
    split
    · exact Iff.rfl
    · rename_i hk
      rw [M_pre h.pre ho.v]
      exact ho.m (back_0 h.err z) (by omega) y
  refine ⟨didV_v gM.valid, (ho.pre.trans h.pre).trans gM.pre, fun T tf tg => ?_, fun z _ y => ?_⟩
  · refine ((h.sta T tf tg).did gM (c2 := T * (mems ns f).length) fun z => ?_).mono ?_
    · obtain ⟨c1, c2⟩ := qj_card hw hwi h.v fun y hy => by rw [h.m z] at hy; exact hy
      have c3 : tp nsi quo ≤ T := tp_le.2 fun y hy => by
        have hy' := (mq z y).1 hy
        split at hy'
        · exact tp_le.1 (c2 T tf) y hy'
        · have := tp_le.1 tf _ (hy' 0 (by omega)).2
          omega
      exact Nat.le_trans (cE_T hwi opM_ok.endF hv h.v c3 (c2 T tf)) (Nat.mul_le_mul (by omega) (by omega))
    · have h1 : min 24 T * (T * (mems ns f).length) ≤ T * (T * (mems ns f).length) := Nat.mul_le_mul_right _ (by omega)
      rw [Nat.add_mul, Nat.one_mul]
      unfold dW
      omega
  · obtain ⟨z1, z2⟩ := didE_0.1 z
    have e : M ns2 (didV ei er id) y ↔ M nsi quo y ∧ M nsi q2 y := by
      rw [didV_0 z]
      exact (gM.ok z2).2.2 y
    rw [e, mq z1 y, lt_succ_cases, h.m z1]
    split
    · rename_i hk
      subst hk
      exact ⟨fun h => ⟨fun b hb => absurd hb (Nat.not_lt_zero _), h.2⟩, fun h => ⟨h.2, h.2⟩⟩
    · exact Iff.rfl
end

/-! ### The answer -/
def qtS (F G : Nat → Prop) (y : Nat) : Prop := ∀ m, G m → (∀ b, m.testBit b = true → y.testBit b = false) ∧ F (y + m)
structure DivW (R : Nat) (ns : List Nd) (f g : Nat) (ns' : List Nd) (q r : Nat) (er : Int) : Prop where
  vq : q < ns'.length + 2
  vr : r < ns'.length + 2
  pre : ns <+: ns'
  sta : ∀ T, tp ns f ≤ T → tp ns g ≤ T → Sta ns ns' R (dC T (mems ns f).length (mems ns g).length) er
  mq : er = 0 → ∀ x, M ns' q x ↔ qtS (M ns f) (M ns g) x
  mr : er = 0 → ∀ x, M ns' r x ↔ M ns f x ∧ ¬ joinS (qtS (M ns f) (M ns g)) (M ns g) x
  z : ¬ er = 0 → q = 0 ∧ r = 0
def PV (Ta Tn : TypeId) (N ba bm R : Nat) (w : World) (ns : List Nd) (f g : Nat) (v : Value) (w' : World) : Prop :=
  ∃ (ns' : List Nd) (q r : Nat) (er : Int), v = .tuple #[.int .i64 (q : Int), .int .i64 (r : Int), .int .i64 er] ∧ Dx Tn N [ba, bm] w w' ∧ Dia Ta Tn N ba bm R w' ns' ∧ DivW R ns f g ns' q r er
section
variable {ns nsc ns2 ns3 : List Nd} {R f g it q idJ idL lJ lL : Nat} {ec erJ erL : Int} {l : List Int}
theorem mem_srt {x : Nat} : (x : Int) ∈ srtM ns g ↔ M ns g x := nat_in
theorem srt_itOk (hw : Wf ns) (hg : g < ns.length + 2) : itOk ns g (orT (srtM ns g) (srtM ns g).length) := fun b => by
  rw [orT_bit _ (Nat.le_refl _), List.take_length]
  constructor
  · rintro ⟨m, hm, hb⟩
    obtain ⟨y, hy, rfl⟩ := mem_srtM.1 hm
    rw [Int.toNat_natCast] at hb
    exact ⟨y, hy, hb⟩
  · rintro ⟨m, hm, hb⟩
    exact ⟨(m : Int), mem_srt.2 hm, by rw [Int.toNat_natCast]; exact hb⟩
theorem out_qt (hw : Wf ns) (hg : g < ns.length + 2) (hit : itOk ns g it) (y : Nat) (hg0 : ¬ g = 0) : (∀ i, i < (srtM ns g).length → QJ (M ns f) ((srtM ns g).getD i 0).toNat it 24 y) ↔ qtS (M ns f) (M ns g) y := by
  have lt : ∀ m, M ns g m → m < 2 ^ 24 := fun m hm => (mems_bits hw g hg m hm).2
  constructor
  · intro h m hm
    obtain ⟨i, hi, e⟩ := List.mem_iff_getElem.1 (mem_srt.2 hm)
    have h1 := h i hi
    rw [List.getD_eq_getElem?_getD, List.getElem?_eq_getElem hi, Option.getD_some, e, Int.toNat_natCast] at h1
    obtain ⟨h2, h3⟩ := h1
    rw [Nat.mod_eq_of_lt (lt m hm)] at h3
    refine ⟨fun b hb => h2 b ?_ ((hit b).2 ⟨m, hm, hb⟩), h3⟩
    have := Nat.ge_two_pow_of_testBit hb
    have h24 := lt m hm
    exact (Nat.pow_lt_pow_iff_right (show 1 < 2 by decide)).1 (Nat.lt_of_le_of_lt this h24)
  · intro h i hi
    obtain ⟨x, hx, e⟩ := mem_srtM.1 (getD_mem (d := 0) hi)
    rw [e, Int.toNat_natCast]
    refine ⟨fun b _ hb => ?_, ?_⟩
    · obtain ⟨m, hm, hmb⟩ := (hit b).1 hb
      exact (h m hm).1 b hmb
    · rw [Nat.mod_eq_of_lt (lt x hx)]
      exact (h x hx).2
theorem div_err (hg0 : ¬ ec = 0) (h : DivW R ns f g nsc q q ec) : True := trivial
theorem div_all (hw : Wf ns) (hwc : Wf nsc) (hw2 : Wf ns2) (hf : f < ns.length + 2) (hg : g < ns.length + 2) (hg0 : ¬ g = 0) (hit : itOk ns g it) (ho : OutD ns nsc R f g it (srtM ns g) (srtM ns g).length ec q)
    (gJ : Got nsc ns2 R (opJ.cst nsc q g) lJ (opJ.res (M nsc q) (M nsc g)) idJ erJ) (gL : Got ns2 ns3 R (opL.cst ns2 f (didV ec erJ idJ)) lL (opL.res (M ns2 f) (M ns2 (didV ec erJ idJ))) idL erL) :
    DivW R ns f g ns3 (if didE (didE ec erJ) erL = 0 then q else 0) (if didE (didE ec erJ) erL = 0 then didV (didE ec erJ) erL idL else 0) (didE (didE ec erJ) erL) := by
  have hv := ho.v
  have p1 := pre_len ho.pre
  have p2 := pre_len gJ.pre
  have p3 := pre_len gL.pre
  have hl : (srtM ns g).length = (mems ns g).length := srtM_len hw hg
  have hpos := len_pos hw hg hg0
  have mq : ec = 0 → ∀ x, M nsc q x ↔ qtS (M ns f) (M ns g) x := fun z x => (ho.m z (by omega) x).trans (out_qt hw hg hit x hg0)
  have mj : didE ec erJ = 0 → ∀ x, M ns2 (didV ec erJ idJ) x ↔ joinS (qtS (M ns f) (M ns g)) (M ns g) x := fun z x => by
    obtain ⟨z1, z2⟩ := didE_0.1 z
    rw [didV_0 z]
    refine ((gJ.ok z2).2.2 x).trans ?_
    rw [show M nsc q = qtS (M ns f) (M ns g) from set_ext' (mq z1), M_pre ho.pre hg]
    exact Iff.rfl
  refine ⟨by split <;> omega, ?_, (ho.pre.trans gJ.pre).trans gL.pre, fun T tf tg => ?_, fun z x => ?_, fun z x => ?_, fun z => ⟨if_neg z, if_neg z⟩⟩
  · split
    · exact didV_v gL.valid
    · omega
  · have s1 := ho.sta T tf tg
    have s2 := s1.did gJ (c2 := tri T * ((mems ns f).length * (mems ns g).length)) fun z => by
      obtain ⟨c1, c2⟩ := qj_card (f := f) (m := ((srtM ns g).getD 0 0).toNat) (it := it) (j := 24) hw hwc hv fun y hy => ((ho.m z (by omega) y).1 hy) 0 (by omega)
      have c3 : tp nsc g ≤ T := by rw [tp_pre ho.pre hg]; exact tg
      have c4 : (mems nsc g).length = (mems ns g).length := by rw [mems_pre ho.pre hg]
      refine Nat.le_trans (cJE_T hwc hv (by omega) (c2 T tf) c3) (Nat.mul_le_mul (tri_mono (by omega)) ?_)
      rw [c4]
      exact Nat.mul_le_mul_right _ c1
    have s3 := s2.did gL (c2 := T * (mems ns f).length) fun z => by
      have e1 : tp ns2 f ≤ T := by rw [tp_pre (ho.pre.trans gJ.pre) hf]; exact tf
      have e2 : tp ns2 (didV ec erJ idJ) ≤ T := tp_le.2 fun x hx => by
        obtain ⟨a, b, ha, hb, e⟩ := (mj z x).1 hx
        rw [e]
        refine Nat.or_lt_two_pow (Nat.lt_of_le_of_lt (Nat.le_add_right a b) (tp_le.1 tf _ (ha b hb).2)) (tp_le.1 tg b hb)
      have e3 : (mems ns2 f).length = (mems ns f).length := by rw [mems_pre (ho.pre.trans gJ.pre) hf]
      refine Nat.le_trans (cE_T hw2 opL_ok.endF (by omega) (didV_v gJ.valid) e1 e2) (Nat.mul_le_mul (by omega) ?_)
      rw [e3]; omega
    refine s3.mono ?_
    unfold dC
    rw [hl]
    omega
  · rw [if_pos z]
    obtain ⟨z1, z2⟩ := didE_0.1 z
    rw [M_pre (gJ.pre.trans gL.pre) hv]
    exact mq (didE_0.1 z1).1 x
  · rw [if_pos z, didV_0 z]
    obtain ⟨z1, z2⟩ := didE_0.1 z
    refine ((gL.ok z2).2.2 x).trans ?_
    show (M ns2 f x ∧ ¬ M ns2 (didV ec erJ idJ) x) ↔ _
    rw [M_pre (ho.pre.trans gJ.pre) hf, mj z1 x]
theorem div_full {ns' : List Nd} {er : Int} (h1 : ¬ er = 0) (h : DivW R ns f g ns' (if er = 0 then q else 0) (if er = 0 then idL else 0) er) : DivW R ns f g ns' 0 0 er := by
  rw [if_neg h1, if_neg h1] at h
  exact h
theorem div_ok {ns' : List Nd} {er : Int} (h1 : er = 0) (h : DivW R ns f g ns' (if er = 0 then q else 0) (if er = 0 then idL else 0) er) : DivW R ns f g ns' q idL 0 := by
  subst h1
  exact h
end
end

section
open Go Go.RowKit

def MoA (R : Nat) (ns : List Nd) (f : Nat) (ns' : List Nd) (id : Nat) (er : Int) : Prop := MostW ns ns' R 0 er f 0 id ∧ (¬ er = 0 → id = 0)
theorem moa_end {ns ns' : List Nd} {R f id : Nat} {e : Int} (h : MostW ns ns' R 0 e f 0 id) : MoA R ns f ns' (didV e 0 id) e := by
  have k : didE e 0 = e := by
    unfold didE
    by_cases q : e = 0
    · rw [if_pos q, q]
    · rw [if_neg q]
  refine ⟨⟨didV_v h.v, h.pre, h.sta, h.err, fun z => ?_⟩, fun z => ?_⟩
  · rw [didV_0 (by rw [k]; exact z)]
    exact h.m z
  · unfold didV
    rw [k, if_neg z]
theorem srt_rng {ns : List Nd} {g k : Nat} (hw : Wf ns) (hg : g < ns.length + 2) (hk : k < (srtM ns g).length) : 0 ≤ (srtM ns g).getD k 0 ∧ ((srtM ns g).getD k 0).toNat < 16777216 := by
  obtain ⟨x, hx, e⟩ := mem_srtM.1 (getD_mem (d := 0) hk)
  have := (mems_bits hw g hg x hx).2
  rw [e, Int.toNat_natCast]
  omega
theorem srt_orT {ns : List Nd} {g : Nat} (hw : Wf ns) (hg : g < ns.length + 2) : ∀ k, k ≤ (srtM ns g).length → orT (srtM ns g) k < 16777216 := orT_lt fun m hm => by
  obtain ⟨x, hx, e⟩ := mem_srtM.1 hm
  have := (mems_bits hw g hg x hx).2
  rw [e, Int.toNat_natCast]
  omega
theorem orT_in {l : List Int} {k j : Nat} (hk : k < l.length) (h : (l.getD k 0).toNat.testBit j = true) : (orT l l.length).testBit j = true := (orT_bit _ (Nat.le_refl _)).2 ⟨_, by rw [List.take_length]; exact getD_mem hk, h⟩
theorem lpost_ok {T : TypeId} {ns : List Nd} {w' : World} {v : Value} {g : Nat} (hw : Wf ns) (hg : g < ns.length + 2) (hc : (mems ns g).length ≤ 1000)
    (h : if (thereZ ns (g : Int) && decide (cntI ns (g : Int) ≤ 100000)) = true then ∃ x, v = .tuple #[x, .int .i64 0] ∧ SlT encI 1 w' x (srtM ns (g : Int).toNat) ∧ TyS T w' x (srtM ns (g : Int).toNat) else ∃ er, v = .tuple #[.slice none 0 0, .int .i64 er] ∧ er ≠ 0 ∧ (thereZ ns (g : Int) = false → er = 1)) :
    ∃ x, v = .tuple #[x, .int .i64 0] ∧ SlT encI 1 w' x (srtM ns g) ∧ TyS T w' x (srtM ns g) := by
  rw [if_pos] at h
  · exact h
  · rw [cntI_nat hg, Bool.and_eq_true]
    exact ⟨tz_iff.2 ⟨by omega, by omega⟩, decide_eq_true (by omega)⟩
end

section
open Go Go.RowKit

/-! ### Numbers -/
theorem or_add_and : ∀ (n a b : Nat), a ≤ n → a + b = (a ||| b) + (a &&& b)
  | 0, a, b, h => by
    obtain rfl : a = 0 := by omega
    simp
  | n + 1, a, b, h => by
    by_cases h0 : a = 0
    · subst h0; simp
    have ih := or_add_and n (a / 2) (b / 2) (by omega)
    rw [← Nat.or_div_two, ← Nat.and_div_two] at ih
    have h1 : (a ||| b) % 2 = 1 ↔ a % 2 = 1 ∨ b % 2 = 1 := Nat.or_mod_two_eq_one
    have h2 : (a &&& b) % 2 = 1 ↔ a % 2 = 1 ∧ b % 2 = 1 := Nat.and_mod_two_eq_one
    omega
theorem apart_iff {a b : Nat} : a ||| b = a + b ↔ ∀ i, b.testBit i = true → a.testBit i = false := by
  have h := or_add_and a a b (Nat.le_refl _)
  constructor
  · intro e i hb
    have h0 : a &&& b = 0 := by omega
    have h1 := Nat.testBit_and a b i
    rw [h0, Nat.zero_testBit, hb, Bool.and_true] at h1
    exact h1.symm
  · intro e
    have h0 : a &&& b = 0 := by
      apply Nat.eq_of_testBit_eq
      intro i
      rw [Nat.testBit_and, Nat.zero_testBit]
      cases hb : b.testBit i
      · rw [Bool.and_false]
      · rw [e i hb]; rfl
    omega

/-! ### Rows -/
def hdB (ab : Bool) (x y : Int) : Bool := if ab = true then decide (joI x y = x) else decide (joI y x = y)
def aboveI (F G : List Int) (ab : Bool) : List Int := F.filter fun x => G.any (hdB ab x)
def aboveT (F G : List Int) (ab : Bool) (k : Nat) : List Int := (F.take k).filter fun x => G.any (hdB ab x)
section
variable {F G : List Int} {ab : Bool} {i k : Nat} {x : Int}
theorem any_s (p : Int → Bool) (hk : k < G.length) : (G.take (k + 1)).any p = ((G.take k).any p || p (G.getD k 0)) := by
  rw [take_s hk, List.any_append]
  simp
theorem ab_t1 (hk : k < G.length) (h : ab = true) (h2 : joI x (G.getD k 0) = x) : Value.bool true = .bool ((G.take (k + 1)).any (hdB ab x)) := by
  rw [any_s _ hk, hdB, if_pos h, decide_eq_true h2, Bool.or_true]
theorem ab_t2 (hk : k < G.length) (h : ab = false) (h2 : joI (G.getD k 0) x = G.getD k 0) : Value.bool true = .bool ((G.take (k + 1)).any (hdB ab x)) := by
  rw [any_s _ hk, hdB, if_neg (by rw [h]; decide), decide_eq_true h2, Bool.or_true]
theorem ab_f1 (hk : k < G.length) (h : ab = true) (h2 : ¬ joI x (G.getD k 0) = x) : Value.bool ((G.take k).any (hdB ab x)) = .bool ((G.take (k + 1)).any (hdB ab x)) := by
  rw [any_s _ hk, hdB, if_pos h, decide_eq_false h2, Bool.or_false]
theorem ab_f2 (hk : k < G.length) (h : ab = false) (h2 : ¬ joI (G.getD k 0) x = G.getD k 0) : Value.bool ((G.take k).any (hdB ab x)) = .bool ((G.take (k + 1)).any (hdB ab x)) := by
  rw [any_s _ hk, hdB, if_neg (by rw [h]; decide), decide_eq_false h2, Bool.or_false]
theorem above_t (hi : i < F.length) (hk : k = G.length) (h : (G.take k).any (hdB ab (F.getD i 0)) = true) : aboveT F G ab i ++ [F.getD i 0] = aboveT F G ab (i + 1) := by
  subst hk
  rw [List.take_length] at h
  unfold aboveT
  have h2 : G.any (hdB ab (F.getD i 0)) = true := h
  rw [take_s hi, List.filter_append, List.filter_cons_of_pos (p := fun x => G.any (hdB ab x)) h2, List.filter_nil]
theorem above_f (hi : i < F.length) (hk : k = G.length) (h : (G.take k).any (hdB ab (F.getD i 0)) = false) : aboveT F G ab i = aboveT F G ab (i + 1) := by
  subst hk
  rw [List.take_length] at h
  unfold aboveT
  rw [take_s hi, List.filter_append]
  have h2 : G.any (hdB ab (F.getD i 0)) = false := h
  rw [List.filter_cons_of_neg (by rw [h2]; decide), List.filter_nil, List.append_nil]
theorem above_e : aboveT F G ab F.length = aboveI F G ab := by unfold aboveT aboveI; rw [List.take_length]
theorem aboveT_len : (aboveT F G ab i).length ≤ F.length := Nat.le_trans (List.length_filter_le _ _) (by simp; omega)
theorem aboveI_len : (aboveI F G ab).length ≤ F.length := List.length_filter_le _ _
end
/-- Is the i-th held by none of the first k others? -/
def moB (l : List Int) (i k : Nat) : Bool := (List.range k).all fun q => decide (q = i) || !decide (joI (l.getD q 0) (l.getD i 0) = l.getD q 0)
theorem moB_s (l : List Int) (i k : Nat) : moB l i (k + 1) = (moB l i k && (decide (k = i) || !decide (joI (l.getD k 0) (l.getD i 0) = l.getD k 0))) := by
  unfold moB
  rw [List.range_succ, List.all_append]
  simp
def mostTo (l : List Int) (k : Nat) : List Int := ((List.range k).filter fun i => moB l i l.length).map fun i => l.getD i 0
section
variable {l : List Int} {i k : Nat}
theorem most_t (h : moB l k l.length = true) : mostTo l k ++ [l.getD k 0] = mostTo l (k + 1) := by
  unfold mostTo
  rw [List.range_succ, List.filter_append, List.map_append]
  simp [h]
theorem most_f (h : moB l k l.length = false) : mostTo l k = mostTo l (k + 1) := by
  unfold mostTo
  rw [List.range_succ, List.filter_append, List.map_append]
  simp [h]
theorem mostTo_len (l : List Int) (k : Nat) : (mostTo l k).length ≤ k := by
  unfold mostTo
  rw [List.length_map]
  exact Nat.le_trans (List.length_filter_le _ _) (by simp)
theorem mo_e (h : ¬ ¬ (k : Int) = (i : Int)) : Value.bool (moB l i k) = .bool (moB l i (k + 1)) := by
  have : k = i := by have := Decidable.of_not_not h; omega
  rw [moB_s, decide_eq_true this, Bool.true_or, Bool.and_true]
theorem mo_t (h : ¬ (k : Int) = (i : Int)) (hx : joI (l.getD k 0) (l.getD i 0) = l.getD k 0) : Value.bool false = .bool (moB l i (k + 1)) := by
  rw [moB_s, decide_eq_false (show ¬ k = i by omega), decide_eq_true hx]
  simp
theorem mo_f (h : ¬ (k : Int) = (i : Int)) (hx : ¬ joI (l.getD k 0) (l.getD i 0) = l.getD k 0) : Value.bool (moB l i k) = .bool (moB l i (k + 1)) := by
  rw [moB_s, decide_eq_false (show ¬ k = i by omega), decide_eq_false hx]
  simp
end
def qB (F : List Int) (q y : Int) : Bool := decide (joI q y = q + y) && decide (joI q y ∈ F)
def quE (F G : List Int) (x : Int) : Option Int := if joI x (G.getD 0 0) = x ∧ G.all (qB F (x - G.getD 0 0)) = true then some (x - G.getD 0 0) else none
def quoL (F G : List Int) (i : Nat) : List Int := (F.take i).filterMap (quE F G)
section
variable {F G : List Int} {i k : Nat} {q : Int}
theorem quo_s (hi : i < F.length) : quoL F G (i + 1) = quoL F G i ++ (quE F G (F.getD i 0)).toList := by
  unfold quoL
  rw [take_s hi, List.filterMap_append]
  cases h : quE F G (F.getD i 0)
  · rw [List.filterMap_cons_none h, List.filterMap_nil]; rfl
  · rw [List.filterMap_cons_some h, List.filterMap_nil]; rfl
theorem quoL_len : (quoL F G i).length ≤ F.length := Nat.le_trans (List.length_filterMap_le _ _) (by simp; omega)
theorem quo_no (hi : i < F.length) (h : ¬ joI (F.getD i 0) (G.getD 0 0) = F.getD i 0) : ofI (quoL F G i) = ofI (quoL F G (i + 1)) := by
  rw [quo_s hi, quE, if_neg fun k => h k.1]
  simp
theorem quo_t (hi : i < F.length) (h : joI (F.getD i 0) (G.getD 0 0) = F.getD i 0) (hk : k = G.length) (h2 : (G.take k).all (qB F (F.getD i 0 - G.getD 0 0)) = true) : withI (ofI (quoL F G i)) (F.getD i 0 - G.getD 0 0) = ofI (quoL F G (i + 1)) := by
  subst hk
  rw [List.take_length] at h2
  rw [ofI_snoc, quo_s hi, quE, if_pos ⟨h, h2⟩]
  rfl
theorem quo_f (hi : i < F.length) (hk : k = G.length) (h2 : (G.take k).all (qB F (F.getD i 0 - G.getD 0 0)) = false) : ofI (quoL F G i) = ofI (quoL F G (i + 1)) := by
  subst hk
  rw [List.take_length] at h2
  rw [quo_s hi, quE, if_neg fun k => by have := k.2; rw [h2] at this; cases this]
  simp
theorem all_s (p : Int → Bool) (hk : k < G.length) : (G.take (k + 1)).all p = ((G.take k).all p && p (G.getD k 0)) := by
  rw [take_s hk, List.all_append]
  simp
theorem qb_f1 (hk : k < G.length) (h : (!decide (joI q (G.getD k 0) = q + G.getD k 0)) = true) : Value.bool false = .bool ((G.take (k + 1)).all (qB F q)) := by
  rw [all_s _ hk, qB, not_t' h, Bool.false_and, Bool.and_false]
theorem qb_f2 (hk : k < G.length) (h : (!decide (joI q (G.getD k 0) ∈ F)) = true) : Value.bool false = .bool ((G.take (k + 1)).all (qB F q)) := by
  rw [all_s _ hk, qB, not_t' h, Bool.and_false, Bool.and_false]
theorem qb_t (hk : k < G.length) (h : (!decide (joI q (G.getD k 0) = q + G.getD k 0)) = false) (h2 : (!decide (joI q (G.getD k 0) ∈ F)) = false) : Value.bool ((G.take k).all (qB F q)) = .bool ((G.take (k + 1)).all (qB F q)) := by
  rw [all_s _ hk, qB, not_f' h, not_f' h2, Bool.true_and, Bool.and_true]
theorem sub_rng {x g : Int} (hx : 0 ≤ x ∧ x < 16777216) (hg : 0 ≤ g ∧ g < 16777216) (h : joI x g = x) : 0 ≤ x - g ∧ x - g < 16777216 := by
  have h1 : (x.toNat ||| g.toNat : Nat) = x.toNat := by unfold joI at h; omega
  have h2 := Nat.right_le_or (n := x.toNat) (m := g.toNat)
  rw [h1] at h2
  omega
end

/-! ### The families are these rows -/
section
variable {ns ns' : List Nd} {a b id q r R : Nat} {A B : List Int} {er : Int} {ab : Bool}
theorem joI_n {x y : Nat} : joI (x : Int) (y : Int) = ((x ||| y : Nat) : Int) := rfl
theorem hdB_n {x y : Nat} : hdB ab (x : Int) (y : Int) = true ↔ (if ab = true then holdsN x y else holdsN y x) := by
  unfold hdB holdsN
  split
  · rw [decide_eq_true_iff, joI_n]; omega
  · rw [decide_eq_true_iff, joI_n]; omega
theorem Is.nat (h : Is ns a A) {x : Int} (hx : x ∈ A) : ∃ y : Nat, x = (y : Int) ∧ M ns a y := by
  have e := h.s
  subst e
  obtain ⟨y, hy, rfl⟩ := mem_srtM.1 hx
  exact ⟨y, rfl, hy⟩
theorem ab_is (hv : id < ns'.length + 2) (hm : ∀ x, x ∈ mems ns' id ↔ wS ab (M ns a) (M ns b) x) (ha : Is ns a A) (hb : Is ns b B) : Is ns' id (aboveI A B ab) := Is.ofS hv (inc_filter ha.inc _) fun x => by
  unfold aboveI
  rw [List.mem_filter, List.any_eq_true]
  constructor
  · rintro ⟨y, hy, rfl⟩
    obtain ⟨h1, z, h2, h3⟩ := (hm y).1 hy
    exact ⟨(nat_mem ha).2 h1, (z : Int), (nat_mem hb).2 h2, hdB_n.2 h3⟩
  · rintro ⟨h1, z, h2, h3⟩
    obtain ⟨y, rfl, hy⟩ := ha.nat h1
    obtain ⟨u, rfl, hu⟩ := hb.nat h2
    exact ⟨y, (hm y).2 ⟨hy, u, hu, hdB_n.1 h3⟩, rfl⟩
theorem mo_is (hv : id < ns'.length + 2) (hm : ∀ x, x ∈ mems ns' id ↔ msS (M ns a) x) (ha : Is ns a A) : Is ns' id (mostTo A A.length) := by
  have hi := ha.inc
  have hil : Inc (mostTo A A.length) := by
    unfold mostTo
    rw [Inc, List.pairwise_map]
    refine List.Pairwise.filter _ ?_
    refine List.Pairwise.imp_of_mem (fun {i k} h1 h2 h3 => ?_) List.pairwise_lt_range
    have h4 := List.mem_range.1 h1
    have h5 := List.mem_range.1 h2
    have := List.pairwise_iff_getElem.1 hi i k h4 h5 h3
    rw [List.getD_eq_getElem?_getD, List.getD_eq_getElem?_getD, List.getElem?_eq_getElem h4, List.getElem?_eq_getElem h5]
    exact this
  have inj : ∀ i k, i < A.length → k < A.length → A.getD i 0 = A.getD k 0 → i = k := fun i k h1 h2 e => by
    rw [List.getD_eq_getElem?_getD, List.getD_eq_getElem?_getD, List.getElem?_eq_getElem h1, List.getElem?_eq_getElem h2] at e
    have e2 : A[i] = A[k] := e
    rcases Nat.lt_trichotomy i k with h | h | h
    · have : A[i] < A[k] := List.pairwise_iff_getElem.1 hi i k h1 h2 h
      omega
    · exact h
    · have : A[k] < A[i] := List.pairwise_iff_getElem.1 hi k i h2 h1 h
      omega
  refine Is.ofS hv hil fun x => ?_
  unfold mostTo
  rw [List.mem_map]
  constructor
  · rintro ⟨y, hy, rfl⟩
    obtain ⟨h1, h2⟩ := (hm y).1 hy
    obtain ⟨i, hi2, e⟩ := List.getElem_of_mem ((nat_mem ha).2 h1)
    have e2 : A.getD i 0 = (y : Int) := by rw [List.getD_eq_getElem?_getD, List.getElem?_eq_getElem hi2]; exact e
    refine ⟨i, List.mem_filter.2 ⟨List.mem_range.2 hi2, ?_⟩, e2⟩
    unfold moB
    rw [List.all_eq_true]
    intro k hk
    have hk := List.mem_range.1 hk
    obtain ⟨z, ez, hz⟩ := ha.nat (getD_mem (d := 0) hk)
    rw [Bool.or_eq_true, decide_eq_true_iff, Bool.not_eq_true', decide_eq_false_iff_not]
    by_cases hki : k = i
    · exact .inl hki
    · refine .inr fun hh => hki ?_
      rw [e2, ez, joI_n] at hh
      have : z = y := h2 z hz (by unfold holdsN; omega)
      exact inj k i hk hi2 (by rw [e2, ez, this])
  · rintro ⟨i, hi2, rfl⟩
    obtain ⟨h1, h2⟩ := List.mem_filter.1 hi2
    have h1 := List.mem_range.1 h1
    obtain ⟨y, ey, hy⟩ := ha.nat (getD_mem (d := 0) h1)
    refine ⟨y, (hm y).2 ⟨hy, fun z hz hh => ?_⟩, ey⟩
    obtain ⟨k, hk, e⟩ := List.getElem_of_mem ((nat_mem ha).2 hz)
    have e2 : A.getD k 0 = (z : Int) := by rw [List.getD_eq_getElem?_getD, List.getElem?_eq_getElem hk]; exact e
    unfold moB at h2
    have h3 := List.all_eq_true.1 h2 k (List.mem_range.2 hk)
    rw [Bool.or_eq_true, decide_eq_true_iff, Bool.not_eq_true', decide_eq_false_iff_not, e2, ey, joI_n] at h3
    rcases h3 with h3 | h3
    · subst h3
      rw [e2] at ey
      omega
    · unfold holdsN at hh
      exact absurd (by rw [hh]) h3
theorem qt_mem (ha : Is ns a A) (hb : Is ns b B) (hB0 : 0 < B.length) {y : Nat} : qtS (M ns a) (M ns b) y ↔ (y : Int) ∈ quoL A B A.length := by
  obtain ⟨g0, eg, hg0⟩ := hb.nat (getD_mem (d := 0) hB0)
  unfold quoL
  rw [List.take_length, List.mem_filterMap]
  constructor
  · intro h
    have hx := (h g0 hg0).2
    have hap := apart_iff.2 (h g0 hg0).1
    refine ⟨((y + g0 : Nat) : Int), (nat_mem ha).2 hx, ?_⟩
    unfold quE
    have e1 : ((y + g0 : Nat) : Int) - (g0 : Int) = (y : Int) := by omega
    rw [eg, e1, if_pos]
    refine ⟨?_, List.all_eq_true.2 fun m hm => ?_⟩
    · rw [joI_n, ← hap, Nat.or_assoc, Nat.or_self]
    · obtain ⟨m, rfl, hmm⟩ := hb.nat hm
      obtain ⟨h1, h2⟩ := h m hmm
      have hap := apart_iff.2 h1
      unfold qB
      rw [Bool.and_eq_true, decide_eq_true_iff, decide_eq_true_iff, joI_n, hap, nat_mem ha]
      exact ⟨by omega, h2⟩
  · rintro ⟨x, hx, e⟩
    unfold quE at e
    split at e
    · rename_i hc
      obtain ⟨h1, h2⟩ := hc
      have e : x - B.getD 0 0 = (y : Int) := Option.some.inj e
      rw [e] at h2
      intro m hm
      have h3 := List.all_eq_true.1 h2 (m : Int) ((nat_mem hb).2 hm)
      unfold qB at h3
      rw [Bool.and_eq_true, decide_eq_true_iff, decide_eq_true_iff, joI_n, nat_mem ha] at h3
      have hap : y ||| m = y + m := by omega
      refine ⟨apart_iff.1 hap, ?_⟩
      rw [← hap]; exact h3.2
    · cases e
theorem dq_is (hv : q < ns'.length + 2) (hm : ∀ x, M ns' q x ↔ qtS (M ns a) (M ns b) x) (ha : Is ns a A) (hb : Is ns b B) (hB0 : 0 < B.length) : Is ns' q (ofI (quoL A B A.length)) := Is.ofS hv (inc_ofI _) fun x => by
  rw [mem_ofI]
  constructor
  · rintro ⟨y, hy, rfl⟩
    exact (qt_mem ha hb hB0).1 ((hm y).1 hy)
  · intro h
    have h' := h
    unfold quoL at h'
    rw [List.take_length] at h'
    obtain ⟨z, hz, e⟩ := List.mem_filterMap.1 h'
    have h0 : 0 ≤ x := by
      unfold quE at e
      split at e
      · rename_i hc
        have e : z - B.getD 0 0 = x := Option.some.inj e
        obtain ⟨u, hu, _⟩ := ha.nat hz
        obtain ⟨v, hv, _⟩ := hb.nat (getD_mem (d := 0) hB0)
        have h1 := hc.1
        rw [hu, hv, joI_n] at h1
        have h2 := Nat.right_le_or (n := u) (m := v)
        omega
      · cases e
    obtain ⟨y, rfl⟩ := Int.eq_ofNat_of_zero_le h0
    exact ⟨y, (hm y).2 ((qt_mem ha hb hB0).2 h), rfl⟩
theorem dr_is (hv : r < ns'.length + 2) (hm : ∀ x, M ns' r x ↔ M ns a x ∧ ¬ joinS (qtS (M ns a) (M ns b)) (M ns b) x) (ha : Is ns a A) (hb : Is ns b B) (hB0 : 0 < B.length) {W : List Int} (hW : W = ofI (quoL A B A.length)) : Is ns' r (pickI A (ofI (allJ W B)) false) := Is.ofS hv (inc_filter ha.inc _) fun x => by
  subst hW
  have key : ∀ y : Nat, (y : Int) ∈ ofI (allJ (ofI (quoL A B A.length)) B) ↔ joinS (qtS (M ns a) (M ns b)) (M ns b) y := fun y => by
    rw [mem_ofI, mem_allJ]
    constructor
    · rintro ⟨p, hp, m, hm, e⟩
      obtain ⟨m, rfl, hmm⟩ := hb.nat hm
      have hp' := mem_ofI.1 hp
      have h0 : 0 ≤ p := by
        have h1 := hp'
        unfold quoL at h1
        rw [List.take_length] at h1
        obtain ⟨z, hz, e⟩ := List.mem_filterMap.1 h1
        unfold quE at e
        split at e
        · rename_i hc
          have e : z - B.getD 0 0 = p := Option.some.inj e
          obtain ⟨u, hu, _⟩ := ha.nat hz
          obtain ⟨v, hv, _⟩ := hb.nat (getD_mem (d := 0) hB0)
          have h1 := hc.1
          rw [hu, hv, joI_n] at h1
          have h2 := Nat.right_le_or (n := u) (m := v)
          omega
        · cases e
      obtain ⟨p, rfl⟩ := Int.eq_ofNat_of_zero_le h0
      exact ⟨p, m, (qt_mem ha hb hB0).2 hp', hmm, by rw [joI_n] at e; omega⟩
    · rintro ⟨p, m, hp, hm, e⟩
      exact ⟨(p : Int), mem_ofI.2 ((qt_mem ha hb hB0).1 hp), (m : Int), (nat_mem hb).2 hm, by rw [joI_n, e]⟩
  rw [mem_pickI]
  constructor
  · rintro ⟨y, hy, rfl⟩
    obtain ⟨h1, h2⟩ := (hm y).1 hy
    exact ⟨(nat_mem ha).2 h1, decide_eq_false fun k => h2 ((key y).1 k)⟩
  · rintro ⟨h1, h2⟩
    obtain ⟨y, rfl, hy⟩ := ha.nat h1
    exact ⟨y, (hm y).2 ⟨hy, fun k => of_decide_eq_false h2 ((key y).2 k)⟩, rfl⟩
end
end

section
open Go Go.RowKit

def fewB (f g : List Int) : Bool := decide (f.length ≤ 10 ∧ g.length ≤ 10 ∧ ∀ m, m ∈ f ++ g → m ≤ 255)
structure OkF (f g : List Int) : Prop where
  lf : f.length ≤ 24
  lg : g.length ≤ 24
  f : ofZB f = true
  g : ofZB g = true
section
variable {f g : List Int} {k : Nat}
theorem few_f1 (h : (f.length : Int) > 10) : Value.bool false = .bool (fewB f g) := congrArg Value.bool (decide_eq_false (fun q => by have := q.1; omega)).symm
theorem few_f2 (h : (g.length : Int) > 10) : Value.bool false = .bool (fewB f g) := congrArg Value.bool (decide_eq_false (fun q => by have := q.2.1; omega)).symm
theorem few_f3 (hk : k < (f ++ g).length) (h : (f ++ g).getD k 0 > 255) : Value.bool false = .bool (fewB f g) := congrArg Value.bool (decide_eq_false (fun q => by have := q.2.2 _ (getD_mem (d := 0) hk); omega)).symm
theorem few_t (h1 : ¬ (f.length : Int) > 10) (h2 : ¬ (g.length : Int) > 10) (hk : k = (f ++ g).length) (h : ∀ q, q < k → (f ++ g).getD q 0 ≤ 255) : Value.bool true = .bool (fewB f g) := congrArg Value.bool (decide_eq_true ⟨by omega, by omega, fun m hm => by
  obtain ⟨q, hq, rfl⟩ := List.getElem_of_mem hm
  have := h q (by omega)
  rw [List.getD_eq_getElem?_getD, List.getElem?_eq_getElem hq] at this
  exact this⟩).symm
theorem few_len (h : fewB f g = true) (hf : ofZB f = true) (hg : ofZB g = true) : bcL 0 f + bcL 0 g ≤ 160 := by
  obtain ⟨h1, h2, h3⟩ := of_decide_eq_true h
  have lt : ∀ m, m ∈ f ++ g → m.toNat < 2 ^ 8 := fun m hm => by have := h3 m hm; show m.toNat < 256; omega
  have k1 := bcL_T (T := 8) (l := f) fun m hm => lt m (List.mem_append.2 (.inl hm))
  have k2 := bcL_T (T := 8) (l := g) fun m hm => lt m (List.mem_append.2 (.inr hm))
  omega
end

/-- Few members, of items 0 to 7. -/
structure S10 (ns : List Nd) (a : Nat) : Prop where
  n : (mems ns a).length ≤ 10
  t : tp ns a ≤ 8
section
variable {ns ns' ns1 : List Nd} {R a b id q r c l : Nat} {er : Int} {A B W f g : List Int} {ab : Bool} {S : Nat → Prop}
theorem S10.pre (h : S10 ns a) (hv : a < ns.length + 2) (hp : ns <+: ns') : S10 ns' a := ⟨by rw [mems_pre hp hv]; exact h.n, by rw [tp_pre hp hv]; exact h.t⟩
theorem S10.sub (h : S10 ns a) (hw : Wf ns') (hv : id < ns'.length + 2) (hs : ∀ x, M ns' id x → M ns a x) : S10 ns' id := ⟨Nat.le_trans (card_sub hw hv hs) h.n, tp_le.2 fun x hx => tp_le.1 h.t x (hs x hx)⟩
theorem few_s1 (h : fewB f g = true) (hw : Wf ns) (ha : Is ns a (ofI f)) : S10 ns a := by
  obtain ⟨h1, h2, h3⟩ := of_decide_eq_true h
  refine ⟨by rw [ha.len hw]; have := ofI_len f; omega, tp_le.2 fun x hx => ?_⟩
  have := h3 _ (List.mem_append.2 (.inl (mem_ofI.1 ((nat_mem ha).2 hx))))
  show x < 256
  omega
theorem few_s2 (h : fewB f g = true) (hw : Wf ns) (ha : Is ns a (ofI g)) : S10 ns a := by
  obtain ⟨h1, h2, h3⟩ := of_decide_eq_true h
  refine ⟨by rw [ha.len hw]; have := ofI_len g; omega, tp_le.2 fun x hx => ?_⟩
  have := h3 _ (List.mem_append.2 (.inr (mem_ofI.1 ((nat_mem ha).2 hx))))
  show x < 256
  omega
/-- What came of a deed. -/
structure Out (ns ns' : List Nd) (id : Nat) (er : Int) (W : List Int) : Prop where
  e5 : er = 0 ∨ er = 5
  is : er = 0 → Is ns' id W
  z : ¬ er = 0 → id = 0
  pre : ns <+: ns'
theorem ab_out (h : AbW ab R ns a b ns' id er) (hw : Wf ns) (ha : Is ns a A) (hb : Is ns b B) : Out ns ns' id er (aboveI A B ab) :=
  ⟨(h.1.sta rfl 24 (tp_24 hw ha.v) (tp_24 hw hb.v)).ers, fun z => ab_is h.1.v (h.1.m z) ha hb, h.2, h.1.pre⟩
theorem wC_10 {L n m : Nat} (hL : L ≤ 24) (hn : n ≤ 10) (hm : m ≤ 10) : wC 8 0 L n m ≤ 2060 := by
  refine Nat.le_trans (wC_le (Nat.zero_le _) hL (Nat.le_refl _)) ?_
  unfold wC
  split
  · omega
  · have h1 : n * (aW 8 24 + bW 8 24 * m) ≤ 10 * (aW 8 24 + bW 8 24 * 10) := Nat.mul_le_mul hn (Nat.add_le_add_left (Nat.mul_le_mul_left _ hm) _)
    have h2 : 10 * (aW 8 24 + bW 8 24 * 10) = 4120 := by decide
    rw [h2] at h1
    show 2 * 0 + n * (aW 8 24 + bW 8 24 * m) / 2 ≤ 2060
    omega
theorem ab_rm (h : AbW ab R ns a b ns' id er) (hw : Wf ns) (hva : a < ns.length + 2) (ha : S10 ns a) (hb : S10 ns b) (hR : ns.length + 2060 < R) : er = 0 ∧ ns'.length ≤ ns.length + 2060 :=
  ((h.1.sta rfl 8 ha.t hb.t).mono (wC_10 (by have := lvl_le hw hva; omega) ha.n hb.n)).ok hR
theorem mo_out (h : MoA R ns a ns' id er) (hw : Wf ns) (ha : Is ns a A) : Out ns ns' id er (mostTo A A.length) := by
  have kok : KOk 24 1000 := by unfold KOk; decide
  exact ⟨(h.1.sta rfl 24 1000 kok (tp_24 hw ha.v)).ers, fun z => mo_is h.1.v (h.1.m z) ha, h.2, h.1.pre⟩
theorem mC_10 {L n : Nat} (hL : L ≤ 24) (hn : n ≤ 10) : mC 8 73 0 L n ≤ 4405 := by
  refine Nat.le_trans (mC_le (Nat.zero_le _) hL) ?_
  have h1 : n * qW 8 (24 - 0) ≤ 10 * qW 8 24 := Nat.mul_le_mul_right _ hn
  have h2 : 10 * qW 8 24 = 1120 := by decide
  have h3 : ∀ n, n < 11 → pr n ≤ 45 := by decide
  have h4 := h3 n (by omega)
  omega
theorem mo_rm (h : MoA R ns a ns' id er) (hw : Wf ns) (hva : a < ns.length + 2) (ha : S10 ns a) (hR : ns.length + 4405 < R) : er = 0 ∧ ns'.length ≤ ns.length + 4405 :=
  ((h.1.sta rfl 8 73 kok_8 ha.t).mono (mC_10 (lvl_le hw hva) ha.n)).ok hR
theorem is_of {rm : Bool} (h : Out ns ns1 id er W) (hp : ns1 <+: ns') (hr : rm = true → er = 0) : (er = 0 ∧ Is ns' id W) ∨ (er = 5 ∧ id = 0 ∧ rm = false) := by
  by_cases k : er = 0
  · exact .inl ⟨k, (h.is k).pre hp⟩
  · exact .inr ⟨h.e5.resolve_left k, h.z k, Bool.eq_false_iff.2 fun q => k (hr q)⟩
/-! ### Dividing, by any family -/
def DvX (R : Nat) (ns : List Nd) (f g : Nat) (ns' : List Nd) (q r : Nat) (er : Int) : Prop := (g = 0 ∧ ns' = ns ∧ q = 0 ∧ r = 0 ∧ er = 1) ∨ (¬ g = 0 ∧ DivW R ns f g ns' q r er)
theorem is_nil (h : Is ns a []) (hw : Wf ns) : a = 0 := len_0 hw h.v (by rw [h.len hw]; rfl)
theorem is_ne (h : Is ns a A) (ha : ¬ a = 0) (hw : Wf ns) : 0 < A.length := by rw [← h.len hw]; exact len_pos hw h.v ha
theorem is_0 (h : Is ns 0 A) : A = [] := by
  have := h.s
  unfold srtM at this
  rw [mems_0] at this
  exact this.symm
theorem dv_outq (h : DivW R ns a b ns' q r er) (hw : Wf ns) (ha : Is ns a A) (hb : Is ns b B) (hB0 : 0 < B.length) : Out ns ns' q er (ofI (quoL A B A.length)) :=
  ⟨(h.sta 24 (tp_24 hw ha.v) (tp_24 hw hb.v)).ers, fun z => dq_is h.vq (h.mq z) ha hb hB0, fun z => (h.z z).1, h.pre⟩
theorem dv_outr (h : DivW R ns a b ns' q r er) (hw : Wf ns) (ha : Is ns a A) (hb : Is ns b B) (hB0 : 0 < B.length) : Out ns ns' r er (pickI A (ofI (allJ (ofI (quoL A B A.length)) B)) false) :=
  ⟨(h.sta 24 (tp_24 hw ha.v) (tp_24 hw hb.v)).ers, fun z => dr_is h.vr (h.mr z) ha hb hB0 rfl, fun z => (h.z z).2, h.pre⟩
theorem dv_rm (h : DivW R ns a b ns' q r er) (ha : S10 ns a) (hb : S10 ns b) (hR : ns.length + 10880 < R) : er = 0 ∧ ns'.length ≤ ns.length + 10880 := by
  refine ((h.sta 8 ha.t hb.t).mono ?_).ok hR
  have h1 := ha.n
  have h2 := hb.n
  generalize (mems ns a).length = n at *
  generalize (mems ns b).length = m at *
  unfold dC dW
  have h3 : m * (8 * (8 * n) + 8 * n) ≤ 10 * (8 * (8 * 10) + 8 * 10) := Nat.mul_le_mul h2 (by omega)
  have h4 : tri 8 * (n * m) ≤ tri 8 * (10 * 10) := Nat.mul_le_mul_left _ (Nat.mul_le_mul h1 h2)
  have h5 : tri 8 * (10 * 10) = 3600 := by decide
  omega
theorem dvx_er (h : DvX R ns a b ns' q r er) (hb : b = 0) : q = 0 ∧ r = 0 ∧ er = 1 ∧ ns' = ns := by
  rcases h with ⟨_, h1, h2, h3, h4⟩ | ⟨h, _⟩
  · exact ⟨h2, h3, h4, h1⟩
  · exact absurd hb h
theorem dvx_ok (h : DvX R ns a b ns' q r er) (hb : ¬ b = 0) : DivW R ns a b ns' q r er := by
  rcases h with ⟨h, _⟩ | ⟨_, h⟩
  · exact absurd h hb
  · exact h
theorem jo_sub (hA : Inc A) {x : Int} (h : x ∈ ofI (allJ (ofI (quoL A B A.length)) B)) : x ∈ A := by
  rw [mem_ofI, mem_allJ] at h
  obtain ⟨p, hp, m, hm, rfl⟩ := h
  have hp := mem_ofI.1 hp
  unfold quoL at hp
  rw [List.take_length] at hp
  obtain ⟨z, hz, e⟩ := List.mem_filterMap.1 hp
  unfold quE at e
  split at e
  · rename_i hc
    have e : z - B.getD 0 0 = p := Option.some.inj e
    have h3 := List.all_eq_true.1 hc.2 m hm
    unfold qB at h3
    rw [Bool.and_eq_true, decide_eq_true_iff, decide_eq_true_iff, e] at h3
    exact h3.2
  · cases e
theorem back_un {J : List Int} (hA : Inc A) (hs : ∀ x, x ∈ J → x ∈ A) : ofI (J ++ pickI A J false) = A := (ofI_eq hA fun x => by
  rw [List.mem_append, mem_pickI, decide_eq_false_iff_not]
  exact ⟨fun h => by by_cases k : x ∈ J; exact .inl k; exact .inr ⟨h, k⟩, fun h => h.elim (hs x) fun k => k.1⟩).symm
theorem back_me {J : List Int} : pickI J (pickI A J false) true = [] := by
  refine List.eq_nil_iff_forall_not_mem.2 fun x hx => ?_
  obtain ⟨h1, h2⟩ := mem_pickI.1 hx
  exact of_decide_eq_false (mem_pickI.1 (of_decide_eq_true h2)).2 h1
/-! ### The same families -/
structure Ids (ns : List Nd) (id : Nat) (S : Nat → Prop) : Prop where
  v : id < ns.length + 2
  m : M ns id = S
theorem Ids.pre (h : Ids ns id S) (p : ns <+: ns') : Ids ns' id S := ⟨by have := h.v; have := pre_len p; omega, by rw [M_pre p h.v]; exact h.m⟩
theorem Ids.eq (h : Ids ns a S) (k : Ids ns b S) (hw : Wf ns) : (a : Int) = (b : Int) := by
  have : a = b := one_id hw a h.v b k.v fun x => by
    have e : M ns a = M ns b := h.m.trans k.m.symm
    exact Iff.of_eq (congrFun e x)
  rw [this]
theorem ms_idem {F : Nat → Prop} : msS (msS F) = msS F := set_ext' fun x => ⟨fun h => h.1, fun h => ⟨h, fun y hy hh => h.2 y hy.1 hh⟩⟩
theorem below_most {F : Nat → Prop} (hF : ∀ x, F x → x < 16777216) : wS false F (msS F) = F := set_ext' fun x => by
  rw [wS_f]
  exact ⟨fun h => h.1, fun h => ⟨h, most_above hF _ x (Nat.le_refl _) h⟩⟩
theorem above_least {F : Nat → Prop} : wS true F (lsS F) = F := set_ext' fun x => by
  rw [wS_t]
  exact ⟨fun h => h.1, fun h => ⟨h, least_below x h⟩⟩
theorem parts_all {F G : Nat → Prop} (hs : ∀ x, G x → F x) : (fun x => G x ∨ (F x ∧ ¬ G x)) = F := set_ext' fun x => ⟨fun h => h.elim (hs x) fun k => k.1, fun h => by by_cases k : G x; exact .inl k; exact .inr ⟨h, k⟩⟩
theorem got_rm {o : Op} {S : Nat → Prop} (h : Got ns ns' R (o.cst ns a b) l S id er) (hc : o.cst ns a b ≤ 80) (hR : ns.length + 80 < R) : er = 0 ∧ ns'.length ≤ ns.length + 80 := by
  have := h.cost
  rcases h.res with k | k
  · exact ⟨k.1, by omega⟩
  · have := k.2.2; omega
theorem cst_U (hw : Wf ns) (hva : a < ns.length + 2) (hvb : b < ns.length + 2) (ha : S10 ns a) (hb : S10 ns b) : opU.cst ns a b ≤ 80 := Nat.le_trans (cE_T hw opU_ok.endF hva hvb ha.t hb.t) (Nat.le_trans (Nat.mul_le_mul (Nat.sub_le 8 _) (Nat.le_trans (Nat.min_le_left _ _) ha.n)) (by decide))
theorem cst_L (hw : Wf ns) (hva : a < ns.length + 2) (hvb : b < ns.length + 2) (ha : S10 ns a) (hb : S10 ns b) : opL.cst ns a b ≤ 80 := Nat.le_trans (cE_T hw opL_ok.endF hva hvb ha.t hb.t) (Nat.le_trans (Nat.mul_le_mul (Nat.sub_le 8 _) (Nat.le_trans (Nat.min_le_left _ _) ha.n)) (by decide))
theorem ls_rm {S : Nat → Prop} (h : Got ns ns' R (lc (24 - lvl ns a) (mems ns a).length) l S id er) (ha : S10 ns a) (hR : ns.length + 2640 < R) : er = 0 ∧ ns'.length ≤ ns.length + 2640 := by
  have := h.cost
  have := lc_le (24 - lvl ns a) (mems ns a).length 10 (by omega) ha.n
  rcases h.res with k | k
  · exact ⟨k.1, by omega⟩
  · have := k.2.2; omega
end

theorem allJT_len24 {A B : List Int} (i k : Nat) (hi : i ≤ 24) (hk : k ≤ 24) (hA : A.length ≤ 24) (hB : B.length ≤ 24) : (ofI (allJT A B i k)).length ≤ 1000 := by
  refine Nat.le_trans (ofI_len _) ?_
  have h1 : ∀ (l : List Int), (allJ l B).length = l.length * B.length := fun l => by
    induction l with
    | nil => simp [allJ]
    | cons x l ih =>
      have e : allJ (x :: l) B = B.map (joI x) ++ allJ l B := rfl
      rw [e, List.length_append, List.length_map, ih, List.length_cons, Nat.add_mul, Nat.one_mul, Nat.add_comm]
  unfold allJT
  rw [List.length_append, h1, List.length_map, List.length_take, List.length_take]
  have : min i A.length * B.length ≤ 24 * 24 := Nat.mul_le_mul (by omega) hB
  omega
theorem quo_rng {A B : List Int} (hA : ∀ m, m ∈ A → 0 ≤ m ∧ m < 16777216) (hB : ∀ m, m ∈ B → 0 ≤ m ∧ m < 16777216) (h0 : 0 < B.length) : ∀ m, m ∈ ofI (quoL A B A.length) → 0 ≤ m ∧ m < 16777216 := fun m hm => by
  have hm := mem_ofI.1 hm
  unfold quoL at hm
  obtain ⟨z, hz, e⟩ := List.mem_filterMap.1 hm
  unfold quE at e
  split at e
  · rename_i hc
    have e : z - B.getD 0 0 = m := Option.some.inj e
    rw [← e]
    exact sub_rng (hA z (List.mem_of_mem_take hz)) (hB _ (getD_mem h0)) hc.1
  · cases e

/-! ### Few members of small items, as rows -/
structure Sml (A : List Int) : Prop where
  n : A.length ≤ 10
  t : ∀ x, x ∈ A → x < 256
section
variable {ns ns' : List Nd} {R a b id c l : Nat} {er : Int} {A B f g : List Int} {F G S : Nat → Prop} {ab : Bool}
theorem few_sm1 (h : fewB f g = true) : Sml (ofI f) := by
  obtain ⟨h1, h2, h3⟩ := of_decide_eq_true h
  exact ⟨by have := ofI_len f; omega, fun x hx => by have := h3 x (List.mem_append.2 (.inl (mem_ofI.1 hx))); omega⟩
theorem few_sm2 (h : fewB f g = true) : Sml (ofI g) := by
  obtain ⟨h1, h2, h3⟩ := of_decide_eq_true h
  exact ⟨by have := ofI_len g; omega, fun x hx => by have := h3 x (List.mem_append.2 (.inr (mem_ofI.1 hx))); omega⟩
theorem sml_tp (h : ∀ x, x ∈ A → x < 256) (ha : Is ns a A) : tp ns a ≤ 8 := tp_le.2 fun x hx => by
  have := h _ ((nat_mem ha).2 hx)
  show x < 256
  omega
theorem sml_quo (h : Sml A) (hB : ∀ m, m ∈ B → 0 ≤ m ∧ m < 16777216) (h0 : 0 < B.length) : Sml (ofI (quoL A B A.length)) := by
  refine ⟨Nat.le_trans (ofI_len _) (Nat.le_trans quoL_len h.n), fun x hx => ?_⟩
  have hm := mem_ofI.1 hx
  unfold quoL at hm
  obtain ⟨z, hz, e⟩ := List.mem_filterMap.1 hm
  unfold quE at e
  split at e
  · have e : z - B.getD 0 0 = x := Option.some.inj e
    have h1 := h.t z (List.mem_of_mem_take hz)
    have h2 := (hB _ (getD_mem (d := 0) h0)).1
    omega
  · cases e
theorem sml_jo (h : Sml A) (hA : Inc A) : ∀ x, x ∈ ofI (allJ (ofI (quoL A B A.length)) B) → x < 256 := fun x hx => h.t x (jo_sub hA hx)
theorem sml_pick (h : Sml A) {b : Bool} : Sml (pickI A B b) := ⟨Nat.le_trans (pickI_len _ _ _) h.n, fun x hx => h.t x (mem_pickI.1 hx).1⟩
theorem moa_ids (h : MoA R ns a ns' id er) (he : er = 0) (ha : Ids ns a F) : Ids ns' id (msS F) := ⟨h.1.v, by rw [← ha.m]; exact set_ext' (h.1.m he)⟩
theorem abw_ids (h : AbW ab R ns a b ns' id er) (he : er = 0) (ha : Ids ns a F) (hb : Ids ns b G) : Ids ns' id (wS ab F G) := ⟨h.1.v, by rw [← ha.m, ← hb.m]; exact set_ext' (h.1.m he)⟩
theorem got_ids {S : Nat → Prop} (h : Got ns ns' R c l S id er) (he : er = 0) : Ids ns' id S := ⟨h.valid, set_ext' (h.ok he).2.2⟩
theorem Ids.s10 {ns0 : List Nd} {a0 : Nat} (h : Ids ns id S) (hw : Wf ns) (hs : ∀ x, S x → M ns0 a0 x) (h0 : S10 ns0 a0) : S10 ns id := h0.sub hw h.v fun x hx => hs x (by rw [h.m] at hx; exact hx)
theorem Ids.to (h : Ids ns id S) (e : S = F) : Ids ns id F := e ▸ h
end
end

end Go.Proofs.Ytpamgfbecgjjeaa
