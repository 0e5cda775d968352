/-
  What is needed for more deeds with families: what single items cost, and how a deed of many steps stands. No program in it. Members above and below those of another family: item by item. No program in it. What a walk through two families may cost. No program in it. Walks through two families: what is done, and what a step comes to. No program in it. What one whole call of a walk through two families may cost. No program in it. What a walk through two families leaves as it was, and what it may be sure of underway. No program in it. What is above, and below, another family: the outer deeds. No program in it.
-/
import Derived.Test.YtpamgfbecgjjeaaZ8
namespace Go.Proofs.Ytpamgfbecgjjeaa
set_option linter.unusedVariables false
set_option linter.unusedSimpArgs false

section
open Go Go.RowKit

/-! ### One item -/
theorem bcN_one (i : Nat) : ∀ n lv, bcN n lv (2 ^ i) ≤ 1 ∧ (i < lv → bcN n lv (2 ^ i) = 0)
  | 0, _ => ⟨Nat.zero_le _, fun _ => rfl⟩
  | n + 1, lv => by
    obtain ⟨h1, h2⟩ := bcN_one i n (lv + 1)
    rw [bcN, Nat.testBit_two_pow]
    by_cases h : i = lv
    · subst h
      rw [decide_eq_true rfl, if_pos rfl, h2 (Nat.lt_succ_self i)]
      exact ⟨Nat.le_refl _, fun k => absurd k (Nat.lt_irrefl _)⟩
    · rw [decide_eq_false h, if_neg (by decide)]
      exact ⟨by omega, fun k => by rw [h2 (by omega)]⟩
theorem bcL_one (i : Nat) : bcL 0 [((2 ^ i : Nat) : Int)] ≤ 1 := by
  have h := (bcN_one i (24 - 0) 0).1
  have e : bcL 0 [((2 ^ i : Nat) : Int)] = bcN (24 - 0) 0 (((2 ^ i : Nat) : Int)).toNat + 0 := rfl
  rw [Int.toNat_natCast] at e
  omega
section
variable {ns ns' : List Nd} {f g i : Nat}
/-- The family of one item alone. -/
def Single (ns : List Nd) (g i : Nat) : Prop := ∀ x, x ∈ mems ns g ↔ x = 2 ^ i
theorem Single.node (h : Wf ns) (hg : g < ns.length + 2) (hi : i < 24) (hs : Single ns g i) : 2 ≤ g ∧ lvl ns g = i ∧ halfA ns g i = 0 ∧ halfB ns g i = 1 := by
  have hm : 2 ^ i ∈ mems ns g := (hs _).2 rfl
  have h2 : 2 ≤ g := by
    rcases Nat.lt_or_ge g 2 with k | k
    · exfalso
      have e : g = 0 ∨ g = 1 := by omega
      rcases e with rfl | rfl
      · rw [mems_0] at hm; cases hm
      · rw [mems_1, List.mem_singleton] at hm
        have := Nat.two_pow_pos i
        omega
    · exact k
  have h24 := lvl_lt h hg h2
  have H := half_of h hg (Nat.le_refl _) h24
  have hl : lvl ns g = i := by
    have hB : halfB ns g (lvl ns g) ≠ 0 := by
      obtain ⟨j, rfl⟩ : ∃ j, g = j + 2 := ⟨g - 2, by omega⟩
      unfold halfB
      rw [if_pos ⟨by omega, rfl⟩, Nat.add_sub_cancel]
      exact (h.ok j (by omega)).2.2.1
    obtain ⟨y, hy⟩ := mems_ne h _ H.vb hB
    have e := (hs _).1 ((H.mem _).2 (.inr ⟨y, hy, rfl⟩))
    have hb := bit_set (dvd_lt H.lb (mems_bits h _ H.vb y hy).1)
    rw [e, Nat.testBit_two_pow] at hb
    exact (of_decide_eq_true hb).symm
  rw [hl] at H
  refine ⟨h2, hl, ?_, ?_⟩
  · rcases Nat.eq_zero_or_pos (halfA ns g i) with k | k
    · exact k
    · exfalso
      obtain ⟨y, hy⟩ := mems_ne h _ H.va (by omega)
      have e := (hs _).1 ((H.mem _).2 (.inl hy))
      have hb := bit_clear (dvd_lt H.la (mems_bits h _ H.va y hy).1)
      rw [e, Nat.testBit_two_pow] at hb
      exact absurd hb (by simp)
  · refine one_id h _ H.vb 1 (by omega) fun x => ?_
    rw [mems_1, List.mem_singleton]
    constructor
    · intro hx
      have e := (hs _).1 ((H.mem _).2 (.inr ⟨x, hx, rfl⟩))
      omega
    · rintro rfl
      rcases (H.mem _).1 hm with k | ⟨y, hy, e⟩
      · exfalso
        have hb := bit_clear (dvd_lt H.la (mems_bits h _ H.va _ k).1)
        rw [Nat.testBit_two_pow] at hb
        exact absurd hb (by simp)
      · have : y = 0 := by omega
        rw [← this]; exact hy
theorem cJn_end {n : Nat} (h : (enJ f g).2 = true) : cJn n ns f g = 0 := by
  cases n with
  | zero => rfl
  | succ n => rw [cJn, if_pos h]
theorem cJE_one (h : Wf ns) (hf : f < ns.length + 2) (hg : g < ns.length + 2) (hi : i < 24) (hs : Single ns g i) (hl : i < lvl ns f) : cJE ns f g ≤ 1 := by
  obtain ⟨g2, gl, gA, gB⟩ := hs.node h hg hi
  unfold cJE
  cases he : (enJ f g).2 with
  | true => rw [cJn_end he]; omega
  | false =>
    obtain ⟨n, hn⟩ : ∃ n, 25 - min (lvl ns f) (lvl ns g) = n + 1 := ⟨24 - min (lvl ns f) (lvl ns g), by omega⟩
    have e : min (lvl ns f) (lvl ns g) = i := by omega
    have fA : halfA ns f i = f := if_neg (fun k => by omega)
    have fB : halfB ns f i = 0 := if_neg (fun k => by omega)
    rw [hn, cJn, if_neg (by rw [he]; decide), e, fA, fB, gA, gB]
    have e0 : ∀ x, (enJ x 0).2 = true := fun x => by unfold enJ; rw [if_pos (.inr rfl)]
    have e1 : ∀ x, (enJ 0 x).2 = true := fun x => by unfold enJ; rw [if_pos (.inl rfl)]
    have e2 : (enJ f 1).2 = true := by
      unfold enJ
      split
      · rfl
      · split
        · rfl
        · rfl
    rw [cJn_end (e0 f), cJn_end (e0 0), cJn_end e2, cJn_end (e1 1)]
    unfold uJE uJ
    rw [mems_0]
    simp

/-! ### How a deed of many steps stands: all went well, or no node was left -/
structure Sta (ns ns' : List Nd) (R c : Nat) (e : Int) : Prop where
  pre : ns <+: ns'
  st : (e = 0 ∧ ns'.length ≤ ns.length + c) ∨ (e = 5 ∧ R ≤ ns.length + c)
variable {ns1 ns2 : List Nd} {R c c1 c2 l id : Nat} {e e1 er : Int} {S : Nat → Prop}
theorem Sta.refl : Sta ns ns R 0 0 := ⟨List.prefix_refl _, .inl ⟨rfl, by omega⟩⟩
theorem Sta.mono (h : Sta ns ns' R c e) (hc : c ≤ c2) : Sta ns ns' R c2 e := ⟨h.pre, h.st.imp (fun k => ⟨k.1, by omega⟩) (fun k => ⟨k.1, by omega⟩)⟩
theorem Sta.ers (h : Sta ns ns' R c e) : e = 0 ∨ e = 5 := h.st.imp (·.1) (·.1)
theorem Sta.ok (h : Sta ns ns' R c e) (hR : ns.length + c < R) : e = 0 ∧ ns'.length ≤ ns.length + c := by
  rcases h.st with k | k
  · exact k
  · omega
/-- What did takes. -/
def didE (e er : Int) : Int := if e = 0 then er else e
def didV (e er : Int) (id : Nat) : Nat := if didE e er = 0 then id else 0
theorem didE_0 : didE e er = 0 ↔ e = 0 ∧ er = 0 := by
  unfold didE
  by_cases h : e = 0
  · rw [if_pos h]; exact ⟨fun k => ⟨h, k⟩, fun k => k.2⟩
  · rw [if_neg h]; exact ⟨fun k => absurd k h, fun k => absurd k.1 h⟩
theorem didV_0 (h : didE e er = 0) : didV e er id = id := if_pos h
theorem didV_v (hv : id < ns.length + 2) : didV e er id < ns.length + 2 := by
  unfold didV
  split
  · exact hv
  · omega
/-- One step more: a deed that may run out of nodes. -/
theorem Sta.did (h : Sta ns ns1 R c e) (g : Got ns1 ns2 R c1 l S id er) (hc : e = 0 → c1 ≤ c2) : Sta ns ns2 R (c + c2) (didE e er) := by
  refine ⟨h.pre.trans g.pre, ?_⟩
  have gc := g.cost
  rcases h.st with ⟨h1, h2⟩ | ⟨h1, h2⟩
  · have := hc h1
    rcases g.res with ⟨k1, _⟩ | ⟨k1, _, k3⟩
    · exact .inl ⟨didE_0.2 ⟨h1, k1⟩, by omega⟩
    · refine .inr ⟨?_, by omega⟩
      unfold didE; rw [if_pos h1]; exact k1
  · refine .inr ⟨?_, by omega⟩
    unfold didE; rw [if_neg (by rw [h1]; decide)]; exact h1
/-- One step more: a deed of many steps. -/
theorem Sta.step (h : Sta ns ns1 R c e) (g : e = 0 → Sta ns1 ns2 R c2 e1) (g5 : ¬ e = 0 → ns1 <+: ns2 ∧ e1 = e) : Sta ns ns2 R (c + c2) e1 := by
  rcases h.st with ⟨h1, h2⟩ | ⟨h1, h2⟩
  · have k := g h1
    refine ⟨h.pre.trans k.pre, ?_⟩
    rcases k.st with ⟨k1, k2⟩ | ⟨k1, k2⟩
    · exact .inl ⟨k1, by omega⟩
    · exact .inr ⟨k1, by omega⟩
  · obtain ⟨k1, k2⟩ := g5 (by rw [h1]; decide)
    exact ⟨h.pre.trans k1, .inr ⟨by rw [k2]; exact h1, by omega⟩⟩
end

structure PartW (ns ns' : List Nd) (R : Nat) (e e' : Int) (f i f0 f1 : Nat) : Prop where
  v0 : f0 < ns'.length + 2
  v1 : f1 < ns'.length + 2
  pre : ns <+: ns'
  sta : e = 0 → Sta ns ns' R (cPt ns f i + cPt ns f i) e'
  err : ¬ e = 0 → e' = e
  m0 : e' = 0 → ∀ x, x ∈ mems ns' f0 ↔ pS false i (M ns f) x
  m1 : e' = 0 → ∀ x, x ∈ mems ns' f1 ↔ pS true i (M ns f) x
theorem part_w {ns ns1 ns2 : List Nd} {R f i l0 l1 idA idB : Nat} {e erA erB : Int} (gA : Got ns ns1 R (cPt ns f i) l0 (pS false i (M ns f)) idA erA) (gB : Got ns1 ns2 R (cPt ns1 f i) l1 (pS true i (M ns1 f)) idB erB) (hf : f < ns.length + 2) :
    PartW ns ns2 R e (didE (didE e erA) erB) f i (didV e erA idA) (didV (didE e erA) erB idB) := by
  have p2 := pre_len gB.pre
  refine ⟨didV_v (by have := gA.valid; omega), didV_v gB.valid, gA.pre.trans gB.pre, fun he => ?_, fun he => ?_, fun h0 => ?_, fun h0 => ?_⟩
  · subst he
    exact ((Sta.refl.did gA (fun _ => Nat.le_refl _)).did gB (c2 := cPt ns f i) (fun _ => by rw [cPt_pre gA.pre hf]; exact Nat.le_refl _)).mono (by omega)
  · have h1 : didE e erA = e := if_neg he
    rw [h1]; exact if_neg he
  · obtain ⟨h1, h2⟩ := didE_0.1 h0
    rw [didV_0 h1, mems_pre gB.pre gA.valid]
    exact (gA.ok (didE_0.1 h1).2).2.2
  · obtain ⟨h1, h2⟩ := didE_0.1 h0
    rw [didV_0 h0]
    have := (gB.ok h2).2.2
    rw [M_pre gA.pre hf] at this
    exact this

structure PutW (ns ns' : List Nd) (R : Nat) (e e' : Int) (f i id : Nat) : Prop where
  v : id < ns'.length + 2
  pre : ns <+: ns'
  sta : e = 0 → i < lvl ns f → Sta ns ns' R 2 e'
  err : ¬ e = 0 → e' = e
  m : e' = 0 → ∀ x, x ∈ mems ns' id ↔ joinS (M ns f) (· = 2 ^ i) x
theorem put_w {ns ns1 ns2 : List Nd} {R f i l0 l1 idA idB : Nat} {e erA erB : Int} (hw1 : Wf ns1) (gA : Got ns ns1 R (bcL 0 [((1 * 2 ^ i : Nat) : Int)]) l0 (bS [((1 * 2 ^ i : Nat) : Int)] 0) idA erA) (gB : Got ns1 ns2 R (opJ.cst ns1 f (didV e erA idA)) l1 (opJ.res (M ns1 f) (M ns1 (didV e erA idA))) idB erB) (hf : f < ns.length + 2) (hi : i < 24) :
    PutW ns ns2 R e (didE (didE e erA) erB) f i (didV (didE e erA) erB idB) := by
  rw [Nat.one_mul] at gA
  have p1 := pre_len gA.pre
  have hS : erA = 0 → Single ns1 idA i := fun h x => by
    rw [(gA.ok h).2.2 x]
    constructor
    · rintro ⟨m, hm, e⟩
      rw [List.mem_singleton.1 hm, Int.toNat_natCast, clr_0] at e
      exact e
    · rintro rfl
      exact ⟨_, List.mem_singleton.2 rfl, by rw [Int.toNat_natCast, clr_0]⟩
  refine ⟨didV_v gB.valid, gA.pre.trans gB.pre, fun he hl => ?_, fun he => ?_, fun h0 x => ?_⟩
  · subst he
    refine ((Sta.refl.did gA (c2 := 1) (fun _ => bcL_one i)).did gB (c2 := 1) (fun h => ?_)).mono (by omega)
    rw [didV_0 h]
    exact cJE_one hw1 (by omega) gA.valid hi (hS (didE_0.1 h).2) (by rw [lvl_pre gA.pre hf]; exact hl)
  · have h1 : didE e erA = e := if_neg he
    rw [h1]; exact if_neg he
  · obtain ⟨h1, h2⟩ := didE_0.1 h0
    have k := (gB.ok h2).2.2
    rw [didV_0 h1, M_pre gA.pre hf] at k
    rw [didV_0 h0, k x]
    have e2 : M ns1 idA = (· = 2 ^ i) := set_ext' (hS (didE_0.1 h1).2)
    rw [e2]; rfl

/-! ### The memory of work -/
def Wk (T : TypeId) (bw bz bd : Nat) (w : World) : Prop := ∃ e, At w bw #[.pointer (some ⟨bz, 0, none⟩), .map (some bd), .int .i64 e] T
structure Dw (Tn T : TypeId) (N bw bz bd ba bm : Nat) (w w' : World) : Prop where
  dx : Dx Tn N [bw, bd, ba, bm] w w'
  wk : Wk T bw bz bd w → Wk T bw bz bd w'
section
variable {Ta Tn T : TypeId} {N bw bz bd ba bm R : Nat} {w w' w'' : World} {ns ns' : List Nd} {e e' : Int}
theorem PO.dx {c l : Nat} {S : Nat → Prop} {v : Value} (h : PO Ta Tn N ba bm R w ns c l S v w') : Dx Tn N [ba, bm] w w' := by
  obtain ⟨_, _, _, _, h, _⟩ := h; exact h
theorem PE.dx {ok : Bool} {c l : Nat} {S : Nat → Prop} {v : Value} (h : PE Ta Tn N ba bm R w ns ok c l S v w') : Dx Tn N [ba, bm] w w' := by
  obtain ⟨_, _, _, _, h, _⟩ := h; exact h
theorem Wk.c0 (h : Wk T bw bz bd w) : w.cell? ⟨bw, 0, none⟩ = some (.pointer (some ⟨bz, 0, none⟩)) := by
  obtain ⟨e, h⟩ := h
  exact At.cell h rfl
theorem Wk.c1 (h : Wk T bw bz bd w) : w.cell? ⟨bw, 1, none⟩ = some (.map (some bd)) := by
  obtain ⟨e, h⟩ := h
  exact At.cell h rfl
theorem Dw.refl : Dw Tn T N bw bz bd ba bm w w := ⟨Dx.refl, id⟩
theorem Dw.trans (h : Dw Tn T N bw bz bd ba bm w w') (k : Dw Tn T N bw bz bd ba bm w' w'') : Dw Tn T N bw bz bd ba bm w w'' := ⟨h.dx.trans k.dx, fun q => k.wk (h.wk q)⟩
theorem Dw.ext (h : Ext w w') : Dw Tn T N bw bz bd ba bm w w' := ⟨Dx.ext h, fun ⟨e, q⟩ => ⟨e, h.at q⟩⟩
theorem Dw.zdd (D : Dia Ta Tn N ba bm R w ns) (h : Dx Tn N [ba, bm] w w') (hTa : T ≠ Ta) (hTn : T ≠ Tn) : Dw Tn T N bw bz bd ba bm w w' := ⟨h.mono (fun x hx => List.mem_cons_of_mem _ (List.mem_cons_of_mem _ hx)), fun ⟨e, q⟩ => ⟨e, At.dx D h q hTa hTn⟩⟩
theorem Dw.did (h : w.grownBy w' (some bw)) (hN : N ≤ bw) (q : At w' bw #[.pointer (some ⟨bz, 0, none⟩), .map (some bd), .int .i64 e'] T) : Dw Tn T N bw bz bd ba bm w w' := ⟨Dx.grown h (List.mem_cons_self ..) hN, fun _ => ⟨e', q⟩⟩
end
end

section
open Go Go.RowKit

theorem lvl_ge {ns : List Nd} (h : Wf ns) {f j : Nat} (hf : f < ns.length + 2) (hj : j ≤ 24) (hd : ∀ x, x ∈ mems ns f → 2 ^ j ∣ x) : j ≤ lvl ns f := by
  rcases Nat.lt_or_ge f 2 with k | k
  · rw [lvl_small k]; exact hj
  · rcases Nat.lt_or_ge (lvl ns f) j with q | q
    · exfalso
      have H := half_of h hf (Nat.le_refl _) (lvl_lt h hf k)
      have hB : halfB ns f (lvl ns f) ≠ 0 := by
        obtain ⟨i, rfl⟩ : ∃ i, f = i + 2 := ⟨f - 2, by omega⟩
        unfold halfB
        rw [if_pos ⟨by omega, rfl⟩, Nat.add_sub_cancel]
        exact (h.ok i (by omega)).2.2.1
      obtain ⟨y, hy⟩ := mems_ne h _ H.vb hB
      have h1 := hd _ ((H.mem _).2 (.inr ⟨y, hy, rfl⟩))
      have h2 := bit_set (dvd_lt H.lb (mems_bits h _ H.vb y hy).1)
      have h3 := bit_clear (dvd_lt q h1)
      rw [h2] at h3; cases h3
    · exact q
def wS (ab : Bool) (F G : Nat → Prop) (x : Nat) : Prop := F x ∧ ∃ y, G y ∧ (if ab = true then holdsN x y else holdsN y x)
theorem wS_t {F G : Nat → Prop} {x : Nat} : wS true F G x ↔ F x ∧ ∃ y, G y ∧ holdsN x y := Iff.rfl
theorem wS_f {F G : Nat → Prop} {x : Nat} : wS false F G x ↔ F x ∧ ∃ y, G y ∧ holdsN y x := Iff.rfl
theorem wS_up {F0 F1 G0 G1 : Nat → Prop} {l : Nat} (hF0 : lev l F0) (hF1 : lev l F1) (hG0 : lev l G0) (hG1 : lev l G1) (x : Nat) :
    (wS true (up l F0 F1) (up l G0 G1) x ↔ up l (wS true F0 G0) (wS true F1 (fun y => G0 y ∨ G1 y)) x) ∧ (wS false (up l F0 F1) (up l G0 G1) x ↔ up l (wS false F0 (fun y => G0 y ∨ G1 y)) (wS false F1 G1) x) := by
  constructor
  · rw [wS_t]
    constructor
    · rintro ⟨h | ⟨z, h, rfl⟩, y, k | ⟨q, k, rfl⟩, hh⟩
      · exact .inl ⟨h, y, k, hh⟩
      · exact absurd hh (holds_up (hF0 x h) (hG1 q k)).1
      · exact .inr ⟨z, ⟨h, y, .inl k, (holds_up (hF1 z h) (hG0 y k)).2.1.1 hh⟩, rfl⟩
      · exact .inr ⟨z, ⟨h, q, .inr k, (holds_up (hF1 z h) (hG1 q k)).2.2.1 hh⟩, rfl⟩
    · rintro (⟨h, y, k, hh⟩ | ⟨z, ⟨h, y, k | k, hh⟩, rfl⟩)
      · exact ⟨.inl h, y, .inl k, hh⟩
      · exact ⟨.inr ⟨z, h, rfl⟩, y, .inl k, (holds_up (hF1 z h) (hG0 y k)).2.1.2 hh⟩
      · exact ⟨.inr ⟨z, h, rfl⟩, y + 2 ^ l, .inr ⟨y, k, rfl⟩, (holds_up (hF1 z h) (hG1 y k)).2.2.2 hh⟩
  · rw [wS_f]
    constructor
    · rintro ⟨h | ⟨z, h, rfl⟩, y, k | ⟨q, k, rfl⟩, hh⟩
      · exact .inl ⟨h, y, .inl k, hh⟩
      · exact .inl ⟨h, q, .inr k, (holds_up (hG1 q k) (hF0 x h)).2.1.1 hh⟩
      · exact absurd hh (holds_up (hG0 y k) (hF1 z h)).1
      · exact .inr ⟨z, ⟨h, q, k, (holds_up (hG1 q k) (hF1 z h)).2.2.1 hh⟩, rfl⟩
    · rintro (⟨h, y, k | k, hh⟩ | ⟨z, ⟨h, y, k, hh⟩, rfl⟩)
      · exact ⟨.inl h, y, .inl k, hh⟩
      · exact ⟨.inl h, y + 2 ^ l, .inr ⟨y, k, rfl⟩, (holds_up (hG1 y k) (hF0 x h)).2.1.2 hh⟩
      · exact ⟨.inr ⟨z, h, rfl⟩, y + 2 ^ l, .inr ⟨y, k, rfl⟩, (holds_up (hG1 y k) (hF1 z h)).2.2.2 hh⟩
/-- With one item more. -/
theorem join_one {F : Nat → Prop} {l : Nat} (hF : lev l F) (x : Nat) : joinS F (· = 2 ^ l) x ↔ ∃ y, F y ∧ x = y + 2 ^ l := by
  have key : ∀ y, F y → y ||| 2 ^ l = y + 2 ^ l := fun y hy => by
    have h := (or_up1 (hF y hy) (Nat.dvd_zero (2 ^ (l + 1)))).2.1
    rw [Nat.zero_add, Nat.or_zero] at h
    exact h
  constructor
  · rintro ⟨y, b, hy, rfl, rfl⟩
    exact ⟨y, hy, key y hy⟩
  · rintro ⟨y, hy, rfl⟩
    exact ⟨y, 2 ^ l, hy, rfl, (key y hy).symm⟩
/-- Parts at the root are the halves. -/
theorem pS_half {F0 F1 : Nat → Prop} {l : Nat} (h0 : lev l F0) (h1 : lev l F1) : (∀ x, pS false l (up l F0 F1) x ↔ F0 x) ∧ ∀ x, pS true l (up l F0 F1) x ↔ F1 x := by
  refine ⟨fun x => ?_, fun x => ?_⟩
  · show (up l F0 F1 x ∧ x.testBit l = false) ↔ F0 x
    constructor
    · rintro ⟨h | ⟨y, h, rfl⟩, hb⟩
      · exact h
      · rw [bit_set (h1 y h)] at hb; cases hb
    · intro h
      exact ⟨.inl h, bit_clear (h0 x h)⟩
  · show (up l F0 F1 (x + 2 ^ l) ∧ (x + 2 ^ l).testBit l = true) ↔ F1 x
    constructor
    · rintro ⟨h | ⟨y, h, e⟩, hb⟩
      · rw [bit_clear (h0 _ h)] at hb; cases hb
      · obtain rfl : x = y := by omega
        exact h
    · intro h
      exact ⟨.inr ⟨x, h, rfl⟩, bit_set (h1 x h)⟩
theorem PartW.half {ns ns' : List Nd} {R f i f0 f1 : Nat} {e e' : Int} (p : PartW ns ns' R e e' f i f0 f1) (h : Wf ns) (hf : f < ns.length + 2) (hi : i < 24) (hl : i ≤ lvl ns f) (he : e' = 0) :
    M ns' f0 = M ns (halfA ns f i) ∧ M ns' f1 = M ns (halfB ns f i) := by
  have H := half_of h hf hl hi
  have e0 : M ns f = up i (M ns (halfA ns f i)) (M ns (halfB ns f i)) := set_ext' H.mem
  have hp := pS_half (lev_M h H.va H.la) (lev_M h H.vb H.lb)
  refine ⟨set_ext' fun x => ?_, set_ext' fun x => ?_⟩
  · rw [← hp.1 x, ← e0]; exact p.m0 he x
  · rw [← hp.2 x, ← e0]; exact p.m1 he x
end

section
open Go Go.RowKit

def aW (T : Nat) : Nat → Nat
  | 0 => 0
  | k + 1 => aW T k + (4 + (T - (23 - k)))
def bW (T : Nat) : Nat → Nat
  | 0 => 0
  | k + 1 => bW T k + (T - (23 - k) - 1)
theorem aW_mono (T k : Nat) : ∀ d, aW T k + 4 * d ≤ aW T (k + d)
  | 0 => Nat.le_refl _
  | d + 1 => by
    have := aW_mono T k d
    show _ ≤ aW T (k + d) + _
    omega
theorem bW_mono (T k : Nat) : ∀ d, bW T k ≤ bW T (k + d)
  | 0 => Nat.le_refl _
  | d + 1 => Nat.le_trans (bW_mono T k d) (Nat.le_add_right _ _)
def wC (T i L a b : Nat) : Nat := if a = 0 ∨ b = 0 then 0 else 2 * (L - i) + a * (aW T (24 - L) + bW T (24 - L) * b) / 2
theorem wC_skip {T i L a b : Nat} (hL : i < L) (ha : 1 ≤ a) (hb : 1 ≤ b) : wC T (i + 1) L a b + 2 ≤ wC T i L a b := by
  unfold wC
  rw [if_neg (by omega), if_neg (by omega)]
  omega
theorem wC_child {T i L a b B : Nat} (hL : i ≤ L) (h24 : L ≤ 24) (hb : b ≤ B) : 2 * wC T i L a b ≤ a * (aW T (24 - i) + bW T (24 - i) * B) := by
  unfold wC
  split
  · omega
  · rename_i h
    have ha : 1 ≤ a := by omega
    have h1 := aW_mono T (24 - L) (L - i)
    have h2 := bW_mono T (24 - L) (L - i)
    rw [show 24 - L + (L - i) = 24 - i by omega] at h1 h2
    have h3 : 2 * (a * (aW T (24 - L) + bW T (24 - L) * b) / 2) ≤ a * (aW T (24 - L) + bW T (24 - L) * b) := Nat.mul_div_le _ _
    have h4 : a * (aW T (24 - L) + 4 * (L - i) + bW T (24 - L) * b) ≤ a * (aW T (24 - i) + bW T (24 - i) * B) := Nat.mul_le_mul_left _ (Nat.add_le_add h1 (Nat.mul_le_mul h2 hb))
    have h5 : a * (aW T (24 - L) + 4 * (L - i) + bW T (24 - L) * b) = a * (aW T (24 - L) + bW T (24 - L) * b) + a * (4 * (L - i)) := by
      rw [← Nat.mul_add]; congr 1; omega
    have h6 : 1 * (4 * (L - i)) ≤ a * (4 * (L - i)) := Nat.mul_le_mul_right _ ha
    omega
theorem wC_call {T i a0 a1 b0 b1 L0 L1 bl bh x u v z : Nat} (hi : i < 24) (ha : 1 ≤ a0 + a1) (hb : 1 ≤ b0 + b1) (hl : bl ≤ b0 + b1) (hh : bh ≤ b0 + b1) (h0 : i + 1 ≤ L0) (h1 : i + 1 ≤ L1) (k0 : L0 ≤ 24) (k1 : L1 ≤ 24)
    (hx : x ≤ (T - (i + 1)) * min b0 b1) (hu : u ≤ wC T (i + 1) L0 a0 bl) (hv : v ≤ wC T (i + 1) L1 a1 bh) (hz : z ≤ (T - i) * min a0 a1) : x + u + v + 2 + z ≤ wC T i i (a0 + a1) (b0 + b1) := by
  have e0 := wC_child (T := T) (a := a0) h0 k0 hl
  have e1 := wC_child (T := T) (a := a1) h1 k1 hh
  generalize hB : b0 + b1 = B at *
  generalize hA : a0 + a1 = A at *
  have hk : 24 - i = (24 - (i + 1)) + 1 := by omega
  have ea : aW T (24 - i) = aW T (24 - (i + 1)) + (4 + (T - i)) := by rw [hk, aW, show 23 - (24 - (i + 1)) = i by omega]
  have eb : bW T (24 - i) = bW T (24 - (i + 1)) + (T - i - 1) := by rw [hk, bW, show 23 - (24 - (i + 1)) = i by omega]
  have hw : wC T i i A B = A * (aW T (24 - i) + bW T (24 - i) * B) / 2 := by
    unfold wC
    rw [if_neg (by omega), Nat.sub_self, Nat.mul_zero, Nat.zero_add]
  rw [hw, Nat.le_div_iff_mul_le (by decide), ea, eb]
  generalize aW T (24 - (i + 1)) = P at *
  generalize bW T (24 - (i + 1)) = Q at *
  have s1 : a0 * (P + Q * B) + a1 * (P + Q * B) = A * (P + Q * B) := by rw [← Nat.add_mul, hA]
  have s2 : 2 * ((T - (i + 1)) * min b0 b1) ≤ (T - i - 1) * B := by
    rw [show T - (i + 1) = T - i - 1 by omega, ← Nat.mul_assoc, Nat.mul_comm 2, Nat.mul_assoc]
    exact Nat.mul_le_mul_left _ (by omega)
  have s3 : 2 * ((T - i) * min a0 a1) ≤ (T - i) * A := by
    rw [← Nat.mul_assoc, Nat.mul_comm 2, Nat.mul_assoc]
    exact Nat.mul_le_mul_left _ (by omega)
  have s4 : 1 * ((T - i - 1) * B) ≤ A * ((T - i - 1) * B) := Nat.mul_le_mul_right _ ha
  have s5 : A * (P + (4 + (T - i)) + (Q + (T - i - 1)) * B) = A * (P + Q * B) + A * 4 + A * (T - i) + A * ((T - i - 1) * B) := by
    rw [← Nat.mul_add, ← Nat.mul_add, ← Nat.mul_add, Nat.add_mul Q]
    congr 1; omega
  rw [s5]
  have s6 : (T - i) * A = A * (T - i) := Nat.mul_comm _ _
  omega
end

section
open Go Go.RowKit

structure DoneWP (ab : Bool) (ns : List Nd) (p : Nd × Int) : Prop where
  v1 : p.1.l < ns.length + 2
  v2 : p.1.lo < ns.length + 2
  id : ∃ id : Nat, p.2 = (id : Int) ∧ id < ns.length + 2 ∧ ∀ x, x ∈ mems ns id ↔ wS ab (M ns p.1.l) (M ns p.1.lo) x
def DoneW (ab : Bool) (ns : List Nd) (dl : List (Nd × Int)) : Prop := ∀ p, p ∈ dl → DoneWP ab ns p
section
variable {ab : Bool} {ns ns' : List Nd} {dl : List (Nd × Int)} {f g i id : Nat}
theorem DoneW.nil : DoneW ab ns [] := fun p h => by cases h
theorem DoneWP.pre {p : Nd × Int} (hp : ns <+: ns') (h : DoneWP ab ns p) : DoneWP ab ns' p := by
  have hl := pre_len hp
  obtain ⟨id, h1, h2, h3⟩ := h.id
  refine ⟨by have := h.v1; omega, by have := h.v2; omega, id, h1, by omega, ?_⟩
  rw [M_pre hp h.v1, M_pre hp h.v2, mems_pre hp h2]
  exact h3
theorem DoneW.pre (hp : ns <+: ns') (h : DoneW ab ns dl) : DoneW ab ns' dl := fun p q => (h p q).pre hp
theorem DoneW.put (h : DoneW ab ns dl) (hf : f < ns.length + 2) (hg : g < ns.length + 2) (hi : id < ns.length + 2) (hm : ∀ x, x ∈ mems ns id ↔ wS ab (M ns f) (M ns g) x) : DoneW ab ns (putL dl ⟨f, g, i⟩ (id : Int)) := fun p hp => by
  rcases mem_putL hp with hp | rfl
  · exact h p hp
  · exact ⟨hf, hg, id, rfl, hi, hm⟩
theorem DoneW.met {v : Int} (h : DoneW ab ns dl) (hg : getL dl ⟨f, g, i⟩ = some v) : ∃ id : Nat, v = (id : Int) ∧ id < ns.length + 2 ∧ ∀ x, x ∈ mems ns id ↔ wS ab (M ns f) (M ns g) x := (h _ (getL_mem hg)).id
end
structure WalkW (ab : Bool) (ns ns' : List Nd) (R : Nat) (e e' : Int) (f g i id : Nat) : Prop where
  v : id < ns'.length + 2
  pre : ns <+: ns'
  sta : e = 0 → ∀ T, tp ns f ≤ T → tp ns g ≤ T → Sta ns ns' R (wC T i (min (lvl ns f) (lvl ns g)) (mems ns f).length (mems ns g).length) e'
  err : ¬ e = 0 → e' = e
  m : e' = 0 → ∀ x, x ∈ mems ns' id ↔ wS ab (M ns f) (M ns g) x
section
variable {ab : Bool} {ns : List Nd} {R f g i id : Nat} {e : Int}
/-- Nothing to do. -/
theorem walk_0 (h : ¬ e = 0 ∨ f = 0 ∨ g = 0) : WalkW ab ns ns R e e f g i 0 := by
  refine ⟨by omega, List.prefix_refl _, fun he T _ _ => ⟨List.prefix_refl _, .inl ⟨he, by omega⟩⟩, fun _ => rfl, fun he x => ?_⟩
  rw [mems_0]
  refine ⟨fun h => (by cases h), fun ⟨h1, y, h2, _⟩ => ?_⟩
  rcases h with h | rfl | rfl
  · exact absurd he h
  · exact absurd h1 (M_0 ns x)
  · exact absurd h2 (M_0 ns y)
/-- What was done. -/
theorem walk_met (he : e = 0) (hid : id < ns.length + 2) (hm : ∀ x, x ∈ mems ns id ↔ wS ab (M ns f) (M ns g) x) : WalkW ab ns ns R e e f g i id := ⟨hid, List.prefix_refl _, fun he T _ _ => ⟨List.prefix_refl _, .inl ⟨he, by omega⟩⟩, fun _ => rfl, fun _ => hm⟩
/-- No item is left. -/
theorem walk_1 (h : Wf ns) (hf : f < ns.length + 2) (hg : g < ns.length + 2) (f0 : ¬ f = 0) (g0 : ¬ g = 0) (lf : 24 ≤ lvl ns f) (lg : 24 ≤ lvl ns g) : WalkW ab ns ns R e e f g i 1 := by
  have k : ∀ q, q < ns.length + 2 → ¬ q = 0 → 24 ≤ lvl ns q → q = 1 := fun q hq h0 hl => by
    rcases Nat.lt_or_ge q 2 with k | k
    · omega
    · have := lvl_lt h hq k; omega
  obtain rfl := k f hf f0 lf
  obtain rfl := k g hg g0 lg
  refine ⟨hf, List.prefix_refl _, fun he T _ _ => ⟨List.prefix_refl _, .inl ⟨he, by omega⟩⟩, fun _ => rfl, fun _ x => ?_⟩
  rw [mems_1, List.mem_singleton]
  have hm : ∀ y, M ns 1 y ↔ y = 0 := fun y => by show y ∈ mems ns 1 ↔ _; rw [mems_1, List.mem_singleton]
  constructor
  · rintro rfl
    refine ⟨(hm 0).2 rfl, 0, (hm 0).2 rfl, ?_⟩
    have : holdsN 0 0 := rfl
    split <;> exact this
  · rintro ⟨h1, _⟩
    exact (hm x).1 h1
end

theorem back_0 {e e' : Int} (err : ¬ e = 0 → e' = e) (h : e' = 0) : e = 0 := by
  by_cases q : e = 0
  · exact q
  · rw [err q] at h; exact h
/-- What one call comes to, as sets. -/
theorem walk_set {ab : Bool} {F0 F1 G0 G1 A B C Z : Nat → Prop} {i : Nat} (hF0 : lev i F0) (hF1 : lev i F1) (hG0 : lev i G0) (hG1 : lev i G1)
    (hA : A = if ab = true then wS true F0 G0 else wS false F0 (fun y => G0 y ∨ G1 y)) (hB : B = if ab = true then wS true F1 (fun y => G0 y ∨ G1 y) else wS false F1 G1)
    (hC : ∀ x, C x ↔ joinS B (· = 2 ^ i) x) (hZ : ∀ x, Z x ↔ A x ∨ C x) (x : Nat) : Z x ↔ wS ab (up i F0 F1) (up i G0 G1) x := by
  have hl : lev i B := fun y hy => by
    subst hB
    cases ab with
    | true => exact hF1 y hy.1
    | false => exact hF1 y hy.1
  rw [hZ, hC, join_one hl]
  subst hA hB
  cases ab with
  | true => exact ((wS_up hF0 hF1 hG0 hG1 x).1).symm
  | false => exact ((wS_up hF0 hF1 hG0 hG1 x).2).symm

theorem walk_m {ab : Bool} {ns ns1 ns2 ns3 ns4 ns5 ns6 ns7 : List Nd} {R f g i fa fb ga gb idU ida idb idc idZ lU lZ cU cZ : Nat} {e e1 e2 e4 e5 e6 erU erZ : Int} (hw : Wf ns) (hw1 : Wf ns1) (hf : f < ns.length + 2) (hg : g < ns.length + 2) (hi : i < 24) (lf : i ≤ lvl ns f) (lg : i ≤ lvl ns g)
    (pA : PartW ns ns1 R e e1 f i fa fb) (pB : PartW ns1 ns2 R e1 e2 g i ga gb) (gU : Got ns2 ns3 R cU lU (opU.res (M ns2 ga) (M ns2 gb)) idU erU)
    (wA : WalkW ab ns3 ns4 R (didE e2 erU) e4 fa (if ab = true then ga else didV e2 erU idU) (i + 1) ida) (wB : WalkW ab ns4 ns5 R e4 e5 fb (if ab = true then didV e2 erU idU else gb) (i + 1) idb)
    (pC : PutW ns5 ns6 R e5 e6 idb i idc) (gZ : Got ns6 ns7 R cZ lZ (opU.res (M ns6 ida) (M ns6 idc)) idZ erZ) (h0 : didE e6 erZ = 0) (x : Nat) : x ∈ mems ns7 (didV e6 erZ idZ) ↔ wS ab (M ns f) (M ns g) x := by
  obtain ⟨z6, zZ⟩ := didE_0.1 h0
  have z5 := back_0 pC.err z6
  have z4 := back_0 wB.err z5
  have z3 := back_0 wA.err z4
  obtain ⟨z2, zU⟩ := didE_0.1 z3
  have z1 := back_0 pB.err z2
  have H1 := half_of hw hf lf hi
  have H2 := half_of hw hg lg hi
  have l1 := pre_len pA.pre
  obtain ⟨a0, a1⟩ := pA.half hw hf hi lf z1
  obtain ⟨b0, b1⟩ := pB.half hw1 (show g < ns1.length + 2 by omega) hi (by rw [lvl_pre pA.pre hg]; exact lg) z2
  rw [(halfA_pre pA.pre hg).1, M_pre pA.pre H2.va] at b0
  rw [(halfA_pre pA.pre hg).2, M_pre pA.pre H2.vb] at b1
  have p13 := pB.pre.trans gU.pre
  have fa3 : M ns3 fa = M ns (halfA ns f i) := by rw [M_pre p13 pA.v0, a0]
  have fb4 : M ns4 fb = M ns (halfB ns f i) := by rw [M_pre (p13.trans wA.pre) pA.v1, a1]
  have u3 : M ns3 idU = fun y => M ns (halfA ns g i) y ∨ M ns (halfB ns g i) y := by
    rw [← b0, ← b1]
    exact set_ext' (gU.ok zU).2.2
  have u4 : M ns4 idU = M ns3 idU := M_pre wA.pre gU.valid
  have ga3 : M ns3 ga = M ns (halfA ns g i) := by rw [M_pre gU.pre pB.v0, b0]
  have gb4 : M ns4 gb = M ns (halfB ns g i) := by rw [M_pre (gU.pre.trans wA.pre) pB.v1, b1]
  have mA : M ns4 ida = wS ab (M ns3 fa) (M ns3 (if ab = true then ga else didV e2 erU idU)) := set_ext' (wA.m z4)
  have mB : M ns5 idb = wS ab (M ns4 fb) (M ns4 (if ab = true then didV e2 erU idU else gb)) := set_ext' (wB.m z5)
  rw [didV_0 z3, fa3] at mA
  rw [didV_0 z3, fb4] at mB
  have eF : M ns f = up i (M ns (halfA ns f i)) (M ns (halfB ns f i)) := set_ext' H1.mem
  have eG : M ns g = up i (M ns (halfA ns g i)) (M ns (halfB ns g i)) := set_ext' H2.mem
  rw [didV_0 h0, eF, eG]
  refine walk_set (A := M ns6 ida) (B := M ns5 idb) (C := M ns6 idc) (Z := M ns7 idZ) (lev_M hw H1.va H1.la) (lev_M hw H1.vb H1.lb) (lev_M hw H2.va H2.la) (lev_M hw H2.vb H2.lb) ?_ ?_ (pC.m z6) (gZ.ok zZ).2.2 x
  · rw [M_pre (wB.pre.trans pC.pre) wA.v, mA]
    cases ab with
    | true => rw [if_pos rfl, if_pos rfl, ga3]
    | false => rw [if_neg (by decide), if_neg (by decide), u3]
  · rw [mB]
    cases ab with
    | true => rw [if_pos rfl, if_pos rfl, u4, u3]
    | false => rw [if_neg (by decide), if_neg (by decide), gb4]

/-! ### The same members under two diagrams -/
theorem card_eq {ns ns' : List Nd} {a b : Nat} (h : Wf ns) (h' : Wf ns') (ha : a < ns'.length + 2) (hb : b < ns.length + 2) (hm : M ns' a = M ns b) : (mems ns' a).length = (mems ns b).length := by
  have e : ∀ x, x ∈ mems ns' a ↔ x ∈ mems ns b := fun x => Iff.of_eq (congrFun hm x)
  exact Nat.le_antisymm (nodupN_le (mems_nodup h' a ha) (fun x hx => (e x).1 hx)) (nodupN_le (mems_nodup h b hb) (fun x hx => (e x).2 hx))
theorem tp_sub {ns ns' : List Nd} {a T : Nat} (hs : ∀ x, x ∈ mems ns' a → x < 2 ^ T) : tp ns' a ≤ T := tp_le.2 hs
theorem tp_eq {ns ns' : List Nd} {a b : Nat} (hm : M ns' a = M ns b) : tp ns' a ≤ tp ns b := tp_le.2 fun x hx => tp_le.1 (Nat.le_refl _) x ((Iff.of_eq (congrFun hm x)).1 hx)
theorem lev_lvl {ns : List Nd} (h : Wf ns) {f i : Nat} (hf : f < ns.length + 2) (hi : i < 24) (hl : lev i (M ns f)) : i + 1 ≤ lvl ns f := lvl_ge h hf (by omega) hl
end

section
open Go Go.RowKit

theorem wC_le {T i L a b B : Nat} (hL : i ≤ L) (h24 : L ≤ 24) (hb : b ≤ B) : wC T i L a b ≤ wC T i i a B := by
  have h := wC_child (T := T) (a := a) hL h24 hb
  by_cases k : a = 0 ∨ B = 0
  · have : wC T i L a b = 0 := by unfold wC; exact if_pos (by omega)
    omega
  · have e : wC T i i a B = a * (aW T (24 - i) + bW T (24 - i) * B) / 2 := by
      unfold wC; rw [if_neg k, Nat.sub_self, Nat.mul_zero, Nat.zero_add]
    rw [e, Nat.le_div_iff_mul_le (by decide)]
    omega
theorem wC_0l {T i L b : Nat} : wC T i L 0 b = 0 := if_pos (.inl rfl)
theorem wC_0r {T i L a : Nat} : wC T i L a 0 = 0 := if_pos (.inr rfl)
theorem len_0 {ns : List Nd} (h : Wf ns) {f : Nat} (hf : f < ns.length + 2) (h0 : (mems ns f).length = 0) : f = 0 := by
  by_cases k : f = 0
  · exact k
  · obtain ⟨x, hx⟩ := mems_ne h f hf k
    rw [List.eq_nil_of_length_eq_zero h0] at hx
    cases hx
theorem len_pos {ns : List Nd} (h : Wf ns) {f : Nat} (hf : f < ns.length + 2) (h0 : ¬ f = 0) : 1 ≤ (mems ns f).length := by
  rcases Nat.eq_zero_or_pos (mems ns f).length with k | k
  · exact absurd (len_0 h hf k) h0
  · exact k
/-- Costs of unions, as numbers. -/
theorem cU_le {ns : List Nd} (h : Wf ns) {f g T i a b : Nat} (hf : f < ns.length + 2) (hg : g < ns.length + 2) (tf : tp ns f ≤ T) (tg : tp ns g ≤ T) (lf : i ≤ lvl ns f) (lg : i ≤ lvl ns g) (ha : (mems ns f).length ≤ a) (hb : (mems ns g).length ≤ b) :
    opU.cst ns f g ≤ (T - i) * min a b := by
  refine Nat.le_trans (cE_T h opU_ok.endF hf hg tf tg) (Nat.mul_le_mul (by omega) (by omega))
theorem walk_sta {ab : Bool} {ns ns1 ns2 ns3 ns4 ns5 ns6 ns7 : List Nd} {R f g i fa fb ga gb idU ida idb idc idZ lU lZ : Nat} {e1 e2 e4 e5 e6 erU erZ : Int} (hw : Wf ns) (hw1 : Wf ns1) (hw2 : Wf ns2) (hw3 : Wf ns3) (hw4 : Wf ns4) (hw5 : Wf ns5) (hw6 : Wf ns6) (hf : f < ns.length + 2) (hg : g < ns.length + 2) (f0 : ¬ f = 0) (g0 : ¬ g = 0) (hi : i < 24) (lf : i ≤ lvl ns f) (lg : i ≤ lvl ns g)
    (pA : PartW ns ns1 R 0 e1 f i fa fb) (pB : PartW ns1 ns2 R e1 e2 g i ga gb) (gU : Got ns2 ns3 R (opU.cst ns2 ga gb) lU (opU.res (M ns2 ga) (M ns2 gb)) idU erU)
    (wA : WalkW ab ns3 ns4 R (didE e2 erU) e4 fa (if ab = true then ga else didV e2 erU idU) (i + 1) ida) (wB : WalkW ab ns4 ns5 R e4 e5 fb (if ab = true then didV e2 erU idU else gb) (i + 1) idb)
    (pC : PutW ns5 ns6 R e5 e6 idb i idc) (gZ : Got ns6 ns7 R (opU.cst ns6 ida idc) lZ (opU.res (M ns6 ida) (M ns6 idc)) idZ erZ) {T : Nat} (tf : tp ns f ≤ T) (tg : tp ns g ≤ T) :
    Sta ns ns7 R (wC T i (min (lvl ns f) (lvl ns g)) (mems ns f).length (mems ns g).length) (didE e6 erZ) := by
  have H1 := half_of hw hf lf hi
  have H2 := half_of hw hg lg hi
  have l1 := pre_len pA.pre
  have l24f := lvl_le hw hf
  have l24g := lvl_le hw hg
  have cf := len_pos hw hf f0
  have cg := len_pos hw hg g0
  have v2a := pB.v0
  have v2b := pB.v1
  have p23 := pre_len gU.pre
  have p34 := pre_len wA.pre
  have p45 := pre_len wB.pre
  have p56 := pre_len pC.pre
  have vfa : fa < ns3.length + 2 := by have := pA.v0; have := pre_len pB.pre; omega
  have vfb : fb < ns4.length + 2 := by have := pA.v1; have := pre_len pB.pre; omega
  have vU : didV e2 erU idU < ns3.length + 2 := didV_v gU.valid
  have vlo : (if ab = true then ga else didV e2 erU idU) < ns3.length + 2 := by split <;> omega
  have vhi : (if ab = true then didV e2 erU idU else gb) < ns4.length + 2 := by split <;> omega
  have vida6 : ida < ns6.length + 2 := by have := wA.v; omega
  -- the parts of f, and of g
  have F1 : e1 = 0 → M ns1 fa = M ns (halfA ns f i) ∧ M ns1 fb = M ns (halfB ns f i) := fun z => pA.half hw hf hi lf z
  have G2 : e2 = 0 → M ns2 ga = M ns (halfA ns g i) ∧ M ns2 gb = M ns (halfB ns g i) := fun z => by
    obtain ⟨b0, b1⟩ := pB.half hw1 (show g < ns1.length + 2 by omega) hi (by rw [lvl_pre pA.pre hg]; exact lg) z
    rw [(halfA_pre pA.pre hg).1, M_pre pA.pre H2.va] at b0
    rw [(halfA_pre pA.pre hg).2, M_pre pA.pre H2.vb] at b1
    exact ⟨b0, b1⟩
  have F3 : didE e2 erU = 0 → M ns3 fa = M ns (halfA ns f i) := fun z => by
    have z1 := back_0 pB.err (didE_0.1 z).1
    rw [M_pre (pB.pre.trans gU.pre) pA.v0, (F1 z1).1]
  have U3 : didE e2 erU = 0 → M ns3 (didV e2 erU idU) = fun y => M ns (halfA ns g i) y ∨ M ns (halfB ns g i) y := fun z => by
    obtain ⟨z2, zU⟩ := didE_0.1 z
    rw [didV_0 z, ← (G2 z2).1, ← (G2 z2).2]
    exact set_ext' (gU.ok zU).2.2
  have LO : didE e2 erU = 0 → M ns3 (if ab = true then ga else didV e2 erU idU) = if ab = true then M ns (halfA ns g i) else fun y => M ns (halfA ns g i) y ∨ M ns (halfB ns g i) y := fun z => by
    cases ab with
    | true => rw [if_pos rfl, if_pos rfl, M_pre gU.pre v2a, (G2 (didE_0.1 z).1).1]
    | false => rw [if_neg (by decide), if_neg (by decide), U3 z]
  have F4 : e4 = 0 → M ns4 fb = M ns (halfB ns f i) := fun z4 => by
    have z3 := back_0 wA.err z4
    have z1 := back_0 pB.err (didE_0.1 z3).1
    rw [M_pre ((pB.pre.trans gU.pre).trans wA.pre) pA.v1, (F1 z1).2]
  have HI : e4 = 0 → M ns4 (if ab = true then didV e2 erU idU else gb) = if ab = true then (fun y => M ns (halfA ns g i) y ∨ M ns (halfB ns g i) y) else M ns (halfB ns g i) := fun z4 => by
    have z3 := back_0 wA.err z4
    cases ab with
    | true => rw [if_pos rfl, if_pos rfl, M_pre wA.pre vU, U3 z3]
    | false => rw [if_neg (by decide), if_neg (by decide), M_pre (gU.pre.trans wA.pre) v2b, (G2 (didE_0.1 z3).1).2]
  have B5 : e5 = 0 → ∀ x, x ∈ mems ns5 idb → M ns (halfB ns f i) x := fun z5 x hx => by
    have h := ((wB.m z5 x).1 hx).1
    rw [F4 (back_0 wB.err z5)] at h
    exact h
  have A6 : e6 = 0 → ∀ x, x ∈ mems ns6 ida → M ns (halfA ns f i) x := fun z6 x hx => by
    have z5 := back_0 pC.err z6
    have z4 := back_0 wB.err z5
    have hx' : M ns6 ida x := hx
    rw [M_pre (wB.pre.trans pC.pre) wA.v] at hx'
    have h := ((wA.m z4 x).1 hx').1
    rw [F3 (back_0 wA.err z4)] at h
    exact h
  have lB : lev i (M ns (halfB ns f i)) := lev_M hw H1.vb H1.lb
  have lA : lev i (M ns (halfA ns f i)) := lev_M hw H1.va H1.la
  have C6 : e6 = 0 → ∀ x, x ∈ mems ns6 idc → ∃ y, M ns (halfB ns f i) y ∧ x = y + 2 ^ i := fun z6 x hx => by
    have z5 := back_0 pC.err z6
    have hlev : lev i (M ns5 idb) := fun y hy => lB y (B5 z5 y hy)
    obtain ⟨y, hy, e⟩ := (join_one hlev x).1 ((pC.m z6 x).1 hx)
    exact ⟨y, B5 z5 y hy, e⟩
  have hup : ∀ x, M ns f x ↔ up i (M ns (halfA ns f i)) (M ns (halfB ns f i)) x := H1.mem
  have hupg : ∀ x, M ns g x ↔ up i (M ns (halfA ns g i)) (M ns (halfB ns g i)) x := H2.mem
  have tA : tp ns (halfA ns f i) ≤ T := Nat.le_trans H1.tpa tf
  have tB : tp ns (halfB ns f i) ≤ T := Nat.le_trans H1.tpb tf
  have tGA : tp ns (halfA ns g i) ≤ T := Nat.le_trans H2.tpa tg
  have tGB : tp ns (halfB ns g i) ≤ T := Nat.le_trans H2.tpb tg
  have tU : ∀ x, (M ns (halfA ns g i) x ∨ M ns (halfB ns g i) x) → x < 2 ^ T := fun x hx => hx.elim (tp_le.1 tGA x) (tp_le.1 tGB x)
  -- what the steps cost
  have cX : e2 = 0 → opU.cst ns2 ga gb ≤ (T - (i + 1)) * min (mems ns (halfA ns g i)).length (mems ns (halfB ns g i)).length := fun z => by
    obtain ⟨g1, g2⟩ := G2 z
    refine cU_le hw2 v2a v2b (Nat.le_trans (tp_eq g1) tGA) (Nat.le_trans (tp_eq g2) tGB) (lev_lvl hw2 v2a hi (by rw [g1]; exact lev_M hw H2.va H2.la)) (lev_lvl hw2 v2b hi (by rw [g2]; exact lev_M hw H2.vb H2.lb)) (Nat.le_of_eq (card_eq hw hw2 v2a H2.va g1)) (Nat.le_of_eq (card_eq hw hw2 v2b H2.vb g2))
  have tLO : didE e2 erU = 0 → tp ns3 (if ab = true then ga else didV e2 erU idU) ≤ T := fun z => tp_le.2 fun x hx => by
    have hx' : M ns3 (if ab = true then ga else didV e2 erU idU) x := hx
    rw [LO z] at hx'
    cases ab with
    | true => exact tU x (.inl hx')
    | false => exact tU x hx'
  have tHI : e4 = 0 → tp ns4 (if ab = true then didV e2 erU idU else gb) ≤ T := fun z => tp_le.2 fun x hx => by
    have hx' : M ns4 (if ab = true then didV e2 erU idU else gb) x := hx
    rw [HI z] at hx'
    cases ab with
    | true => exact tU x hx'
    | false => exact tU x (.inr hx')
  have cLO : didE e2 erU = 0 → (mems ns3 (if ab = true then ga else didV e2 erU idU)).length ≤ (mems ns (halfA ns g i)).length + (mems ns (halfB ns g i)).length := fun z => card_app hw3 vlo fun x hx => by
    have hx' : M ns3 (if ab = true then ga else didV e2 erU idU) x := hx
    rw [LO z] at hx'
    cases ab with
    | true => exact .inl hx'
    | false => exact hx'
  have cHI : e4 = 0 → (mems ns4 (if ab = true then didV e2 erU idU else gb)).length ≤ (mems ns (halfA ns g i)).length + (mems ns (halfB ns g i)).length := fun z => card_app hw4 vhi fun x hx => by
    have hx' : M ns4 (if ab = true then didV e2 erU idU else gb) x := hx
    rw [HI z] at hx'
    cases ab with
    | true => exact hx'
    | false => exact .inr hx'
  have llo : didE e2 erU = 0 → i + 1 ≤ lvl ns3 (if ab = true then ga else didV e2 erU idU) := fun z => lev_lvl hw3 vlo hi fun x hx => by
    rw [LO z] at hx
    cases ab with
    | true => exact lev_M hw H2.va H2.la x hx
    | false => exact Or.elim hx (lev_M hw H2.va H2.la x) (lev_M hw H2.vb H2.lb x)
  have lhi : e4 = 0 → i + 1 ≤ lvl ns4 (if ab = true then didV e2 erU idU else gb) := fun z => lev_lvl hw4 vhi hi fun x hx => by
    rw [HI z] at hx
    cases ab with
    | true => exact Or.elim hx (lev_M hw H2.va H2.la x) (lev_M hw H2.vb H2.lb x)
    | false => exact lev_M hw H2.vb H2.lb x hx
  have lfa : didE e2 erU = 0 → i + 1 ≤ lvl ns3 fa := fun z => lev_lvl hw3 vfa hi (by rw [F3 z]; exact lA)
  have lfb : e4 = 0 → i + 1 ≤ lvl ns4 fb := fun z => lev_lvl hw4 vfb hi (by rw [F4 z]; exact lB)
  have cfa : didE e2 erU = 0 → (mems ns3 fa).length = (mems ns (halfA ns f i)).length := fun z => card_eq hw hw3 vfa H1.va (F3 z)
  have cfb : e4 = 0 → (mems ns4 fb).length = (mems ns (halfB ns f i)).length := fun z => card_eq hw hw4 vfb H1.vb (F4 z)
  have cZ : e6 = 0 → opU.cst ns6 ida idc ≤ (T - i) * min (mems ns (halfA ns f i)).length (mems ns (halfB ns f i)).length := fun z => by
    have hC := C6 z
    have hA := A6 z
    have c1 : (mems ns6 idc).length ≤ (mems ns (halfB ns f i)).length := by
      have := nodupN_le (l2 := (mems ns (halfB ns f i)).map fun y => y + 2 ^ i) (mems_nodup hw6 idc pC.v) fun x hx => by
        obtain ⟨y, hy, e⟩ := hC x hx
        exact List.mem_map.2 ⟨y, hy, e.symm⟩
      rw [List.length_map] at this
      exact this
    refine cU_le hw6 vida6 pC.v (tp_le.2 fun x hx => tp_le.1 tA x (hA x hx)) (tp_le.2 fun x hx => ?_) (Nat.le_of_lt (lev_lvl hw6 vida6 hi fun x hx => lA x (hA x hx))) (lvl_ge hw6 pC.v (by omega) fun x hx => ?_) (card_sub hw6 vida6 hA) c1
    · obtain ⟨y, hy, e⟩ := hC x hx
      exact tp_le.1 tf x ((hup x).2 (.inr ⟨y, hy, e⟩))
    · obtain ⟨y, hy, e⟩ := hC x hx
      rw [e]
      exact dvd_up (lB y hy)
  -- one step behind another
  have chain : ∀ u v, (didE e2 erU = 0 → wC T (i + 1) (min (lvl ns3 fa) (lvl ns3 (if ab = true then ga else didV e2 erU idU))) (mems ns3 fa).length (mems ns3 (if ab = true then ga else didV e2 erU idU)).length ≤ u) → (e4 = 0 → wC T (i + 1) (min (lvl ns4 fb) (lvl ns4 (if ab = true then didV e2 erU idU else gb))) (mems ns4 fb).length (mems ns4 (if ab = true then didV e2 erU idU else gb)).length ≤ v) →
      Sta ns ns7 R ((T - (i + 1)) * min (mems ns (halfA ns g i)).length (mems ns (halfB ns g i)).length + u + v + 2 + (T - i) * min (mems ns (halfA ns f i)).length (mems ns (halfB ns f i)).length) (didE e6 erZ) := fun u v hu hv => by
    have s1 : Sta ns ns1 R 0 e1 := (pA.sta rfl).mono (by rw [cPt_top lf]; omega)
    have s2 : Sta ns ns2 R (0 + 0) e2 := s1.step (fun z => (pB.sta z).mono (by rw [cPt_top (by rw [lvl_pre pA.pre hg]; exact lg)]; omega)) (fun z => ⟨pB.pre, pB.err z⟩)
    have s3 := s2.did gU cX
    have s4 := s3.step (fun z => (wA.sta z T (Nat.le_trans (tp_eq (F3 z)) tA) (tLO z)).mono (hu z)) (fun z => ⟨wA.pre, wA.err z⟩)
    have s5 := s4.step (fun z => (wB.sta z T (Nat.le_trans (tp_eq (F4 z)) tB) (tHI z)).mono (hv z)) (fun z => ⟨wB.pre, wB.err z⟩)
    have s6 := s5.step (c2 := 2) (fun z => pC.sta z (lev_lvl hw5 wB.v hi fun x hx => lB x (B5 z x hx))) (fun z => ⟨pC.pre, pC.err z⟩)
    exact (s6.did gZ cZ).mono (by omega)
  rcases Nat.lt_or_ge i (min (lvl ns f) (lvl ns g)) with k | k
  · -- below both roots
    have eA : halfA ns f i = f := if_neg (fun q => by omega)
    have eB : halfB ns f i = 0 := if_neg (fun q => by omega)
    have eC : halfA ns g i = g := if_neg (fun q => by omega)
    have eD : halfB ns g i = 0 := if_neg (fun q => by omega)
    rw [eA] at F3 cfa
    rw [eB] at F4 cfb
    rw [eC, eD] at LO
    have n0 : (mems ns 0).length = 0 := by rw [mems_0]; rfl
    have hlow : didE e2 erU = 0 → (if ab = true then ga else didV e2 erU idU) = g := fun z => by
      refine one_id hw3 _ vlo g (by have := pre_len pB.pre; omega) fun x => ?_
      have h : M ns3 (if ab = true then ga else didV e2 erU idU) x ↔ M ns g x := by
        rw [LO z]
        cases ab with
        | true => exact Iff.rfl
        | false => exact ⟨fun q => q.elim id fun q => absurd q (M_0 ns x), .inl⟩
      rw [show M ns g = M ns3 g from (M_pre ((pA.pre.trans pB.pre).trans gU.pre) hg).symm] at h
      exact h
    have hfa : didE e2 erU = 0 → fa = f := fun z => by
      refine one_id hw3 _ vfa f (by have := pre_len pB.pre; omega) fun x => ?_
      have h : M ns3 fa x ↔ M ns f x := by rw [F3 z]
      rw [show M ns f = M ns3 f from (M_pre ((pA.pre.trans pB.pre).trans gU.pre) hf).symm] at h
      exact h
    have p03 := (pA.pre.trans pB.pre).trans gU.pre
    have s := chain (wC T (i + 1) (min (lvl ns f) (lvl ns g)) (mems ns f).length (mems ns g).length) 0 (fun z => by
      rw [hfa z, hlow z, lvl_pre p03 hf, lvl_pre p03 hg, mems_pre p03 hf, mems_pre p03 hg]
      exact Nat.le_refl _) (fun z => by rw [cfb z, n0, wC_0l]; exact Nat.le_refl _)
    rw [eA, eB, eC, eD, n0, Nat.min_zero, Nat.min_zero, Nat.mul_zero, Nat.mul_zero] at s
    refine s.mono ?_
    have := wC_skip (T := T) k cf cg
    omega
  · have eL : min (lvl ns f) (lvl ns g) = i := by omega
    have s := chain (wC T (i + 1) (i + 1) (mems ns (halfA ns f i)).length ((mems ns (halfA ns g i)).length + (mems ns (halfB ns g i)).length)) (wC T (i + 1) (i + 1) (mems ns (halfB ns f i)).length ((mems ns (halfA ns g i)).length + (mems ns (halfB ns g i)).length))
      (fun z => by rw [cfa z]; have := lfa z; have := llo z; have := lvl_le hw3 vfa; exact wC_le (by omega) (by omega) (cLO z))
      (fun z => by rw [cfb z]; have := lfb z; have := lhi z; have := lvl_le hw4 vfb; exact wC_le (by omega) (by omega) (cHI z))
    refine s.mono ?_
    rw [eL, H1.cnt, H2.cnt]
    exact wC_call hi (by rw [← H1.cnt]; exact cf) (by rw [← H2.cnt]; exact cg) (Nat.le_refl _) (Nat.le_refl _) (Nat.le_refl _) (Nat.le_refl _) (by omega) (by omega) (Nat.le_refl _) (Nat.le_refl _) (Nat.le_refl _) (Nat.le_refl _)
end

section
open Go Go.RowKit

section
variable {Ta Tn T T' : TypeId} {N bw bz bd ba bm R b : Nat} {w w' w'' : World} {ns : List Nd} {c cw : Array Value} {dl : List (Nd × Int)}
theorem At.dw (D : Dia Ta Tn N ba bm R w ns) (hw : At w bw cw T) (hdn : MapT keyN keyI w bd dl) (h : Dw Tn T N bw bz bd ba bm w w') (q : At w b c T') (h1 : T' ≠ Ta) (h2 : T' ≠ Tn) (h3 : T' ≠ T) : At w' b c T' := by
  obtain ⟨n1, n2⟩ := D.ne q h1
  have n3 : b ≠ bw := fun e => by subst e; exact At.neT q hw h3 rfl
  have n4 : b ≠ bd := At.ne_map q hdn
  unfold At at *
  rw [h.dx.block b (lt_of_block q) (.inr ⟨by simp [n1, n2, n3, n4], fun c' fr e => by rw [q] at e; simp at e; exact h2 e.2.1⟩)]
  exact q
/-- A block that is new may be written. -/
theorem Dw.new (h : Dw Tn T N bw bz bd ba bm w w') (hb : w.heap.size ≤ b) (hN : N ≤ b) (hG : w'.grownBy w'' (some b)) (q : At w' b c T') (hT : T' ≠ T) : Dw Tn T N bw bz bd ba bm w w'' := by
  refine ⟨h.dx.new hb (Dx.grown hG (List.mem_cons_self ..) hN), fun k => ?_⟩
  obtain ⟨e, k2⟩ := h.wk k
  exact ⟨e, At.grownAt k2 q hG hT.symm⟩
theorem Dw.map (hG : w.grownBy w' (some bd)) (hN : N ≤ bd) (hdn : MapT keyN keyI w bd dl) : Dw Tn T N bw bz bd ba bm w w' := by
  refine ⟨Dx.grown hG (List.mem_cons_of_mem _ (List.mem_cons_self ..)) hN, fun ⟨e, k⟩ => ⟨e, At.grownMap k hdn hG⟩⟩
end
theorem getL_putL {α β : Type} [DecidableEq α] {l : List (α × β)} (hn : (l.map (·.1)).Nodup) (k : α) (v : β) : getL (putL l k v) k = some v := by
  rw [getL_some (by rw [keys_putL]; exact nodup_insK hn k)]
  unfold putL
  split
  · rename_i h
    obtain ⟨p, hp, e⟩ := List.mem_map.1 h
    refine List.mem_map.2 ⟨p, hp, ?_⟩
    subst e
    simp
  · simp

section
variable {ab : Bool} {ns ns1 ns2 ns3 ns4 : List Nd} {R f g i fa fb ga gb idU ida lU cU : Nat} {e e1 e2 e4 erU : Int}
/-- What is known of the parts, if no error came up. -/
theorem walk_lo (hw : Wf ns) (hw1 : Wf ns1) (hw3 : Wf ns3) (hf : f < ns.length + 2) (hg : g < ns.length + 2) (hi : i < 24) (lf : i ≤ lvl ns f) (lg : i ≤ lvl ns g)
    (pA : PartW ns ns1 R e e1 f i fa fb) (pB : PartW ns1 ns2 R e1 e2 g i ga gb) (gU : Got ns2 ns3 R cU lU (opU.res (M ns2 ga) (M ns2 gb)) idU erU) (z : didE e2 erU = 0) :
    lev i (M ns3 fa) ∧ lev i (M ns3 fb) ∧ lev i (M ns3 ga) ∧ lev i (M ns3 gb) ∧ lev i (M ns3 (didV e2 erU idU)) := by
  have H1 := half_of hw hf lf hi
  have H2 := half_of hw hg lg hi
  have l1 := pre_len pA.pre
  obtain ⟨z2, zU⟩ := didE_0.1 z
  have z1 := back_0 pB.err z2
  obtain ⟨a0, a1⟩ := pA.half hw hf hi lf z1
  obtain ⟨b0, b1⟩ := pB.half hw1 (show g < ns1.length + 2 by omega) hi (by rw [lvl_pre pA.pre hg]; exact lg) z2
  rw [(halfA_pre pA.pre hg).1, M_pre pA.pre H2.va] at b0
  rw [(halfA_pre pA.pre hg).2, M_pre pA.pre H2.vb] at b1
  have p13 := pB.pre.trans gU.pre
  have m0 := lev_M hw H1.va H1.la
  have m1 := lev_M hw H1.vb H1.lb
  have m2 := lev_M hw H2.va H2.la
  have m3 := lev_M hw H2.vb H2.lb
  refine ⟨?_, ?_, ?_, ?_, ?_⟩
  · rw [M_pre p13 pA.v0, a0]; exact m0
  · rw [M_pre p13 pA.v1, a1]; exact m1
  · rw [M_pre gU.pre pB.v0, b0]; exact m2
  · rw [M_pre gU.pre pB.v1, b1]; exact m3
  · rw [didV_0 z]
    intro x hx
    rcases ((gU.ok zU).2.2 x).1 hx with h | h
    · rw [b0] at h; exact m2 x h
    · rw [b1] at h; exact m3 x h
end

theorem walk_got {ab : Bool} {ns : List Nd} {dl : List (Nd × Int)} {f g i : Nat} (h : DoneW ab ns dl) (hs : (getL dl ⟨f, g, i⟩).isSome = true) : ∃ id : Nat, (getL dl ⟨f, g, i⟩).getD 0 = (id : Int) ∧ id < ns.length + 2 ∧ ∀ x, x ∈ mems ns id ↔ wS ab (M ns f) (M ns g) x := by
  obtain ⟨v, hv⟩ := Option.isSome_iff_exists.1 hs
  obtain ⟨id, h1, h2, h3⟩ := h.met hv
  exact ⟨id, by rw [hv]; exact h1, h2, h3⟩
end

section
open Go Go.RowKit

section
variable {Ta Tn T T' : TypeId} {N bw bz bd ba bm R b : Nat} {w w' w'' : World} {ns ns' : List Nd} {xs : List Nat}
/-- Two blocks that were not there at first are no loss. -/
theorem Dx.new2 {b1 b2 : Nat} (h : Dx Tn N xs w w') (h1 : w.heap.size ≤ b1) (h2 : w.heap.size ≤ b2) (k : Dx Tn N (b1 :: b2 :: xs) w' w'') : Dx Tn N xs w w'' := by
  refine ⟨k.os.trans h.os, k.tape.trans h.tape, k.output.trans h.output, Nat.le_trans h.size k.size, fun j hj hc => ?_⟩
  have e := h.block j hj hc
  rw [k.block j (Nat.lt_of_lt_of_le hj h.size) (hc.imp id fun ⟨a, q⟩ => ⟨fun m => (List.mem_cons.1 m).elim (fun e => by omega) (fun m => (List.mem_cons.1 m).elim (fun e => by omega) a), fun c fr => by rw [e]; exact q c fr⟩), e]
/-- An outer deed: what it answers, and what it leaves. -/
def PW (Ta Tn : TypeId) (N ba bm R : Nat) (w : World) (ns : List Nd) (S : List Nd → Nat → Int → Prop) (v : Value) (w' : World) : Prop :=
  ∃ (ns' : List Nd) (id : Nat) (er : Int), v = .tuple #[.int .i64 (id : Int), .int .i64 er] ∧ Dx Tn N [ba, bm] w w' ∧ Dia Ta Tn N ba bm R w' ns' ∧ S ns' id er
theorem PW.dx {S : List Nd → Nat → Int → Prop} {v : Value} (h : PW Ta Tn N ba bm R w ns S v w') : Dx Tn N [ba, bm] w w' := by
  obtain ⟨_, _, _, _, h, _⟩ := h; exact h
end
/-- The members of one family above, or below, another one's; or no node is left. -/
def AbW (ab : Bool) (R : Nat) (ns : List Nd) (f g : Nat) (ns' : List Nd) (id : Nat) (er : Int) : Prop := WalkW ab ns ns' R 0 er f g 0 id ∧ (¬ er = 0 → id = 0)
theorem abw_end {ab : Bool} {ns ns' : List Nd} {R f g id : Nat} {e : Int} (h : WalkW ab ns ns' R 0 e f g 0 id) : AbW ab R ns f g ns' (didV e 0 id) e := by
  have k : didE e 0 = e := by
    unfold didE
    by_cases q : e = 0
    · rw [if_pos q, q]
    · rw [if_neg q]
  refine ⟨⟨didV_v h.v, h.pre, h.sta, h.err, fun z => ?_⟩, fun z => ?_⟩
  · rw [didV_0 (by rw [k]; exact z)]
    exact h.m z
  · unfold didV
    rw [k, if_neg z]
theorem opU_0 (f : Nat) : (opU.ends f 0).2 = true ∧ (opU.ends f 0).1 = f := by
  show (enU f 0).2 = true ∧ (enU f 0).1 = f
  unfold enU
  by_cases h : f = 0
  · subst h; exact ⟨rfl, rfl⟩
  · rw [if_neg (by omega)]; exact ⟨rfl, rfl⟩
/-- Whether an id is somebody's, as it is told. -/
theorem u0_no {ns : List Nd} {id : Int} (h : thereZ ns id = false) : Value.tuple #[.int .i64 0, .int .i64 1] = .tuple #[.int .i64 (if thereZ ns id = true then id else 0), .int .i64 (if thereZ ns id = true then 0 else 1)] := by rw [h]; rfl
theorem u0_yes {ns : List Nd} {id : Int} (h : thereZ ns id = true) : Value.tuple #[.int .i64 id, .int .i64 0] = .tuple #[.int .i64 (if thereZ ns id = true then id else 0), .int .i64 (if thereZ ns id = true then 0 else 1)] := by rw [h]; rfl
theorem u0_er {ns : List Nd} {id : Int} (h : ¬ (if thereZ ns id = true then (0 : Int) else 1) = 0) : ¬ thereZ ns id = true := fun k => h (if_pos k)
theorem u0_ok {ns : List Nd} {id : Int} (h : ¬ ¬ (if thereZ ns id = true then (0 : Int) else 1) = 0) : thereZ ns id = true := by
  by_cases k : thereZ ns id = true
  · exact k
  · rw [if_neg k] at h; exact absurd (by decide) h
theorem allZ_no' {ns : List Nd} {li : List Int} {k : Nat} (hk : k < li.length) (h : ¬ thereZ ns (li.getD k 0) = true) : Value.bool false = .bool (li.all (thereZ ns)) := congrArg Value.bool (Eq.symm (Bool.eq_false_iff.2 fun q => h (List.all_eq_true.1 q _ (getD_mem hk))))
theorem two_there {ns : List Nd} {f g : Nat} (hf : f < ns.length + 2) (hg : g < ns.length + 2) : [(f : Int), (g : Int)].all (thereZ ns) = true := by simp [thereZ]; omega
theorem one_there {ns : List Nd} {f : Nat} (hf : f < ns.length + 2) : [(f : Int)].all (thereZ ns) = true := by simp [thereZ]; omega
end

end Go.Proofs.Ytpamgfbecgjjeaa
