/-
  What is needed for more deeds with families: what single items cost, and how a deed of many steps stands. No program in it. Members above and below those of another family: item by item. No program in it. What a walk through two families may cost. No program in it. Walks through two families: what is done, and what a step comes to. No program in it. What one whole call of a walk through two families may cost. No program in it. What a walk through two families leaves as it was, and what it may be sure of underway. No program in it. What is above, and below, another family: the outer deeds. No program in it.
-/
import Derived.Test.YtpamgfbecgjjeaaZ8
namespace Go.Proofs.Ytpamgfbecgjjeaa
set_option linter.unusedVariables false
set_option linter.unusedSimpArgs false

section
open Go Go.RowKit

/-! ### One item -/
theorem bcN_one (i : Nat) : ∀ n lv, bcN n lv (2 ^ i) ≤ 1 ∧ (i < lv → bcN n lv (2 ^ i) = 0)
  | 0, _ => ⟨Nat.zero_le _, fun _ => rfl⟩
  | n + 1, lv => by
    obtain ⟨h1, h2⟩ := bcN_one i n (lv + 1)
    rw [bcN, Nat.testBit_two_pow]
    by_cases h : i = lv
    · subst h
      rw [decide_eq_true rfl, if_pos rfl, h2 (Nat.lt_succ_self i)]
      exact ⟨Nat.le_refl _, fun k => absurd k (Nat.lt_irrefl _)⟩
    · rw [decide_eq_false h, if_neg (by decide)]
      exact ⟨by omega, fun k => by rw [h2 (by omega)]⟩
theorem bcL_one (i : Nat) : bcL 0 [((2 ^ i : Nat) : Int)] ≤ 1 := by
  have h := (bcN_one i (24 - 0) 0).1
  have e : bcL 0 [((2 ^ i : Nat) : Int)] = bcN (24 - 0) 0 (((2 ^ i : Nat) : Int)).toNat + 0 := rfl
  rw [Int.toNat_natCast] at e
  omega
section
variable {ns ns' : List Nd} {f g i : Nat}
/-- The family of one item alone. -/
def Single (ns : List Nd) (g i : Nat) : Prop := ∀ x, x ∈ mems ns g ↔ x = 2 ^ i
theorem Single.node (h : Wf ns) (hg : g < ns.length + 2) (hi : i < 24) (hs : Single ns g i) : 2 ≤ g ∧ lvl ns g = i ∧ halfA ns g i = 0 ∧ halfB ns g i = 1 := by
  have hm : 2 ^ i ∈ mems ns g := (hs _).2 rfl
  have h2 : 2 ≤ g := by
    rcases Nat.lt_or_ge g 2 with k | k
    · exfalso
      have e : g = 0 ∨ g = 1 := by omega
      rcases e with rfl | rfl
      · rw [mems_0] at hm; cases hm
      · rw [mems_1, List.mem_singleton] at hm
        have := Nat.two_pow_pos i
        omega
    · exact k
  have h24 := lvl_lt h hg h2
  have H := half_of h hg (Nat.le_refl _) h24
  have hl : lvl ns g = i := by
    have hB : halfB ns g (lvl ns g) ≠ 0 := by
      obtain ⟨j, rfl⟩ : ∃ j, g = j + 2 := ⟨g - 2, by omega⟩
      unfold halfB
      rw [if_pos ⟨by omega, rfl⟩, Nat.add_sub_cancel]
      exact (h.ok j (by omega)).2.2.1
    obtain ⟨y, hy⟩ := mems_ne h _ H.vb hB
    have e := (hs _).1 ((H.mem _).2 (.inr ⟨y, hy, rfl⟩))
    have hb := bit_set (dvd_lt H.lb (mems_bits h _ H.vb y hy).1)
    rw [e, Nat.testBit_two_pow] at hb
    exact (of_decide_eq_true hb).symm
  rw [hl] at H
  refine ⟨h2, hl, ?_, ?_⟩
  · rcases Nat.eq_zero_or_pos (halfA ns g i) with k | k
    · exact k
    · exfalso
      obtain ⟨y, hy⟩ := mems_ne h _ H.va (by omega)
      have e := (hs _).1 ((H.mem _).2 (.inl hy))
      have hb := bit_clear (dvd_lt H.la (mems_bits h _ H.va y hy).1)
      rw [e, Nat.testBit_two_pow] at hb
      exact absurd hb (by simp)
  · refine one_id h _ H.vb 1 (by omega) fun x => ?_
    rw [mems_1, List.mem_singleton]
    constructor
    · intro hx
      have e := (hs _).1 ((H.mem _).2 (.inr ⟨x, hx, rfl⟩))
      omega
    · rintro rfl
      rcases (H.mem _).1 hm with k | ⟨y, hy, e⟩
      · exfalso
        have hb := bit_clear (dvd_lt H.la (mems_bits h _ H.va _ k).1)
        rw [Nat.testBit_two_pow] at hb
        exact absurd hb (by simp)
      · have : y = 0 := by omega
        rw [← this]; exact hy
theorem cJn_end {n : Nat} (h : (enJ f g).2 = true) : cJn n ns f g = 0 := by
  cases n with
  | zero => rfl
  | succ n => rw [cJn, if_pos h]
theorem cJE_one (h : Wf ns) (hf : f < ns.length + 2) (hg : g < ns.length + 2) (hi : i < 24) (hs : Single ns g i) (hl : i < lvl ns f) : cJE ns f g ≤ 1 := by
  obtain ⟨g2, gl, gA, gB⟩ := hs.node h hg hi
  unfold cJE
  cases he : (enJ f g).2 with
  | true => rw [cJn_end he]; omega
  | false =>
    obtain ⟨n, hn⟩ : ∃ n, 25 - min (lvl ns f) (lvl ns g) = n + 1 := ⟨24 - min (lvl ns f) (lvl ns g), by omega⟩
    have e : min (lvl ns f) (lvl ns g) = i := by omega
    have fA : halfA ns f i = f := if_neg (fun k => by omega)
    have fB : halfB ns f i = 0 := if_neg (fun k => by omega)
    rw [hn, cJn, if_neg (by rw [he]; decide), e, fA, fB, gA, gB]
    have e0 : ∀ x, (enJ x 0).2 = true := fun x => by unfold enJ; rw [if_pos (.inr rfl)]
    have e1 : ∀ x, (enJ 0 x).2 = true := fun x => by unfold enJ; rw [if_pos (.inl rfl)]
    have e2 : (enJ f 1).2 = true := by
      unfold enJ
      split
      · rfl
      · split
        · rfl
        · rfl
    rw [cJn_end (e0 f), cJn_end (e0 0), cJn_end e2, cJn_end (e1 1)]
    unfold uJE uJ
    rw [mems_0]
    simp

/-! ### How a deed of many steps stands: all went well, or no node was left -/
structure Sta (ns ns' : List Nd) (R c : Nat) (e : Int) : Prop where
  pre : ns <+: ns'
  st : (e = 0 ∧ ns'.length ≤ ns.length + c) ∨ (e = 5 ∧ R ≤ ns.length + c)
variable {ns1 ns2 : List Nd} {R c c1 c2 l id : Nat} {e e1 er : Int} {S : Nat → Prop}
theorem Sta.refl : Sta ns ns R 0 0 := ⟨List.prefix_refl _, .inl ⟨rfl, by omega⟩⟩
theorem Sta.mono (h : Sta ns ns' R c e) (hc : c ≤ c2) : Sta ns ns' R c2 e := ⟨h.pre, h.st.imp (fun k => ⟨k.1, by omega⟩) (fun k => ⟨k.1, by omega⟩)⟩
theorem Sta.ers (h : Sta ns ns' R c e) : e = 0 ∨ e = 5 := h.st.imp (·.1) (·.1)
theorem Sta.ok (h : Sta ns ns' R c e) (hR : ns.length + c < R) : e = 0 ∧ ns'.length ≤ ns.length + c := by
  rcases h.st with k | k
  · exact k
  · omega
/-- What did takes. -/
def didE (e er : Int) : Int := if e = 0 then er else e
def didV (e er : Int) (id : Nat) : Nat := if didE e er = 0 then id else 0
theorem didE_0 : didE e er = 0 ↔ e = 0 ∧ er = 0 := by
  unfold didE
  by_cases h : e = 0
  · rw [if_pos h]; exact ⟨fun k => ⟨h, k⟩, fun k => k.2⟩
  · rw [if_neg h]; exact ⟨fun k => absurd k h, fun k => absurd k.1 h⟩
theorem didV_0 (h : didE e er = 0) : didV e er id = id := if_pos h
theorem didV_v (hv : id < ns.length + 2) : didV e er id < ns.length + 2 := by
  unfold didV
  split
  · exact hv
  · omega
/-- One step more: a deed that may run out of nodes. -/
theorem Sta.did (h : Sta ns ns1 R c e) (g : Got ns1 ns2 R c1 l S id er) (hc : e = 0 → c1 ≤ c2) : Sta ns ns2 R (c + c2) (didE e er) := by
  refine ⟨h.pre.trans g.pre, ?_⟩
  have gc := g.cost
  rcases h.st with ⟨h1, h2⟩ | ⟨h1, h2⟩
  · have := hc h1
    rcases g.res with ⟨k1, _⟩ | ⟨k1, _, k3⟩
    · exact .inl ⟨didE_0.2 ⟨h1, k1⟩, by omega⟩
    · refine .inr ⟨?_, by omega⟩
      unfold didE; rw [if_pos h1]; exact k1
  · refine .inr ⟨?_, by omega⟩
    unfold didE; rw [if_neg (by rw [h1]; decide)]; exact h1
/-- One step more: a deed of many steps. -/
theorem Sta.step (h : Sta ns ns1 R c e) (g : e = 0 → Sta ns1 ns2 R c2 e1) (g5 : ¬ e = 0 → ns1 <+: ns2 ∧ e1 = e) : Sta ns ns2 R (c + c2) e1 := by
  rcases h.st with ⟨h1, h2⟩ | ⟨h1, h2⟩
  · have k := g h1
    refine ⟨h.pre.trans k.pre, ?_⟩
    rcases k.st with ⟨k1, k2⟩ | ⟨k1, k2⟩
    · exact .inl ⟨k1, by omega⟩
    · exact .inr ⟨k1, by omega⟩
  · obtain ⟨k1, k2⟩ := g5 (by rw [h1]; decide)
    exact ⟨h.pre.trans k1, .inr ⟨by rw [k2]; exact h1, by omega⟩⟩
end

structure PutW (ns ns' : List Nd) (R : Nat) (e e' : Int) (f i id : Nat) : Prop where
  v : id < ns'.length + 2
  pre : ns <+: ns'
  sta : e = 0 → i < lvl ns f → Sta ns ns' R 2 e'
  err : ¬ e = 0 → e' = e
  m : e' = 0 → ∀ x, x ∈ mems ns' id ↔ joinS (M ns f) (· = 2 ^ i) x
theorem put_w {ns ns1 ns2 : List Nd} {R f i l0 l1 idA idB : Nat} {e erA erB : Int} (hw1 : Wf ns1) (gA : Got ns ns1 R (bcL 0 [((1 * 2 ^ i : Nat) : Int)]) l0 (bS [((1 * 2 ^ i : Nat) : Int)] 0) idA erA) (gB : Got ns1 ns2 R (opJ.cst ns1 f (didV e erA idA)) l1 (opJ.res (M ns1 f) (M ns1 (didV e erA idA))) idB erB) (hf : f < ns.length + 2) (hi : i < 24) :
    PutW ns ns2 R e (didE (didE e erA) erB) f i (didV (didE e erA) erB idB) := by
  rw [Nat.one_mul] at gA
  have p1 := pre_len gA.pre
  have hS : erA = 0 → Single ns1 idA i := fun h x => by
    rw [(gA.ok h).2.2 x]
    constructor
    · rintro ⟨m, hm, e⟩
      rw [List.mem_singleton.1 hm, Int.toNat_natCast, clr_0] at e
      exact e
    · rintro rfl
      exact ⟨_, List.mem_singleton.2 rfl, by rw [Int.toNat_natCast, clr_0]⟩
  refine ⟨didV_v gB.valid, gA.pre.trans gB.pre, fun he hl => ?_, fun he => ?_, fun h0 x => ?_⟩
  · subst he
    refine ((Sta.refl.did gA (c2 := 1) (fun _ => bcL_one i)).did gB (c2 := 1) (fun h => ?_)).mono (by omega)
    rw [didV_0 h]
    exact cJE_one hw1 (by omega) gA.valid hi (hS (didE_0.1 h).2) (by rw [lvl_pre gA.pre hf]; exact hl)
  · have h1 : didE e erA = e := if_neg he
    rw [h1]; exact if_neg he
  · obtain ⟨h1, h2⟩ := didE_0.1 h0
    have k := (gB.ok h2).2.2
    rw [didV_0 h1, M_pre gA.pre hf] at k
    rw [didV_0 h0, k x]
    have e2 : M ns1 idA = (· = 2 ^ i) := set_ext' (hS (didE_0.1 h1).2)
    rw [e2]; rfl

/-! ### The memory of work -/
def Wk (T : TypeId) (bw bz bd : Nat) (w : World) : Prop := ∃ e, At w bw #[.pointer (some ⟨bz, 0, none⟩), .map (some bd), .int .i64 e] T
structure Dw (Tn T : TypeId) (N bw bz bd ba bm : Nat) (w w' : World) : Prop where
  dx : Dx Tn N [bw, bd, ba, bm] w w'
  wk : Wk T bw bz bd w → Wk T bw bz bd w'
section
variable {Ta Tn T : TypeId} {N bw bz bd ba bm R : Nat} {w w' w'' : World} {ns ns' : List Nd} {e e' : Int}
theorem PO.dx {c l : Nat} {S : Nat → Prop} {v : Value} (h : PO Ta Tn N ba bm R w ns c l S v w') : Dx Tn N [ba, bm] w w' := by
  obtain ⟨_, _, _, _, h, _⟩ := h; exact h
theorem PE.dx {ok : Bool} {c l : Nat} {S : Nat → Prop} {v : Value} (h : PE Ta Tn N ba bm R w ns ok c l S v w') : Dx Tn N [ba, bm] w w' := by
  obtain ⟨_, _, _, _, h, _⟩ := h; exact h
theorem Wk.c0 (h : Wk T bw bz bd w) : w.cell? ⟨bw, 0, none⟩ = some (.pointer (some ⟨bz, 0, none⟩)) := by
  obtain ⟨e, h⟩ := h
  exact At.cell h rfl
theorem Wk.c1 (h : Wk T bw bz bd w) : w.cell? ⟨bw, 1, none⟩ = some (.map (some bd)) := by
  obtain ⟨e, h⟩ := h
  exact At.cell h rfl
theorem Dw.refl : Dw Tn T N bw bz bd ba bm w w := ⟨Dx.refl, id⟩
theorem Dw.trans (h : Dw Tn T N bw bz bd ba bm w w') (k : Dw Tn T N bw bz bd ba bm w' w'') : Dw Tn T N bw bz bd ba bm w w'' := ⟨h.dx.trans k.dx, fun q => k.wk (h.wk q)⟩
theorem Dw.ext (h : Ext w w') : Dw Tn T N bw bz bd ba bm w w' := ⟨Dx.ext h, fun ⟨e, q⟩ => ⟨e, h.at q⟩⟩
theorem Dw.zdd (D : Dia Ta Tn N ba bm R w ns) (h : Dx Tn N [ba, bm] w w') (hTa : T ≠ Ta) (hTn : T ≠ Tn) : Dw Tn T N bw bz bd ba bm w w' := ⟨h.mono (fun x hx => List.mem_cons_of_mem _ (List.mem_cons_of_mem _ hx)), fun ⟨e, q⟩ => ⟨e, At.dx D h q hTa hTn⟩⟩
theorem Dw.did (h : w.grownBy w' (some bw)) (hN : N ≤ bw) (q : At w' bw #[.pointer (some ⟨bz, 0, none⟩), .map (some bd), .int .i64 e'] T) : Dw Tn T N bw bz bd ba bm w w' := ⟨Dx.grown h (List.mem_cons_self ..) hN, fun _ => ⟨e', q⟩⟩
end
end

section
open Go Go.RowKit

theorem lvl_ge {ns : List Nd} (h : Wf ns) {f j : Nat} (hf : f < ns.length + 2) (hj : j ≤ 24) (hd : ∀ x, x ∈ mems ns f → 2 ^ j ∣ x) : j ≤ lvl ns f := by
  rcases Nat.lt_or_ge f 2 with k | k
  · rw [lvl_small k]; exact hj
  · rcases Nat.lt_or_ge (lvl ns f) j with q | q
    · exfalso
      have H := half_of h hf (Nat.le_refl _) (lvl_lt h hf k)
      have hB : halfB ns f (lvl ns f) ≠ 0 := by
        obtain ⟨i, rfl⟩ : ∃ i, f = i + 2 := ⟨f - 2, by omega⟩
        unfold halfB
        rw [if_pos ⟨by omega, rfl⟩, Nat.add_sub_cancel]
        exact (h.ok i (by omega)).2.2.1
      obtain ⟨y, hy⟩ := mems_ne h _ H.vb hB
      have h1 := hd _ ((H.mem _).2 (.inr ⟨y, hy, rfl⟩))
      have h2 := bit_set (dvd_lt H.lb (mems_bits h _ H.vb y hy).1)
      have h3 := bit_clear (dvd_lt q h1)
      rw [h2] at h3; cases h3
    · exact q
def wS (ab : Bool) (F G : Nat → Prop) (x : Nat) : Prop := F x ∧ ∃ y, G y ∧ (if ab = true then holdsN x y else holdsN y x)
/-- With one item more. -/
theorem join_one {F : Nat → Prop} {l : Nat} (hF : lev l F) (x : Nat) : joinS F (· = 2 ^ l) x ↔ ∃ y, F y ∧ x = y + 2 ^ l := by
  have key : ∀ y, F y → y ||| 2 ^ l = y + 2 ^ l := fun y hy => by
    have h := (or_up1 (hF y hy) (Nat.dvd_zero (2 ^ (l + 1)))).2.1
    rw [Nat.zero_add, Nat.or_zero] at h
    exact h
  constructor
  · rintro ⟨y, b, hy, rfl, rfl⟩
    exact ⟨y, hy, key y hy⟩
  · rintro ⟨y, hy, rfl⟩
    exact ⟨y, 2 ^ l, hy, rfl, (key y hy).symm⟩
end

section
open Go Go.RowKit

end

section
open Go Go.RowKit

structure DoneWP (ab : Bool) (ns : List Nd) (p : Nd × Int) : Prop where
  v1 : p.1.l < ns.length + 2
  v2 : p.1.lo < ns.length + 2
  id : ∃ id : Nat, p.2 = (id : Int) ∧ id < ns.length + 2 ∧ ∀ x, x ∈ mems ns id ↔ wS ab (M ns p.1.l) (M ns p.1.lo) x
def DoneW (ab : Bool) (ns : List Nd) (dl : List (Nd × Int)) : Prop := ∀ p, p ∈ dl → DoneWP ab ns p
section
variable {ab : Bool} {ns ns' : List Nd} {dl : List (Nd × Int)} {f g i id : Nat}
theorem DoneW.nil : DoneW ab ns [] := fun p h => by cases h
theorem DoneWP.pre {p : Nd × Int} (hp : ns <+: ns') (h : DoneWP ab ns p) : DoneWP ab ns' p := by
  have hl := pre_len hp
  obtain ⟨id, h1, h2, h3⟩ := h.id
  refine ⟨by have := h.v1; omega, by have := h.v2; omega, id, h1, by omega, ?_⟩
  rw [M_pre hp h.v1, M_pre hp h.v2, mems_pre hp h2]
  exact h3
theorem DoneW.pre (hp : ns <+: ns') (h : DoneW ab ns dl) : DoneW ab ns' dl := fun p q => (h p q).pre hp
theorem DoneW.put (h : DoneW ab ns dl) (hf : f < ns.length + 2) (hg : g < ns.length + 2) (hi : id < ns.length + 2) (hm : ∀ x, x ∈ mems ns id ↔ wS ab (M ns f) (M ns g) x) : DoneW ab ns (putL dl ⟨f, g, i⟩ (id : Int)) := fun p hp => by
  rcases mem_putL hp with hp | rfl
  · exact h p hp
  · exact ⟨hf, hg, id, rfl, hi, hm⟩
theorem DoneW.met {v : Int} (h : DoneW ab ns dl) (hg : getL dl ⟨f, g, i⟩ = some v) : ∃ id : Nat, v = (id : Int) ∧ id < ns.length + 2 ∧ ∀ x, x ∈ mems ns id ↔ wS ab (M ns f) (M ns g) x := (h _ (getL_mem hg)).id
end
section
variable {ab : Bool} {ns : List Nd} {R f g i id : Nat} {e : Int}
end

theorem back_0 {e e' : Int} (err : ¬ e = 0 → e' = e) (h : e' = 0) : e = 0 := by
  by_cases q : e = 0
  · exact q
  · rw [err q] at h; exact h
/-! ### The same members under two diagrams -/
end

section
open Go Go.RowKit

end

section
open Go Go.RowKit

section
variable {Ta Tn T T' : TypeId} {N bw bz bd ba bm R b : Nat} {w w' w'' : World} {ns : List Nd} {c cw : Array Value} {dl : List (Nd × Int)}
/-- A block that is new may be written. -/
theorem Dw.new (h : Dw Tn T N bw bz bd ba bm w w') (hb : w.heap.size ≤ b) (hN : N ≤ b) (hG : w'.grownBy w'' (some b)) (q : At w' b c T') (hT : T' ≠ T) : Dw Tn T N bw bz bd ba bm w w'' := by
  refine ⟨h.dx.new hb (Dx.grown hG (List.mem_cons_self ..) hN), fun k => ?_⟩
  obtain ⟨e, k2⟩ := h.wk k
  exact ⟨e, At.grownAt k2 q hG hT.symm⟩
theorem Dw.map (hG : w.grownBy w' (some bd)) (hN : N ≤ bd) (hdn : MapT keyN keyI w bd dl) : Dw Tn T N bw bz bd ba bm w w' := by
  refine ⟨Dx.grown hG (List.mem_cons_of_mem _ (List.mem_cons_self ..)) hN, fun ⟨e, k⟩ => ⟨e, At.grownMap k hdn hG⟩⟩
end
section
variable {ab : Bool} {ns ns1 ns2 ns3 ns4 : List Nd} {R f g i fa fb ga gb idU ida lU cU : Nat} {e e1 e2 e4 erU : Int}
end

end

section
open Go Go.RowKit

section
variable {Ta Tn T T' : TypeId} {N bw bz bd ba bm R b : Nat} {w w' w'' : World} {ns ns' : List Nd} {xs : List Nat}
/-- An outer deed: what it answers, and what it leaves. -/
def PW (Ta Tn : TypeId) (N ba bm R : Nat) (w : World) (ns : List Nd) (S : List Nd → Nat → Int → Prop) (v : Value) (w' : World) : Prop :=
  ∃ (ns' : List Nd) (id : Nat) (er : Int), v = .tuple #[.int .i64 (id : Int), .int .i64 er] ∧ Dx Tn N [ba, bm] w w' ∧ Dia Ta Tn N ba bm R w' ns' ∧ S ns' id er
theorem PW.dx {S : List Nd → Nat → Int → Prop} {v : Value} (h : PW Ta Tn N ba bm R w ns S v w') : Dx Tn N [ba, bm] w w' := by
  obtain ⟨_, _, _, _, h, _⟩ := h; exact h
end
end

end Go.Proofs.Ytpamgfbecgjjeaa
