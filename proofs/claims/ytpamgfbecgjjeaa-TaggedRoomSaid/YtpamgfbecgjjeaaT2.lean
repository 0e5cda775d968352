/-
  The family of a set's primes, as a deed of many steps: what a call comes to, and what it may cost. No program in it.
-/
import Derived.Test.YtpamgfbecgjjeaaT1
import Derived.Test.YtpamgfbecgjjeaaZ11
namespace Go.Proofs.Ytpamgfbecgjjeaa
set_option linter.unusedVariables false
set_option linter.unusedSimpArgs false
open Go Go.RowKit

/-! ### Costs -/
def tC : Nat → Nat
  | 0 => 0
  | k + 1 => 3 * tC k + 2 * (2 * k * 3 ^ k) + 7
section
variable {ns ns' ns1 ns2 ns3 ns4 : List Nd} {R f g i l : Nat}
/-- A family whose members all have the item at its root. -/
theorem half_all (h : Wf ns) {g l : Nat} (hg : g < ns.length + 2) (hl : l ≤ lvl ns g) (h24 : l < 24) (ha : ∀ x, M ns g x → x.testBit l = true) : halfA ns g l = 0 := by
  have H := half_of h hg hl h24
  refine Decidable.byContradiction fun k => ?_
  obtain ⟨y, hy⟩ := mems_ne h _ H.va k
  have h1 := ha y ((H.mem y).2 (.inl hy))
  rw [bit_clear (dvd_lt H.la (mems_bits h _ H.va y hy).1)] at h1
  cases h1
theorem cE_end {n f g : Nat} {en : Nat → Nat → Nat × Bool} (h : (en f g).2 = true) : cP en n ns f g = 0 := by
  cases n with
  | zero => rfl
  | succ n => rw [cP, if_pos h]
theorem enU_0l (g : Nat) : (opU.ends 0 g).2 = true := by show (enU 0 g).2 = true; unfold enU; rw [if_pos (.inl rfl)]
theorem enU_0r (f : Nat) : (opU.ends f 0).2 = true := by
  show (enU f 0).2 = true
  unfold enU
  split
  · rfl
  · rfl
theorem cU_top (h : Wf ns) (hf : f < ns.length + 2) (hg : g < ns.length + 2) (hl : l < lvl ns f) (hlg : l ≤ lvl ns g) (h24 : l < 24) (ha : ∀ x, M ns g x → x.testBit l = true) : opU.cst ns f g ≤ 1 := by
  show cE opU.ends ns f g ≤ 1
  by_cases he : (opU.ends f g).2 = true
  · unfold cE; rw [cE_end he]; omega
  · have g0 : ¬ g = 0 := fun e => by subst e; exact he (enU_0r f)
    have hlv : lvl ns g = l := by
      obtain ⟨x, hx⟩ := mems_ne h g hg g0
      have h1 := ha x hx
      rcases Nat.lt_or_ge l (lvl ns g) with k | k
      · rw [bit_clear (dvd_lt k (mems_bits h g hg x hx).1)] at h1; cases h1
      · omega
    have hmin : min (lvl ns f) (lvl ns g) = l := by omega
    have hA := half_all h hg hlg h24 ha
    have hfB : halfB ns f l = 0 := if_neg fun k => by omega
    unfold cE
    rw [hmin, show 25 - l = (24 - l) + 1 by omega, cP, if_neg he, hmin, hA, hfB, cE_end (enU_0r _), cE_end (enU_0l _)]
    omega
/-- The second one: one level further on. -/
theorem cU_two (h : Wf ns) (hf : f < ns.length + 2) (hg : g < ns.length + 2) (hlf : l ≤ lvl ns f) (hlg : l + 1 ≤ lvl ns g) (h24 : l + 1 < 24) (hc : ∀ x, M ns f x → x.testBit l = false → 2 ^ (l + 2) ∣ x) (ha : ∀ x, M ns g x → x.testBit (l + 1) = true) : opU.cst ns f g ≤ 2 := by
  rcases Nat.lt_or_ge l (lvl ns f) with k | k
  · have : l + 2 ≤ lvl ns f := lvl_ge h hf (by omega) fun x hx => hc x hx (bit_clear (dvd_lt k (mems_bits h f hf x hx).1))
    have := cU_top (l := l + 1) h hf hg (by omega) hlg h24 ha
    omega
  · have hlv : lvl ns f = l := by omega
    show cE opU.ends ns f g ≤ 2
    by_cases he : (opU.ends f g).2 = true
    · unfold cE; rw [cE_end he]; omega
    · have H := half_of h hf hlf (by omega)
      have hmin : min (lvl ns f) (lvl ns g) = l := by omega
      have hgA : halfA ns g l = g := if_neg fun q => by omega
      have hgB : halfB ns g l = 0 := if_neg fun q => by omega
      have hla := H.la
      have hA : l + 2 ≤ lvl ns (halfA ns f l) := lvl_ge h H.va (by omega) fun x hx => hc x ((H.mem x).2 (.inl hx)) (bit_clear (dvd_lt H.la (mems_bits h _ H.va x hx).1))
      have k2 := cU_top (l := l + 1) h H.va hg (by omega) hlg h24 ha
      have k3 : cE opU.ends ns (halfA ns f l) g ≤ 1 := k2
      have k4 := cP_mono (en := opU.ends) (ns := ns) (show 24 - l ≤ 24 - l from Nat.le_refl _) (halfA ns f l) g
      have k5 : cP opU.ends (24 - l) ns (halfA ns f l) g ≤ 1 := by
        by_cases he2 : (opU.ends (halfA ns f l) g).2 = true
        · rw [cE_end he2]; omega
        · have g0 : ¬ g = 0 := fun e => by subst e; exact he (enU_0r f)
          have hlvg : lvl ns g = l + 1 := by
            obtain ⟨x, hx⟩ := mems_ne h g hg g0
            have h1 := ha x hx
            rcases Nat.lt_or_ge (l + 1) (lvl ns g) with k | k
            · rw [bit_clear (dvd_lt k (mems_bits h g hg x hx).1)] at h1; cases h1
            · omega
          have hmin2 : min (lvl ns (halfA ns f l)) (lvl ns g) = l + 1 := by omega
          have e : cE opU.ends ns (halfA ns f l) g = cP opU.ends (24 - l) ns (halfA ns f l) g := by
            unfold cE
            rw [hmin2, show 25 - (l + 1) = 24 - l by omega]
          rw [← e]; exact k3
      unfold cE
      rw [hmin, show 25 - l = (24 - l) + 1 by omega, cP, if_neg he, hmin, hgA, hgB, cE_end (enU_0r _)]
      omega
end

/-! ### What a call comes to -/
structure PrW (ns ns' : List Nd) (R : Nat) (e e' : Int) (n i s id : Nat) : Prop where
  v : id < ns'.length + 2
  pre : ns <+: ns'
  sta : e = 0 → Sta ns ns' R (tC (n - i)) e'
  err : ¬ e = 0 → e' = e
  m : e' = 0 → M ns' id = PrS n s
  crd : e' = 0 → (mems ns' id).length ≤ 3 ^ (n - i)
theorem pr_err {ns : List Nd} {R n i s : Nat} {e : Int} (he : ¬ e = 0) : PrW ns ns R e e n i s 0 := ⟨by omega, List.prefix_refl _, fun h => absurd h he, fun _ => rfl, fun h => absurd h he, fun h => absurd h he⟩
theorem pr_0 {ns : List Nd} {R n i s : Nat} {e : Int} (he : e = 0) (h8 : n ≤ 8) (h : eqS s 0 = true) : PrW ns ns R e e n i s 0 := by
  refine ⟨by omega, List.prefix_refl _, fun _ => ⟨List.prefix_refl _, .inl ⟨he, by omega⟩⟩, fun _ => rfl, fun _ => set_ext' fun x => ?_, fun _ => ?_⟩
  · exact ⟨fun k => absurd k (M_0 ns x), fun k => absurd k (prs_0 h8 h x)⟩
  · rw [mems_0]; exact Nat.zero_le _
theorem pr_1 {ns : List Nd} {R n i s : Nat} {e : Int} (he : e = 0) (h8 : n ≤ 8) (h : eqS s (allS n) = true) : PrW ns ns R e e n i s 1 := by
  refine ⟨by omega, List.prefix_refl _, fun _ => ⟨List.prefix_refl _, .inl ⟨he, by omega⟩⟩, fun _ => rfl, fun _ => set_ext' fun x => ?_, fun _ => ?_⟩
  · rw [prs_all h8 h]
    show x ∈ mems ns 1 ↔ _
    rw [mems_1, List.mem_singleton]
  · rw [mems_1]; exact Nat.pow_pos (show 0 < 3 by decide)
def sdB (s i : Nat) (k : Nat) : Nat := sideS s i (decide (k = 1))
def comB (s i : Nat) : Nat := sideS s i false &&& sideS s i true
def Ow (n s i k : Nat) (y : Nat) : Prop := PrS n (sdB s i k) y ∧ ¬ PrS n (comB s i) y
def OutS (n s i k : Nat) (x : Nat) : Prop := PrS n (comB s i) x ∨ (1 ≤ k ∧ ∃ y, Ow n s i 0 y ∧ x = y + 2 ^ (2 * i)) ∨ (2 ≤ k ∧ ∃ y, Ow n s i 1 y ∧ x = y + 2 ^ (2 * i + 1))
theorem outS_0 {n s i : Nat} : OutS n s i 0 = PrS n (comB s i) := set_ext' fun x => ⟨fun h => h.elim id fun k => k.elim (fun q => absurd q.1 (by decide)) fun q => absurd q.1 (by decide), .inl⟩
theorem outS_2 {n s i : Nat} (h8 : n ≤ 8) (h : Fre n s i) (hi : i < n) : OutS n s i 2 = PrS n s := set_ext' fun x => by
  rw [prs_split h8 h hi]
  unfold OutS Ow sdB comB
  constructor
  · rintro (h | ⟨_, h⟩ | ⟨_, h⟩)
    · exact .inl h
    · exact .inr (.inl h)
    · exact .inr (.inr h)
  · rintro (h | h | h)
    · exact .inl h
    · exact .inr (.inl ⟨by decide, h⟩)
    · exact .inr (.inr ⟨by decide, h⟩)
theorem outS_s {n s i k x : Nat} (hk : k < 2) : OutS n s i (k + 1) x ↔ OutS n s i k x ∨ ∃ y, Ow n s i k y ∧ x = y + 2 ^ (2 * i + k) := by
  have : k = 0 ∨ k = 1 := by omega
  unfold OutS
  rcases this with rfl | rfl
  · constructor
    · rintro (h | ⟨_, h⟩ | ⟨h, _⟩)
      · exact .inl (.inl h)
      · exact .inr h
      · exact absurd h (by decide)
    · rintro ((h | ⟨h, _⟩ | ⟨h, _⟩) | h)
      · exact .inl h
      · exact absurd h (by decide)
      · exact absurd h (by decide)
      · exact .inr (.inl ⟨by decide, h⟩)
  · constructor
    · rintro (h | ⟨_, h⟩ | ⟨_, h⟩)
      · exact .inl (.inl h)
      · exact .inl (.inr (.inl ⟨by decide, h⟩))
      · exact .inr h
    · rintro ((h | ⟨_, h⟩ | ⟨h, _⟩) | h)
      · exact .inl h
      · exact .inr (.inl ⟨by decide, h⟩)
      · exact absurd h (by decide)
      · exact .inr (.inr ⟨by decide, h⟩)
theorem sd_fre {n s i : Nat} (h8 : n ≤ 8) (h : Fre n s i) (hi : i < n) (k : Nat) : Fre n (sdB s i k) (i + 1) := h.side h8 hi _
theorem com_fre {n s i : Nat} (h8 : n ≤ 8) (h : Fre n s i) (hi : i < n) : Fre n (comB s i) (i + 1) := (h.side h8 hi false).and (h.side h8 hi true)
/-- Underway: k of the halves are done. -/
structure LpW (ns nsc : List Nd) (R : Nat) (n i s k : Nat) (ec : Int) (com out : Nat) : Prop where
  vc : com < nsc.length + 2
  vo : out < nsc.length + 2
  pre : ns <+: nsc
  sta : Sta ns nsc R (tC (n - (i + 1)) + k * (tC (n - (i + 1)) + 2 * (n - (i + 1)) * 3 ^ (n - (i + 1)) + 2) + (if k = 0 then 0 else if k = 1 then 1 else 3)) ec
  mc : ec = 0 → M nsc com = PrS n (comB s i)
  cc : ec = 0 → (mems nsc com).length ≤ 3 ^ (n - (i + 1))
  mo : ec = 0 → M nsc out = OutS n s i k
  co : ec = 0 → (mems nsc out).length ≤ (k + 1) * 3 ^ (n - (i + 1))
section
variable {ns nsc ns1 ns2 ns3 ns4 : List Nd} {R n i s k com out idh idl idw ido lL lO : Nat} {ec e1 e3 erL erO : Int}
theorem lp_start (p : PrW ns ns1 R 0 e1 n (i + 1) (comB s i) com) : LpW ns ns1 R n i s 0 e1 com com :=
  ⟨p.v, p.v, p.pre, (p.sta rfl).mono (by simp), p.m, p.crd, fun z => by rw [outS_0]; exact p.m z, fun z => by have := p.crd z; omega⟩
theorem lp_step (h8 : n ≤ 8) (hs : Fre n s i) (hi : i < n) (hk : k < 2) (h : LpW ns nsc R n i s k ec com out) (hw1 : Wf ns1) (hw2 : Wf ns2) (hw3 : Wf ns3) (hw4 : Wf ns4)
    (p : PrW nsc ns1 R ec e1 n (i + 1) (sdB s i k) idh) (gL : Got ns1 ns2 R (opL.cst ns1 idh com) lL (opL.res (M ns1 idh) (M ns1 com)) idl erL) (q : PutW ns2 ns3 R (didE e1 erL) e3 (didV e1 erL idl) (2 * i + k) idw)
    (gO : Got ns3 ns4 R (opU.cst ns3 out idw) lO (opU.res (M ns3 out) (M ns3 idw)) ido erO) : LpW ns ns4 R n i s (k + 1) (didE e3 erO) com (didV e3 erO ido) := by
  have p01 := pre_len p.pre
  have p12 := pre_len gL.pre
  have p23 := pre_len q.pre
  have p34 := pre_len gO.pre
  have hvc := h.vc
  have hvo := h.vo
  have hvh := p.v
  have hvl : didV e1 erL idl < ns2.length + 2 := didV_v gL.valid
  have hfc := com_fre h8 hs hi
  have hfs := sd_fre h8 hs hi k
  have i24 : 2 * i + 2 ≤ 24 := by omega
  -- members
  have M1h : e1 = 0 → M ns1 idh = PrS n (sdB s i k) := p.m
  have M1c : e1 = 0 → M ns1 com = PrS n (comB s i) := fun z => by rw [M_pre p.pre h.vc]; exact h.mc (back_0 p.err z)
  have M2l : didE e1 erL = 0 → M ns2 (didV e1 erL idl) = Ow n s i k := fun z => by
    obtain ⟨z1, z2⟩ := didE_0.1 z
    rw [didV_0 z, show M ns2 idl = opL.res (M ns1 idh) (M ns1 com) from set_ext' (gL.ok z2).2.2, M1h z1, M1c z1]
    rfl
  have dv : ∀ y, Ow n s i k y → 2 ^ (2 * i + 2) ∣ y := fun y hy => by
    have := prs_dvd h8 hfs hy.1
    rwa [show 2 * (i + 1) = 2 * i + 2 by omega] at this
  have dvk : ∀ y, Ow n s i k y → 2 ^ (2 * i + k + 1) ∣ y := fun y hy => Nat.dvd_trans (Nat.pow_dvd_pow 2 (by omega)) (dv y hy)
  have levO : lev (2 * i + k) (Ow n s i k) := fun y hy => dvk y hy
  have M3w : e3 = 0 → ∀ x, M ns3 idw x ↔ ∃ y, Ow n s i k y ∧ x = y + 2 ^ (2 * i + k) := fun z x => by
    have z2 := back_0 q.err z
    have hq := q.m z x
    rw [M2l z2] at hq
    exact hq.trans (join_one levO x)
  have M3o : e3 = 0 → M ns3 out = OutS n s i k := fun z => by
    have z1 := (didE_0.1 (back_0 q.err z)).1
    rw [M_pre ((p.pre.trans gL.pre).trans q.pre) h.vo]
    exact h.mo (back_0 p.err z1)
  have tpP : ∀ {x s'}, PrS n s' x → x < 2 ^ (2 * n) := fun hx => prs_lt h8 hx
  -- costs
  have cL : e1 = 0 → opL.cst ns1 idh com ≤ 2 * (n - (i + 1)) * 3 ^ (n - (i + 1)) := fun z => by
    have t1 : tp ns1 idh ≤ 2 * n := tp_le.2 fun x hx => tpP (by have hx' : M ns1 idh x := hx; rw [M1h z] at hx'; exact hx')
    have t2 : tp ns1 com ≤ 2 * n := tp_le.2 fun x hx => tpP (by have hx' : M ns1 com x := hx; rw [M1c z] at hx'; exact hx')
    have l1 : 2 * i + 2 ≤ lvl ns1 idh := lvl_ge hw1 hvh i24 fun x hx => by
      have hx' : M ns1 idh x := hx
      rw [M1h z] at hx'
      have := prs_dvd h8 hfs hx'
      rwa [show 2 * (i + 1) = 2 * i + 2 by omega] at this
    have l2 : 2 * i + 2 ≤ lvl ns1 com := lvl_ge hw1 (by omega) i24 fun x hx => by
      have hx' : M ns1 com x := hx
      rw [M1c z] at hx'
      have := prs_dvd h8 hfc hx'
      rwa [show 2 * (i + 1) = 2 * i + 2 by omega] at this
    refine Nat.le_trans (cE_T hw1 opL_ok.endF hvh (by omega) t1 t2) (Nat.mul_le_mul (by omega) ?_)
    have := p.crd z
    omega
  have lw : e3 = 0 → 2 * i + k ≤ lvl ns3 idw := fun z => lvl_ge hw3 q.v (by omega) fun x hx => by
    obtain ⟨y, hy, e⟩ := (M3w z x).1 hx
    rw [e]
    exact dvd_up (dvk y hy)
  have bw : e3 = 0 → ∀ x, M ns3 idw x → x.testBit (2 * i + k) = true := fun z x hx => by
    obtain ⟨y, hy, e⟩ := (M3w z x).1 hx
    rw [e]
    exact bit_set (dvk y hy)
  have oc : ∀ x, OutS n s i 0 x → 2 ^ (2 * i + 2) ∣ x := fun x hx => by
    rw [outS_0] at hx
    have := prs_dvd h8 hfc hx
    rwa [show 2 * (i + 1) = 2 * i + 2 by omega] at this
  have cO : e3 = 0 → opU.cst ns3 out idw ≤ k + 1 := fun z => by
    have : k = 0 ∨ k = 1 := by omega
    rcases this with rfl | rfl
    · refine cU_top (l := 2 * i) hw3 (by omega) q.v ?_ (lw z) (by omega) (bw z)
      have : 2 * i + 2 ≤ lvl ns3 out := lvl_ge hw3 (by omega) i24 fun x hx => oc x (by have hx' : M ns3 out x := hx; rw [M3o z] at hx'; exact hx')
      omega
    · have hou : ∀ x, M ns3 out x → OutS n s i 0 x ∨ ∃ y, Ow n s i 0 y ∧ x = y + 2 ^ (2 * i + 0) := fun x hx => by
        rw [M3o z] at hx
        exact (outS_s (by decide)).1 hx
      have dv0 : ∀ y, Ow n s i 0 y → 2 ^ (2 * i + 2) ∣ y := fun y hy => by
        have := prs_dvd h8 (sd_fre h8 hs hi 0) hy.1
        rwa [show 2 * (i + 1) = 2 * i + 2 by omega] at this
      refine cU_two (l := 2 * i) hw3 (by omega) q.v (lvl_ge hw3 (by omega) (by omega) fun x hx => ?_) (lw z) (by omega) (fun x hx hb => ?_) (bw z)
      · rcases hou x hx with k | ⟨y, hy, e⟩
        · exact Nat.dvd_trans (Nat.pow_dvd_pow 2 (by omega)) (oc x k)
        · rw [e, Nat.add_zero]
          exact dvd_up (Nat.dvd_trans (Nat.pow_dvd_pow 2 (by omega)) (dv0 y hy))
      · rcases hou x hx with k | ⟨y, hy, e⟩
        · exact oc x k
        · rw [e, Nat.add_zero, bit_set (Nat.dvd_trans (Nat.pow_dvd_pow 2 (by omega)) (dv0 y hy))] at hb
          cases hb
  have s1 := h.sta.step p.sta (fun z => ⟨p.pre, p.err z⟩)
  have s2 := s1.did gL cL
  have s3 := s2.step (c2 := 2) (fun z => q.sta z (by
    have : 2 * i + k + 1 ≤ lvl ns2 (didV e1 erL idl) := lvl_ge hw2 hvl (by omega) fun x hx => by
      have hx' : M ns2 (didV e1 erL idl) x := hx
      rw [M2l z] at hx'
      exact dvk x hx'
    omega)) (fun z => ⟨q.pre, q.err z⟩)
  have s4 := s3.did gO cO
  have pall := ((p.pre.trans gL.pre).trans q.pre).trans gO.pre
  refine ⟨by omega, didV_v gO.valid, h.pre.trans pall, s4.mono ?_, fun z => ?_, fun z => ?_, fun z => set_ext' fun x => ?_, fun z => ?_⟩
  · have : k = 0 ∨ k = 1 := by omega
    rcases this with rfl | rfl
    · simp; omega
    · simp; omega
  · have z1 := (didE_0.1 (back_0 q.err (didE_0.1 z).1)).1
    rw [M_pre pall hvc]
    exact h.mc (back_0 p.err z1)
  · have z1 := (didE_0.1 (back_0 q.err (didE_0.1 z).1)).1
    rw [mems_pre pall hvc]
    exact h.cc (back_0 p.err z1)
  · obtain ⟨z3, zO⟩ := didE_0.1 z
    rw [didV_0 z, outS_s hk]
    refine ((gO.ok zO).2.2 x).trans ?_
    show (M ns3 out x ∨ M ns3 idw x) ↔ _
    rw [M3o z3, M3w z3]
  · obtain ⟨z3, zO⟩ := didE_0.1 z
    have z2 := back_0 q.err z3
    have z1 := (didE_0.1 z2).1
    rw [didV_0 z]
    have h1 := card_app hw4 (gO.ok zO).1 (a := out) (b := idw) (ns := ns3) fun x hx => ((gO.ok zO).2.2 x).1 hx
    have h2 : (mems ns3 idw).length ≤ (mems ns1 idh).length := by
      have := nodupN_le (l2 := (mems ns1 idh).map fun y => y + 2 ^ (2 * i + k)) (mems_nodup hw3 idw q.v) fun x hx => by
        obtain ⟨y, hy, e⟩ := (M3w z3 x).1 hx
        exact List.mem_map.2 ⟨y, by have hm : M ns1 idh y := by rw [M1h z1]; exact hy.1
                                    exact hm, e.symm⟩
      rw [List.length_map] at this
      exact this
    have h3 := p.crd z1
    have h4 : (mems ns3 out).length = (mems nsc out).length := by rw [mems_pre ((p.pre.trans gL.pre).trans q.pre) hvo]
    have h5 := h.co (back_0 p.err z1)
    have h6 : (k + 1 + 1) * 3 ^ (n - (i + 1)) = (k + 1) * 3 ^ (n - (i + 1)) + 3 ^ (n - (i + 1)) := by rw [Nat.add_mul (k + 1), Nat.one_mul]
    omega
theorem lp_end (h8 : n ≤ 8) (hs : Fre n s i) (hi : i < n) (h : LpW ns nsc R n i s 2 ec com out) : PrW ns nsc R 0 ec n i s out := by
  obtain ⟨m, hm⟩ : ∃ m, n - i = m + 1 := ⟨n - (i + 1), by omega⟩
  have hm2 : n - (i + 1) = m := by omega
  refine ⟨h.vo, h.pre, fun _ => h.sta.mono ?_, fun z => absurd rfl z, fun z => by rw [← outS_2 h8 hs hi]; exact h.mo z, fun z => ?_⟩
  · rw [hm, hm2, tC]
    simp
    omega
  · have := h.co z
    rw [hm2] at this
    rw [hm, Nat.pow_succ]
    omega
end

end Go.Proofs.Ytpamgfbecgjjeaa
