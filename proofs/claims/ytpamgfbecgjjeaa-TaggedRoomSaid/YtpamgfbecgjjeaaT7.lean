/-
  The family of a spec's primes: some outputs' primes, but for those that more outputs have. No program in it.
-/
import Derived.Test.YtpamgfbecgjjeaaT6
import Derived.Test.YtpamgfbecgjjeaaMulti2
namespace Go.Proofs.Ytpamgfbecgjjeaa
set_option linter.unusedVariables false
set_option linter.unusedSimpArgs false
open Go Go.RowKit

abbrev nN (S : Sp) : Nat := S.n.toNat
def FS (S : Sp) (o j y : Nat) : Prop := PrS (nN S) (comS S o) y ∧ ∀ p, o < p → p < j → p &&& o = o → ¬ PrS (nN S) (comS S p) y
def AllS (S : Sp) (j x : Nat) : Prop := ∃ o, 1 ≤ o ∧ o < j ∧ ∃ y, FS S o (2 ^ S.may.length) y ∧ x = y + o * 65536
def great11 (S : Sp) : Bool := decide (20 < S.on.length) || decide (20 < S.may.length)
theorem great11_1 {S : Sp} (h : (S.on.length : Int) > 20) : Value.bool true = .bool (great11 S) := by
  unfold great11
  rw [decide_eq_true (by omega : 20 < S.on.length), Bool.true_or]
theorem great11_2 {S : Sp} (h : ¬ (S.on.length : Int) > 20) : Value.bool (decide ((S.may.length : Int) > 20)) = .bool (great11 S) := by
  unfold great11
  rw [decide_eq_false (by omega : ¬ 20 < S.on.length), Bool.false_or]
  congr 1
  rw [decide_eq_decide]
  omega
section
variable {S : Sp} {o p j x y : Nat}
theorem fs_0 : FS S o (o + 1) = PrS (nN S) (comS S o) := set_ext' fun y => ⟨fun h => h.1, fun h => ⟨h, fun p h1 h2 => by omega⟩⟩
theorem fs_t (h : j &&& o = o) (hj : o < j) : FS S o (j + 1) = fun y => FS S o j y ∧ ¬ PrS (nN S) (comS S j) y := set_ext' fun y => by
  unfold FS
  constructor
  · rintro ⟨h1, h2⟩
    exact ⟨⟨h1, fun p a b => h2 p a (by omega)⟩, h2 j hj (by omega) h⟩
  · rintro ⟨⟨h1, h2⟩, h3⟩
    refine ⟨h1, fun p a b c => ?_⟩
    by_cases e : p = j
    · subst e; exact h3
    · exact h2 p a (by omega) c
theorem fs_f (h : ¬ j &&& o = o) : FS S o (j + 1) = FS S o j := set_ext' fun y => by
  unfold FS
  constructor
  · rintro ⟨h1, h2⟩
    exact ⟨h1, fun p a b => h2 p a (by omega)⟩
  · rintro ⟨h1, h2⟩
    refine ⟨h1, fun p a b c => ?_⟩
    by_cases e : p = j
    · subst e; exact absurd c h
    · exact h2 p a (by omega) c
theorem all_1 : AllS S 1 = fun _ => False := set_ext' fun x => ⟨fun ⟨o, h1, h2, _⟩ => by omega, fun h => h.elim⟩
theorem all_s (h : 1 ≤ o) : AllS S (o + 1) x ↔ AllS S o x ∨ ∃ y, FS S o (2 ^ S.may.length) y ∧ x = y + o * 65536 := by
  constructor
  · rintro ⟨q, h1, h2, h3⟩
    by_cases e : q = o
    · subst e; exact .inr h3
    · exact .inl ⟨q, h1, by omega, h3⟩
  · rintro (⟨q, h1, h2, h3⟩ | h3)
    · exact ⟨q, h1, by omega, h3⟩
    · exact ⟨o, h, by omega, h3⟩
theorem right_nN (hr : rightS S = true) : nN S ≤ 8 ∧ S.n = (nN S : Int) ∧ S.may.length ≤ 4 := by
  obtain ⟨h0, h8, _, h4, h5, _⟩ := rightS_iff.1 hr
  unfold nN
  omega
theorem com_fre0 (hr : rightS S = true) (o : Nat) : Fre (nN S) (comS S o) 0 := by
  obtain ⟨h8, hn, _⟩ := right_nN hr
  have := com_of hr o
  rw [hn] at this
  exact (of_fre this).2
theorem fs_lt (hr : rightS S = true) (h : FS S o j y) : y < 65536 := by
  obtain ⟨h8, _, _⟩ := right_nN hr
  have h1 := prs_lt h8 h.1
  have h2 : 2 ^ (2 * nN S) ≤ 2 ^ 16 := Nat.pow_le_pow_right (by decide) (by omega)
  exact Nat.lt_of_lt_of_le h1 h2
/-- A row is prime just if its cube is one of its outputs' primes, and of no more outputs'. -/
theorem fs_row (hr : rightS S = true) {c : Cb} (h1 : 1 ≤ o) (ho : o < 2 ^ S.may.length) : primeR S ⟨c, o⟩ = true ↔ primeB c.m c.v (comS S o) (nN S : Int) = true ∧ ∀ p, o < p → p < 2 ^ S.may.length → p &&& o = o → ¬ primeB c.m c.v (comS S p) (nN S : Int) = true := by
  obtain ⟨h8, hn, _⟩ := right_nN hr
  have wi : ∀ q, q < 2 ^ S.may.length → (wiB c.m c.v (comS S q) S.n = true ↔ rightB c.m c.v S.n = true ∧ ∀ j, q.testBit j = true → j < S.may.length ∧ wiB c.m c.v (mayP S j) S.n = true) := fun q hq => by
    rw [com_wi]
    refine and_congr_right fun _ => ⟨fun h j hj => ?_, fun h j _ hj => (h j hj).2⟩
    have hlt : j < S.may.length := by
      rcases Nat.lt_or_ge j S.may.length with k | k
      · exact k
      · rw [lt_two.1 hq j k] at hj; cases hj
    exact ⟨hlt, h j hlt hj⟩
  have le : ∀ q : Nat, (∀ j, q.testBit j = true → (outsS S c).testBit j = true) ↔ ∀ j, q.testBit j = true → j < S.may.length ∧ wiB c.m c.v (mayP S j) S.n = true := fun q => by
    refine forall_congr' fun j => imp_congr_right fun _ => ?_
    exact outsTo_testBit _
  have out_lt : outsS S c < 2 ^ S.may.length := outsTo_lt S c _
  have prim : ∀ q : Nat, primeB c.m c.v (comS S q) (nN S : Int) = true → wiB c.m c.v (comS S q) S.n = true := fun q hq => by rw [hn]; exact (primeB_iff.1 hq).1
  -- more outputs: fewer points
  have sub : ∀ (q q' : Nat) (d : Cb), (∀ j, q.testBit j = true → q'.testBit j = true) → wIn (nN S) (comS S q') d → wIn (nN S) (comS S q) d := fun q q' d hq hw p hp hh => by
    have := hw p hp hh
    rw [comTo_testBit] at this ⊢
    exact ⟨this.1, fun j hj hb => this.2 j hj (hq j hb)⟩
  rw [primeR_iff, inR_iff]
  constructor
  · rintro ⟨⟨_, _, hin⟩, hout, hp⟩
    rw [hn] at hp
    refine ⟨hp, fun q h3 h4 h5 hq => ?_⟩
    have h6 := ((wi q h4).1 (prim q hq)).2
    have h7 := (le q).2 h6
    rw [hout] at h7
    have : q = o := Nat.eq_of_testBit_eq fun j => by
      have h8 := congrArg (fun z => z.testBit j) h5
      simp only [Nat.testBit_and] at h8
      cases e1 : q.testBit j with
      | true => exact (h7 j e1).symm
      | false => rw [e1, Bool.false_and] at h8; exact h8
    omega
  · rintro ⟨hp, hno⟩
    have hw := (wi o ho).1 (prim o hp)
    have hle := (le o).2 hw.2
    have hout : outsS S c = o := by
      refine Decidable.byContradiction fun hne => ?_
      have hand : outsS S c &&& o = o := Nat.eq_of_testBit_eq fun j => by
        rw [Nat.testBit_and]
        cases e : o.testBit j with
        | true => rw [hle j e]; rfl
        | false => rw [Bool.and_false]
      have hge : o ≤ outsS S c := by rw [← hand]; exact Nat.and_le_left
      refine hno (outsS S c) (by omega) out_lt hand ?_
      obtain ⟨g1, g2, g3⟩ := (prime_iff h8).1 hp
      refine (prime_iff h8).2 ⟨g1, ?_, fun i hi hb hq => g3 i hi hb (sub o _ _ hle hq)⟩
      have hwo : wiB c.m c.v (comS S (outsS S c)) S.n = true := (wi _ out_lt).2 ⟨hw.1, fun j hj => (outsTo_testBit _).1 hj⟩
      have := imp_iff.1 hwo
      have h9 := this.2
      unfold nN
      exact h9
    refine ⟨⟨hr, h1, hw.2⟩, hout, ?_⟩
    rw [hn]
    exact hp
theorem all_rows (hr : rightS S = true) : AllS S (2 ^ S.may.length) x ↔ ∃ r, r ∈ allR S ∧ x = memRw r := by
  obtain ⟨h8, hn, h4⟩ := right_nN hr
  have h16 := pow4 h4
  have h256 := pow_le256 h8
  constructor
  · rintro ⟨o, h1, h2, y, ⟨⟨c, hc, rfl⟩, hno⟩, rfl⟩
    refine ⟨⟨c, o⟩, (mem_allR hr).2 ((fs_row hr h1 h2).2 ⟨hc, fun p a b d hp => hno p a b d ⟨c, hp, rfl⟩⟩), ?_⟩
    unfold memRw
    rw [Nat.mod_eq_of_lt (show o < 16 by omega)]
  · rintro ⟨⟨c, o⟩, hm, rfl⟩
    have hp := (mem_allR hr).1 hm
    have ho : 0 < o ∧ o < 2 ^ S.may.length := by
      have h3 := (primeR_iff.1 hp).1
      exact ⟨(inR_iff.1 h3).2.1, (inR_lt h3).1⟩
    obtain ⟨g1, g2⟩ := (fs_row hr ho.1 ho.2).1 hp
    refine ⟨o, ho.1, ho.2, memC c, ⟨⟨c, g1, rfl⟩, fun p a b d ⟨c', hc', e⟩ => ?_⟩, ?_⟩
    · have r1 := ((prime_iff h8).1 g1).1
      have r2 := ((prime_iff h8).1 hc').1
      have := memC_inj (by have := r1.m; omega) (by have := r2.m; omega) r1.v r2.v e
      rw [← this] at hc'
      exact g2 p a b d hc'
    · unfold memRw
      rw [Nat.mod_eq_of_lt (show o < 16 by omega)]
end

/-! ### How it stands -/
structure AlW (ns nsc : List Nd) (R : Nat) (S : Sp) (j : Nat) (ec : Int) (out : Nat) : Prop where
  v : out < nsc.length + 2
  pre : ns <+: nsc
  st : ∃ c, Sta ns nsc R c ec
  m : ec = 0 → M nsc out = AllS S j
structure FnW (nsc nsi : List Nd) (R : Nat) (S : Sp) (o j : Nat) (ec ei : Int) (f : Nat) : Prop where
  v : f < nsi.length + 2
  pre : nsc <+: nsi
  st : ec = 0 → ∃ c, Sta nsc nsi R c ei
  err : ¬ ec = 0 → ei = ec
  m : ei = 0 → M nsi f = FS S o j
section
variable {ns nsc nsi ns1 ns2 ns3 ns4 : List Nd} {R o j out f id idl idg idj ido lL lG lJ lO cG : Nat} {S : Sp} {ec ei e1 erL erG erJ erO : Int}
theorem al_start : AlW ns ns R S 1 0 0 := ⟨by omega, List.prefix_refl _, ⟨0, Sta.refl⟩, fun _ => by rw [all_1]; exact set_ext' fun x => ⟨fun h => M_0 ns x h, fun h => h.elim⟩⟩
theorem fn_start (p : PrW nsc ns1 R ec e1 (nN S) 0 (comS S o) id) : FnW nsc ns1 R S o (o + 1) ec e1 id := ⟨p.v, p.pre, fun z => ⟨_, p.sta z⟩, p.err, fun z => by rw [fs_0]; exact p.m z⟩
theorem fn_step (h : FnW nsc nsi R S o j ec ei f) (hj : o < j) (hb : j &&& o = o) (p : PrW nsi ns1 R ei e1 (nN S) 0 (comS S j) id) (gL : Got ns1 ns2 R (opL.cst ns1 f id) lL (opL.res (M ns1 f) (M ns1 id)) idl erL) : FnW nsc ns2 R S o (j + 1) ec (didE e1 erL) (didV e1 erL idl) := by
  refine ⟨didV_v gL.valid, (h.pre.trans p.pre).trans gL.pre, fun z => ?_, fun z => ?_, fun z => ?_⟩
  · obtain ⟨c, s⟩ := h.st z
    have s1 := s.step (c2 := tC (nN S - 0)) (fun z => p.sta z) (fun z => ⟨p.pre, p.err z⟩)
    exact ⟨_, s1.did gL (c2 := opL.cst ns1 f id) fun _ => Nat.le_refl _⟩
  · have h1 := h.err z
    have h2 := p.err (by rw [h1]; exact z)
    unfold didE
    rw [if_neg (by rw [h2, h1]; exact z), h2, h1]
  · obtain ⟨z1, z2⟩ := didE_0.1 z
    rw [didV_0 z, fs_t hb hj, show M ns2 idl = opL.res (M ns1 f) (M ns1 id) from set_ext' (gL.ok z2).2.2, M_pre p.pre h.v, h.m (back_0 p.err z1), p.m z1]
    rfl
theorem fn_skip (h : FnW nsc nsi R S o j ec ei f) (hb : ¬ j &&& o = o) : FnW nsc nsi R S o (j + 1) ec ei f := ⟨h.v, h.pre, h.st, h.err, fun z => by rw [fs_f hb]; exact h.m z⟩
theorem al_step (hr : rightS S = true) (ho : AlW ns nsc R S o ec out) (h1 : 1 ≤ o) (h16 : o < 16) (h : FnW nsc nsi R S o (2 ^ S.may.length) ec ei f)
    (gG : Got nsi ns1 R cG lG (bS [((o * 65536 : Nat) : Int)] 0) idg erG) (gJ : Got ns1 ns2 R (opJ.cst ns1 f (didV ei erG idg)) lJ (opJ.res (M ns1 f) (M ns1 (didV ei erG idg))) idj erJ)
    (gO : Got ns2 ns3 R (opU.cst ns2 out (didV (didE ei erG) erJ idj)) lO (opU.res (M ns2 out) (M ns2 (didV (didE ei erG) erJ idj))) ido erO) :
    AlW ns ns3 R S (o + 1) (didE (didE (didE ei erG) erJ) erO) (didV (didE (didE ei erG) erJ) erO ido) := by
  have p1 := pre_len h.pre
  have p2 := pre_len gG.pre
  refine ⟨didV_v gO.valid, ho.pre.trans (((h.pre.trans gG.pre).trans gJ.pre).trans gO.pre), ?_, fun z => set_ext' fun x => ?_⟩
  · obtain ⟨c, s⟩ := ho.st
    have s0 : ∃ c', Sta ns nsi R c' ei := by
      by_cases z : ec = 0
      · obtain ⟨c2, s2⟩ := h.st z
        exact ⟨_, s.step (fun _ => s2) (fun q => absurd z q)⟩
      · exact ⟨_, s.step (c2 := 0) (fun q => absurd q z) (fun _ => ⟨h.pre, h.err z⟩)⟩
    obtain ⟨c0, s0⟩ := s0
    have s1 := s0.did gG (c2 := cG) fun _ => Nat.le_refl _
    have s2 := s1.did gJ (c2 := _) fun _ => Nat.le_refl _
    exact ⟨_, s2.did gO (c2 := _) fun _ => Nat.le_refl _⟩
  · obtain ⟨z3, zO⟩ := didE_0.1 z
    obtain ⟨z2, zJ⟩ := didE_0.1 z3
    obtain ⟨z1, zG⟩ := didE_0.1 z2
    have zc := back_0 h.err z1
    have hg : M ns1 idg = fun x => x = o * 65536 := set_ext' fun x => by
      refine ((gG.ok zG).2.2 x).trans ?_
      constructor
      · rintro ⟨m, hm, e⟩
        rw [List.mem_singleton.1 hm, Int.toNat_natCast, clr_0] at e
        exact e
      · rintro rfl
        exact ⟨_, List.mem_singleton.2 rfl, by rw [Int.toNat_natCast, clr_0]⟩
    have hj : M ns2 idj = fun x => ∃ y, FS S o (2 ^ S.may.length) y ∧ x = y + o * 65536 := set_ext' fun x => by
      refine ((gJ.ok zJ).2.2 x).trans ?_
      rw [didV_0 z2, hg, M_pre gG.pre h.v, h.m z1]
      show joinS _ _ x ↔ _
      have key : ∀ y, FS S o (2 ^ S.may.length) y → y ||| o * 65536 = y + o * 65536 := fun y hy => by
        have hlt := fs_lt hr hy
        have e := Nat.two_pow_add_eq_or_of_lt (i := 16) hlt o
        have e16 : (2 : Nat) ^ 16 = 65536 := rfl
        rw [e16] at e
        rw [Nat.or_comm, Nat.mul_comm, ← e, Nat.add_comm]
      constructor
      · rintro ⟨y, b, hy, rfl, rfl⟩
        exact ⟨y, hy, key y hy⟩
      · rintro ⟨y, hy, rfl⟩
        exact ⟨y, _, hy, rfl, (key y hy).symm⟩
    rw [didV_0 z, all_s h1]
    refine ((gO.ok zO).2.2 x).trans ?_
    show (M ns2 out x ∨ M ns2 (didV (didE ei erG) erJ idj) x) ↔ _
    rw [didV_0 z3, hj, M_pre ((h.pre.trans gG.pre).trans gJ.pre) ho.v, ho.m zc]
end
theorem tag_ok {o : Nat} (h : o < 16) : ofZB [((o * 65536 : Nat) : Int)] = true := ofB_iff.2 fun m hm => by
  rw [List.mem_singleton.1 hm]
  omega
def AlO (R : Nat) (ns : List Nd) (S : Sp) (ns' : List Nd) (id : Nat) (er : Int) : Prop := AlW ns ns' R S (2 ^ S.may.length) er id ∧ (¬ er = 0 → id = 0)
theorem al_ok {ns ns' : List Nd} {R id : Nat} {S : Sp} {e : Int} (h : AlW ns ns' R S (2 ^ S.may.length) e id) (hz : e = 0) : AlO R ns S ns' id 0 := by
  subst hz
  exact ⟨h, fun z => absurd rfl z⟩
theorem al_fail {ns ns' : List Nd} {R id : Nat} {S : Sp} {e : Int} (h : AlW ns ns' R S (2 ^ S.may.length) e id) (hz : ¬ e = 0) : AlO R ns S ns' 0 e :=
  ⟨⟨by omega, h.pre, h.st, fun z => absurd z hz⟩, fun _ => rfl⟩
theorem al_ers {ns ns' : List Nd} {R id : Nat} {S : Sp} {e : Int} (h : AlO R ns S ns' id e) : e = 0 ∨ e = 5 := by
  obtain ⟨c, s⟩ := h.1.st
  exact s.ers
theorem al_is {ns ns' : List Nd} {R id : Nat} {S : Sp} {e : Int} (hr : rightS S = true) (h : AlO R ns S ns' id e) (he : e = 0) : Is ns' id (memsT (allR S) (allR S).length) := by
  rw [memsT_all]
  refine Is.ofS h.1.v (inc_ofI _) fun x => ?_
  rw [mem_ofI, List.mem_map]
  constructor
  · rintro ⟨y, hy, rfl⟩
    have hy' : M ns' id y := hy
    rw [h.1.m he] at hy'
    obtain ⟨r, h1, h2⟩ := (all_rows hr).1 hy'
    exact ⟨r, h1, by unfold memI; rw [h2]⟩
  · rintro ⟨r, h1, rfl⟩
    refine ⟨memRw r, ?_, rfl⟩
    show M ns' id (memRw r)
    rw [h.1.m he]
    exact (all_rows hr).2 ⟨r, h1, rfl⟩
theorem allR_lt {S : Sp} (hr : rightS S = true) : ∀ x, x ∈ allR S → x.c.m < 256 ∧ x.c.v < 256 ∧ x.o < 256 := fun x hx => by
  obtain ⟨h8, hn, h4⟩ := right_nN hr
  have h16 := pow4 h4
  have h256 := pow_le256 h8
  have hp := (mem_allR hr).1 hx
  have h1 := (primeR_iff.1 hp).2.2
  have h2 := (inR_lt (primeR_iff.1 hp).1).1
  rw [hn] at h1
  obtain ⟨g1, _, _⟩ := (prime_iff h8).1 h1
  have hv : x.c.v < 2 ^ nN S := lt_two.2 fun j hj => by rw [bit_of_right g1.v, lt_two.1 g1.m j hj, Bool.and_false]
  exact ⟨by have := g1.m; omega, by omega, by omega⟩
theorem allTo_len1 {S : Sp} (h8 : S.n ≤ 8) : ∀ o, (allTo S (o + 1)).length ≤ o * 65536
  | 0 => by simp [allTo]
  | o + 1 => by
    have ih := allTo_len1 h8 o
    have h1 := rowsTo_len S (o + 1) (primesL (comS S (o + 1)) S.n).length
    have h2 := primesL_len (s := comS S (o + 1)) h8
    rw [allTo, if_neg (by omega)]
    simp only [List.length_append]
    show (allTo S (o + 1)).length + (rowsTo S (o + 1) (primesL (comS S (o + 1)) S.n).length).length ≤ _
    omega
theorem allR_len {S : Sp} (hr : rightS S = true) : (allR S).length ≤ 983040 := by
  obtain ⟨h0, h8, _, h4, h5, _⟩ := rightS_iff.1 hr
  have h16 := pow4 (k := S.may.length) (by omega)
  have hp := Nat.two_pow_pos S.may.length
  have := allTo_len1 (S := S) h8 (2 ^ S.may.length - 1)
  rw [Nat.sub_add_cancel hp] at this
  have h2 : (2 ^ S.may.length - 1) * 65536 ≤ 15 * 65536 := Nat.mul_le_mul_right _ (by omega)
  exact Nat.le_trans this h2
/-- With few inputs there are few rows. -/
theorem allR_few {S : Sp} (hr : rightS S = true) (h4 : S.n ≤ 4) : (memsT (allR S) (allR S).length).length ≤ 100000 := by
  obtain ⟨h8, hn, hm⟩ := right_nN hr
  have h16 := pow4 hm
  rw [memsT_all]
  have hinc := inc_ofI ((allR S).map memI)
  have hb : ∀ x, x ∈ ofI ((allR S).map memI) → ∃ y : Nat, x = (y : Int) ∧ y % 65536 < 256 ∧ y / 65536 < 16 := fun x hx => by
    obtain ⟨r, h1, rfl⟩ := List.mem_map.1 (mem_ofI.1 hx)
    refine ⟨memRw r, rfl, ?_⟩
    have h2 := (primeR_iff.1 ((mem_allR hr).1 h1)).2.2
    rw [hn] at h2
    have h3 : memC r.c < 2 ^ (2 * nN S) := prs_lt (s := comS S r.o) h8 ⟨r.c, h2, rfl⟩
    have h5 : 2 ^ (2 * nN S) ≤ 2 ^ 8 := Nat.pow_le_pow_right (by decide) (by omega)
    have h6 : (2 : Nat) ^ 8 = 256 := rfl
    have h7 := Nat.mod_lt r.o (show 0 < 16 by decide)
    unfold memRw
    omega
  have := nodupN_le (l1 := (ofI ((allR S).map memI)).map Int.toNat) (l2 := (List.range 4096).map fun q => q % 256 + q / 256 * 65536) ?_ ?_
  · rw [List.length_map, List.length_map, List.length_range] at this
    omega
  · refine List.pairwise_map.2 (List.Pairwise.imp_of_mem (fun {a b} ha hb2 hab e => ?_) hinc)
    obtain ⟨y, rfl, _⟩ := hb a ha
    obtain ⟨z, rfl, _⟩ := hb b hb2
    rw [Int.toNat_natCast, Int.toNat_natCast] at e
    omega
  · intro x hx
    obtain ⟨z, hz, rfl⟩ := List.mem_map.1 hx
    obtain ⟨y, rfl, h1, h2⟩ := hb z hz
    rw [Int.toNat_natCast]
    refine List.mem_map.2 ⟨y % 65536 + y / 65536 * 256, List.mem_range.2 (by omega), ?_⟩
    omega

end Go.Proofs.Ytpamgfbecgjjeaa
