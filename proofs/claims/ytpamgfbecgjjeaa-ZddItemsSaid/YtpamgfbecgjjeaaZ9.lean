/-
  What the statements about families need: outcomes with room enough, the document's rows, and what they have to do with a family's members. No program in it.
-/
import Derived.Test.YtpamgfbecgjjeaaZ8
namespace Go.Proofs.Ytpamgfbecgjjeaa
set_option linter.unusedVariables false
set_option linter.unusedSimpArgs false
open Go Go.RowKit

/-! ### Room enough -/
structure Fine (ns ns' : List Nd) (c : Nat) (S : Nat → Prop) (id : Nat) : Prop where
  v : id < ns'.length + 2
  mem : ∀ x, x ∈ mems ns' id ↔ S x
  pre : ns <+: ns'
  cost : ns'.length ≤ ns.length + c
theorem Got.fine {ns ns' : List Nd} {R c l : Nat} {S : Nat → Prop} {id : Nat} {er : Int} (g : Got ns ns' R c l S id er) (h : ns.length + c < R) : er = 0 ∧ Fine ns ns' c S id := by
  have hc := g.cost
  rcases g.res with ⟨h1, h2, h3, h4⟩ | ⟨_, _, h3⟩
  · exact ⟨h1, h2, h4, g.pre, hc⟩
  · omega
theorem Got.valid {ns ns' : List Nd} {R c l : Nat} {S : Nat → Prop} {id : Nat} {er : Int} (g : Got ns ns' R c l S id er) : id < ns'.length + 2 := by
  rcases g.res with ⟨_, h2, _⟩ | ⟨_, h2, _⟩ <;> omega
theorem Fine.old {ns ns' : List Nd} {c : Nat} {S : Nat → Prop} {id f : Nat} (g : Fine ns ns' c S id) (h : f < ns.length + 2) : f < ns'.length + 2 ∧ mems ns' f = mems ns f := ⟨by have := pre_len g.pre; omega, mems_pre g.pre h⟩
theorem card_bS {ns : List Nd} (h : Wf ns) {id : Nat} (hid : id < ns.length + 2) {l : List Int} (hm : ∀ x, x ∈ mems ns id ↔ bS l 0 x) : (mems ns id).length ≤ l.length := by
  have := nodupN_le (l2 := l.map Int.toNat) (mems_nodup h id hid) (fun x hx => by
    obtain ⟨m, h1, h2⟩ := (hm x).1 hx
    rw [clr_0] at h2
    exact List.mem_map.2 ⟨m, h1, h2.symm⟩)
  simpa using this
theorem card_app {ns ns' : List Nd} (h : Wf ns') {id a b : Nat} (hid : id < ns'.length + 2) (hs : ∀ x, x ∈ mems ns' id → x ∈ mems ns a ∨ x ∈ mems ns b) : (mems ns' id).length ≤ (mems ns a).length + (mems ns b).length := by
  have := nodupN_le (l2 := mems ns a ++ mems ns b) (mems_nodup h id hid) (fun x hx => List.mem_append.2 (hs x hx))
  rwa [List.length_append] at this
theorem cst_le (k a b : Nat) (hk : k ≤ 24) : cstP k a b ≤ 24 * a ∧ cstP k a b ≤ 24 * b := ⟨Nat.mul_le_mul hk (Nat.min_le_left _ _), Nat.mul_le_mul hk (Nat.min_le_right _ _)⟩
theorem tri_24 : tri 24 = 300 := rfl
theorem cstJ_le (k a b A B : Nat) (hk : k ≤ 24) (ha : a ≤ A) (hb : b ≤ B) : opJ.cst k a b ≤ 300 * (A * B) := Nat.mul_le_mul (by have := tri_mono hk; rw [tri_24] at this; exact this) (Nat.mul_le_mul ha hb)
theorem lc_le (k n N : Nat) (hk : k ≤ 24) (hn : n ≤ N) : lc k n ≤ 24 * N + 24 * (N * N) := Nat.add_le_add (Nat.mul_le_mul hk hn) (Nat.mul_le_mul hk (Nat.mul_le_mul hn hn))

/-! ### Slices whose block's type is known -/
def TyS (T : TypeId) (w : World) (v : Value) (l : List Int) : Prop := l ≠ [] → ∃ c fr, w.heap[slB v]? = some (.cells c T fr)
section
variable {T Ta Tn : TypeId} {N ba bm R : Nat} {w w' : World} {v : Value} {l : List Int} {ns : List Nd}
theorem TyS.own (h : OwT encI 1 T w N v l) : TyS T w v l := fun hne => by
  obtain ⟨h1, h2 | ⟨g, cap, cur, h3, hg, hh, r⟩⟩ := h
  · exact absurd (List.eq_nil_of_length_eq_zero h2.2) hne
  · subst h3
    exact ⟨_, _, hh⟩
theorem TyS.ext (h : Ext w w') (k : TyS T w v l) : TyS T w' v l := fun hne => by
  obtain ⟨c, fr, hc⟩ := k hne
  exact ⟨c, fr, by rw [Below.block h _ (lt_of_block hc)]; exact hc⟩
theorem TyS.blk (D : Dia Ta Tn N ba bm R w ns) (hx : Dx Tn N [ba, bm] w w') (k : TyS T w v l) (hTa : T ≠ Ta) (hTn : T ≠ Tn) (hne : l ≠ []) : w'.heap[slB v]? = w.heap[slB v]? := by
  obtain ⟨c, fr, hc⟩ := k hne
  obtain ⟨nv, h1, h2⟩ := D.out
  obtain ⟨f, ck, hf⟩ := D.hm
  refine hx.block _ (lt_of_block hc) (.inr ⟨?_, fun c' fr' e => ?_⟩)
  · have n1 : slB v ≠ ba := fun e => by
      have h3 : w.heap[ba]? = _ := h1
      rw [e, h3] at hc
      simp only [Option.some.injEq, Obj.cells.injEq] at hc
      exact hTa hc.2.1.symm
    have n2 : slB v ≠ bm := fun e => by rw [e, hf.heap] at hc; cases hc
    simp [n1, n2]
  · rw [hc] at e
    simp only [Option.some.injEq, Obj.cells.injEq] at e
    exact hTn e.2.1
theorem TyS.dx (D : Dia Ta Tn N ba bm R w ns) (hx : Dx Tn N [ba, bm] w w') (k : TyS T w v l) (hTa : T ≠ Ta) (hTn : T ≠ Tn) : TyS T w' v l := fun hne => by
  rw [TyS.blk D hx k hTa hTn hne]
  exact k hne
theorem SlT.dx (D : Dia Ta Tn N ba bm R w ns) (hx : Dx Tn N [ba, bm] w w') (k : TyS T w v l) (hs : SlT encI 1 w v l) (hTa : T ≠ Ta) (hTn : T ≠ Tn) : SlT encI 1 w' v l := by
  have hs' : Sl w 1 v l.length (l.flatMap encI) := hs
  refine ⟨hs'.form, hs'.len, fun j u hu => ?_⟩
  have hne : l ≠ [] := fun e => by subst e; simp at hu
  have h1 := hs'.cell j u hu
  have e := TyS.blk D hx k hTa hTn hne
  unfold World.cell? at h1 ⊢
  rw [e]; exact h1
theorem TyS.part (k : TyS T w v l) (hs : SlT encI 1 w v l) {i j m : Nat} {l2 : List Int} (hj : j ≤ m) (hl : l2.length = j - i) (hl0 : l2 ≠ [] → l ≠ []) : TyS T w (slOf 1 v i j m) l2 := fun hne => by
  obtain ⟨c, fr, hc⟩ := k (hl0 hne)
  have hpos : 0 < l2.length := List.length_pos_iff.2 hne
  have hmi : ¬ m = i := by omega
  obtain ⟨hv, hn, h0, ha⟩ := Sl.eqv hs
  cases hA : slA v with
  | none =>
    have := h0 hA
    have : l = [] := List.eq_nil_of_length_eq_zero (by omega)
    exact absurd this (hl0 hne)
  | some a =>
    have hb : slB (slOf 1 v i j m) = slB v := by
      have e1 : slB v = a.block := by rw [hv, hA]; rfl
      rw [e1]
      unfold slOf
      rw [if_neg hmi, hA]
      show (a.add (i * 1)).block = a.block
      unfold Addr.add
      split <;> rfl
    rw [hb]
    exact ⟨c, fr, hc⟩
end

/-! ### The document's rows -/
theorem may_dec {m : Int} : decide (0 ≤ m ∧ m < 16777216) = decide (0 ≤ m ∧ m < 16777216) := rfl
def mayTo (l : List Int) (k : Nat) : Bool := ofZB (l.take k)
theorem mayTo_s {l : List Int} {k : Nat} (h : k < l.length) : mayTo l (k + 1) = (mayTo l k && decide (0 ≤ l.getD k 0 ∧ l.getD k 0 < 16777216)) := by
  unfold mayTo ofZB
  rw [take_s h, List.all_append]
  simp
theorem mayTo_t {l : List Int} {k : Nat} (h : k < l.length) (hm : mayTo l k = true) : decide (0 ≤ l.getD k 0 ∧ l.getD k 0 < 16777216) = mayTo l (k + 1) := by rw [mayTo_s h, hm, Bool.true_and]
theorem mayTo_f {l : List Int} {k : Nat} (h : k < l.length) (hm : mayTo l k = false) : false = mayTo l (k + 1) := by rw [mayTo_s h, hm]; rfl
theorem mayTo_0 (l : List Int) : true = mayTo l 0 := rfl
theorem mayTo_e {l : List Int} {k : Nat} (h : k = l.length) : mayTo l k = ofZB l := by unfold mayTo; rw [h, List.take_length]
theorem and_t {a b c : Bool} (h : (a && b) = true) (k : c = (a && true)) : True := trivial
def pickI (F G : List Int) (b : Bool) : List Int := F.filter fun x => decide (x ∈ G) == b
def pickTo (F G : List Int) (b : Bool) (k : Nat) : List Int := (F.take k).filter fun x => decide (x ∈ G) == b
theorem pick_t {F G : List Int} {b : Bool} {k : Nat} (hk : k < F.length) (h : decide (F.getD k 0 ∈ G) = b) : pickTo F G b k ++ [F.getD k 0] = pickTo F G b (k + 1) := by
  unfold pickTo
  rw [take_s hk, List.filter_append]
  simp only [List.filter_cons, List.filter_nil, h, beq_self_eq_true, if_true]
theorem pick_f {F G : List Int} {b : Bool} {k : Nat} (hk : k < F.length) (h : ¬ decide (F.getD k 0 ∈ G) = b) : pickTo F G b k = pickTo F G b (k + 1) := by
  unfold pickTo
  rw [take_s hk, List.filter_append]
  have : (decide (F.getD k 0 ∈ G) == b) = false := by simpa using h
  simp only [List.filter_cons, List.filter_nil, this]
  simp
theorem pick_e (F G : List Int) (b : Bool) : pickTo F G b F.length = pickI F G b := by unfold pickTo pickI; rw [List.take_length]
theorem pickTo_len (F G : List Int) (b : Bool) (k : Nat) : (pickTo F G b k).length ≤ k := Nat.le_trans (List.length_filter_le _ _) (by rw [List.length_take]; omega)
theorem inc_filter {l : List Int} (h : Inc l) (p : Int → Bool) : Inc (l.filter p) := List.Pairwise.filter p h
theorem has_t {l : List Int} {m : Int} {k : Nat} (hk : k < l.length) (h : l.getD k 0 = m) : Value.bool true = .bool (decide (m ∈ l)) := vbt (decide_eq_true (h ▸ getD_mem hk))
theorem has_f {l : List Int} {m : Int} {k : Nat} (hk : k = l.length) (h : ∀ q, q < k → ¬ l.getD q 0 = m) : Value.bool false = .bool (decide (m ∈ l)) := vbf fun hm => by
  obtain ⟨j, hj, e⟩ := List.getElem_of_mem (of_decide_eq_true hm)
  refine h j (by omega) ?_
  rw [List.getD_eq_getElem?_getD, List.getElem?_eq_getElem hj]; exact e
theorem half_s (m i : Nat) : m / 2 ^ i / 2 = m / 2 ^ (i + 1) := by rw [Nat.div_div_eq_div_mul, Nat.pow_succ]
theorem bit_rem (m i : Nat) : Value.bool (decide (((m / 2 ^ i % 2 : Nat) : Int) = 1)) = .bool (m.testBit i) := congrArg Value.bool (by
  rw [Nat.testBit_eq_decide_div_mod_eq]
  by_cases h : m / 2 ^ i % 2 = 1
  · rw [decide_eq_true h, decide_eq_true (by omega)]
  · rw [decide_eq_false h, decide_eq_false (by omega)])
theorem both_s (n i : Nat) : n % 2 ^ (i + 1) = n % 2 ^ i + (if n.testBit i then 2 ^ i else 0) := by
  rw [Nat.mod_pow_succ, Nat.testBit_eq_decide_div_mod_eq]
  by_cases h : n / 2 ^ i % 2 = 1
  · rw [h, if_pos (decide_eq_true rfl), Nat.mul_one]
  · rw [show n / 2 ^ i % 2 = 0 by omega, if_neg (by decide)]; omega
theorem both_t {a b i : Nat} (h : a.testBit i = true ∨ b.testBit i = true) : (((a ||| b) % 2 ^ i : Nat) : Int) + ((2 ^ i : Nat) : Int) = (((a ||| b) % 2 ^ (i + 1) : Nat) : Int) := by
  have e : (a ||| b).testBit i = true := by rw [Nat.testBit_or]; rcases h with h | h <;> simp [h]
  rw [both_s, if_pos e]; omega
theorem both_f {a b i : Nat} (h : a.testBit i = false) (k : b.testBit i = false) : (((a ||| b) % 2 ^ i : Nat) : Int) = (((a ||| b) % 2 ^ (i + 1) : Nat) : Int) := by
  have e : (a ||| b).testBit i = false := by rw [Nat.testBit_or, h, k]; rfl
  rw [both_s, if_neg (by rw [e]; decide)]; omega
theorem both_e {a b i : Nat} (hi : i = 24) (ha : a < 16777216) (hb : b < 16777216) : (a ||| b) % 2 ^ i = a ||| b := by
  subst hi
  exact Nat.mod_eq_of_lt (Nat.or_lt_two_pow (n := 24) ha hb)
theorem pow_le24 {i : Nat} (h : i ≤ 24) : 2 ^ i ≤ 16777216 := Nat.pow_le_pow_right (by decide) h
theorem pow_s (i : Nat) : ((2 ^ i : Nat) : Int) * 2 = ((2 ^ (i + 1) : Nat) : Int) := by rw [Nat.pow_succ]; omega
theorem pow_s2 (i : Nat) : 2 * ((2 ^ i : Nat) : Int) = ((2 ^ (i + 1) : Nat) : Int) := by rw [Nat.pow_succ]; omega
def partI (l : List Int) (j : Nat) (wi : Bool) : List Int := l.filterMap fun m => if m.toNat.testBit j then (if wi then some (m - ((2 ^ j : Nat) : Int)) else none) else (if wi then none else some m)
def partTo (l : List Int) (j : Nat) (wi : Bool) (k : Nat) : List Int := partI (l.take k) j wi
theorem part_s {l : List Int} {j : Nat} {wi : Bool} {k : Nat} (hk : k < l.length) : partTo l j wi (k + 1) = partTo l j wi k ++ partI [l.getD k 0] j wi := by
  unfold partTo
  rw [take_s hk]
  unfold partI
  rw [List.filterMap_append]
theorem part_1 {l : List Int} {j k : Nat} (hk : k < l.length) (h : (l.getD k 0).toNat.testBit j = true) : partTo l j true k ++ [l.getD k 0 - ((2 ^ j : Nat) : Int)] = partTo l j true (k + 1) ∧ partTo l j false k = partTo l j false (k + 1) := by
  rw [part_s hk, part_s hk]
  unfold partI
  simp only [List.filterMap_cons, List.filterMap_nil, h, if_true]
  simp
theorem part_2 {l : List Int} {j k : Nat} (hk : k < l.length) (h : (l.getD k 0).toNat.testBit j = false) : partTo l j true k = partTo l j true (k + 1) ∧ partTo l j false k ++ [l.getD k 0] = partTo l j false (k + 1) := by
  rw [part_s hk, part_s hk]
  unfold partI
  simp only [List.filterMap_cons, List.filterMap_nil, h]
  simp
theorem partTo_len (l : List Int) (j : Nat) (wi : Bool) (k : Nat) : (partTo l j wi k).length ≤ k := by
  unfold partTo partI
  refine Nat.le_trans (List.length_filterMap_le _ _) ?_
  rw [List.length_take]; omega
theorem part_e (l : List Int) (j : Nat) (wi : Bool) : partTo l j wi l.length = partI l j wi := by unfold partTo; rw [List.take_length]
theorem mem_partI {l : List Int} {j : Nat} {wi : Bool} {x : Int} : x ∈ partI l j wi ↔ ∃ m, m ∈ l ∧ ((wi = true ∧ m.toNat.testBit j = true ∧ x = m - ((2 ^ j : Nat) : Int)) ∨ (wi = false ∧ m.toNat.testBit j = false ∧ x = m)) := by
  unfold partI
  rw [List.mem_filterMap]
  constructor
  · rintro ⟨m, h1, h2⟩
    refine ⟨m, h1, ?_⟩
    cases hb : m.toNat.testBit j <;> cases wi <;> simp [hb] at h2 <;> simp [h2]
  · rintro ⟨m, h1, h | h⟩
    · obtain ⟨rfl, hb, rfl⟩ := h
      exact ⟨m, h1, by simp [hb]⟩
    · obtain ⟨rfl, hb, rfl⟩ := h
      exact ⟨x, h1, by simp [hb]⟩
theorem inc_partI {l : List Int} (h : Inc l) (j : Nat) (wi : Bool) : Inc (partI l j wi) := by
  unfold partI
  refine List.Pairwise.filterMap _ (fun a b hab x hx y hy => ?_) h
  cases ha : a.toNat.testBit j <;> cases hb : b.toNat.testBit j <;> cases wi <;> simp [ha, hb] at hx hy <;> omega
/-- Is the i-th the least of the first k others? -/
def leB (l : List Int) (i k : Nat) : Bool := (List.range k).all fun q => decide (q = i) || !decide (((l.getD i 0).toNat ||| (l.getD q 0).toNat : Nat) = (l.getD i 0).toNat)
theorem leB_s (l : List Int) (i k : Nat) : leB l i (k + 1) = (leB l i k && (decide (k = i) || !decide (((l.getD i 0).toNat ||| (l.getD k 0).toNat : Nat) = (l.getD i 0).toNat))) := by
  unfold leB
  rw [List.range_succ, List.all_append]
  simp
def leastTo (l : List Int) (k : Nat) : List Int := ((List.range k).filter fun i => leB l i l.length).map fun i => l.getD i 0
theorem least_t {l : List Int} {k : Nat} (h : leB l k l.length = true) : leastTo l k ++ [l.getD k 0] = leastTo l (k + 1) := by
  unfold leastTo
  rw [List.range_succ, List.filter_append, List.map_append]
  simp [h]
theorem least_f {l : List Int} {k : Nat} (h : leB l k l.length = false) : leastTo l k = leastTo l (k + 1) := by
  unfold leastTo
  rw [List.range_succ, List.filter_append, List.map_append]
  simp [h]
theorem leastTo_len (l : List Int) (k : Nat) : (leastTo l k).length ≤ k := by
  unfold leastTo
  rw [List.length_map]
  exact Nat.le_trans (List.length_filter_le _ _) (by simp)

theorem prt_1 {l : List Int} {j k : Nat} {wi : Bool} (hk : k < l.length) (h : (l.getD k 0).toNat.testBit j = true) (hw : wi = true) : partTo l j wi k ++ [l.getD k 0 - ((2 ^ j : Nat) : Int)] = partTo l j wi (k + 1) := by subst hw; exact (part_1 hk h).1
theorem prt_2 {l : List Int} {j k : Nat} {wi : Bool} (hk : k < l.length) (h : (l.getD k 0).toNat.testBit j = true) (hw : wi = false) : partTo l j wi k = partTo l j wi (k + 1) := by subst hw; exact (part_1 hk h).2
theorem prt_3 {l : List Int} {j k : Nat} {wi : Bool} (hk : k < l.length) (h : (l.getD k 0).toNat.testBit j = false) (hw : (!wi) = true) : partTo l j wi k ++ [l.getD k 0] = partTo l j wi (k + 1) := by
  cases wi with
  | true => cases hw
  | false => exact (part_2 hk h).2
theorem prt_4 {l : List Int} {j k : Nat} {wi : Bool} (hk : k < l.length) (h : (l.getD k 0).toNat.testBit j = false) (hw : (!wi) = false) : partTo l j wi k = partTo l j wi (k + 1) := by
  cases wi with
  | true => exact (part_2 hk h).1
  | false => cases hw
theorem le_e {l : List Int} {i k : Nat} (h : ¬ ¬ (k : Int) = (i : Int)) : Value.bool (leB l i k) = .bool (leB l i (k + 1)) := by
  have : k = i := by have := Decidable.of_not_not h; omega
  rw [leB_s, decide_eq_true this, Bool.true_or, Bool.and_true]
theorem le_t {l : List Int} {i k : Nat} (h : ¬ (k : Int) = (i : Int)) (h0 : 0 ≤ l.getD i 0) (hx : (((l.getD i 0).toNat ||| (l.getD k 0).toNat : Nat) : Int) = l.getD i 0) : Value.bool false = .bool (leB l i (k + 1)) := by
  rw [leB_s, decide_eq_false (show ¬ k = i by omega), decide_eq_true (show ((l.getD i 0).toNat ||| (l.getD k 0).toNat : Nat) = (l.getD i 0).toNat by omega)]
  simp
theorem le_f {l : List Int} {i k : Nat} (h : ¬ (k : Int) = (i : Int)) (h0 : 0 ≤ l.getD i 0) (hx : ¬ (((l.getD i 0).toNat ||| (l.getD k 0).toNat : Nat) : Int) = l.getD i 0) : Value.bool (leB l i k) = .bool (leB l i (k + 1)) := by
  rw [leB_s, decide_eq_false (show ¬ k = i by omega), decide_eq_false (show ¬ ((l.getD i 0).toNat ||| (l.getD k 0).toNat : Nat) = (l.getD i 0).toNat by omega)]
  simp
theorem with_new {l : List Int} {m : Int} {k : Nat} (hk : k ≤ l.length) (h1 : ∀ q, q < k → l.getD q 0 < m) (h2 : k < l.length → ¬ l.getD k 0 < m ∧ ¬ l.getD k 0 = m) : (([] ++ (l.drop 0).take (k - 0)) ++ [m]) ++ (l.drop k).take (l.length - k) = withI l m := by
  rw [← with_at l k hk h1 h2, List.drop_zero, Nat.sub_zero, List.nil_append, List.take_of_length_le (l := l.drop k) (by simp)]

/-! ### Rows and families -/
theorem srt_of {ns : List Nd} {a : Nat} {f : List Int} (hf : ofZB f = true) (hm : ∀ x, x ∈ mems ns a ↔ bS f 0 x) : srtM ns a = ofI f := by
  unfold srtM
  refine ofI_eq (inc_ofI _) fun x => ?_
  rw [mem_ofI, List.mem_map]
  have h0 := ofB_iff.1 hf
  constructor
  · rintro ⟨y, hy, rfl⟩
    obtain ⟨m, h1, h2⟩ := (hm y).1 hy
    rw [clr_0] at h2
    have := h0 m h1
    rw [h2, Int.toNat_of_nonneg this.1]; exact h1
  · intro h
    have := h0 x h
    exact ⟨x.toNat, (hm _).2 ⟨x, h, (clr_0 _).symm⟩, Int.toNat_of_nonneg this.1⟩
theorem inc_srtM (ns : List Nd) (a : Nat) : Inc (srtM ns a) := inc_ofI _
theorem srt_un {ns ns' : List Nd} {a b u : Nat} {f g : List Int} (ha : srtM ns a = ofI f) (hb : srtM ns b = ofI g) (hu : ∀ x, x ∈ mems ns' u ↔ opU.res (M ns a) (M ns b) x) : srtM ns' u = ofI (f ++ g) := ofI_eq (inc_srtM _ _) fun x => by
  rw [List.mem_append, ← mem_ofI (l := f), ← mem_ofI (l := g), ← ha, ← hb, mem_srtM, mem_srtM, mem_srtM]
  constructor
  · rintro ⟨y, hy, rfl⟩
    exact ((hu y).1 hy).imp (fun h => ⟨y, h, rfl⟩) (fun h => ⟨y, h, rfl⟩)
  · rintro (⟨y, hy, rfl⟩ | ⟨y, hy, rfl⟩)
    · exact ⟨y, (hu y).2 (.inl hy), rfl⟩
    · exact ⟨y, (hu y).2 (.inr hy), rfl⟩
theorem nat_in {ns : List Nd} {b y : Nat} : ((y : Nat) : Int) ∈ srtM ns b ↔ y ∈ mems ns b := by
  rw [mem_srtM]
  exact ⟨fun ⟨z, h1, h2⟩ => by rw [show y = z by omega]; exact h1, fun h => ⟨y, h, rfl⟩⟩
theorem srt_me {ns ns' : List Nd} {a b u : Nat} {F G : List Int} (ha : srtM ns a = F) (hb : srtM ns b = G) (hu : ∀ x, x ∈ mems ns' u ↔ opM.res (M ns a) (M ns b) x) : srtM ns' u = pickI F G true := by
  subst ha hb
  refine inc_ext (inc_srtM _ _) (inc_filter (inc_srtM _ _) _) fun x => ?_
  unfold pickI
  rw [List.mem_filter, mem_srtM]
  constructor
  · rintro ⟨y, hy, rfl⟩
    obtain ⟨h1, h2⟩ := (hu y).1 hy
    exact ⟨nat_in.2 h1, by rw [decide_eq_true (nat_in.2 h2)]; rfl⟩
  · rintro ⟨h1, h2⟩
    obtain ⟨y, hy, rfl⟩ := mem_srtM.1 h1
    have h3 : ((y : Nat) : Int) ∈ srtM ns b := by simpa using h2
    exact ⟨y, (hu y).2 ⟨hy, nat_in.1 h3⟩, rfl⟩
theorem srt_le {ns ns' : List Nd} {a b u : Nat} {F G : List Int} (ha : srtM ns a = F) (hb : srtM ns b = G) (hu : ∀ x, x ∈ mems ns' u ↔ opL.res (M ns a) (M ns b) x) : srtM ns' u = pickI F G false := by
  subst ha hb
  refine inc_ext (inc_srtM _ _) (inc_filter (inc_srtM _ _) _) fun x => ?_
  unfold pickI
  rw [List.mem_filter, mem_srtM]
  constructor
  · rintro ⟨y, hy, rfl⟩
    obtain ⟨h1, h2⟩ := (hu y).1 hy
    exact ⟨nat_in.2 h1, by rw [decide_eq_false (fun k => h2 (nat_in.1 k))]; rfl⟩
  · rintro ⟨h1, h2⟩
    obtain ⟨y, hy, rfl⟩ := mem_srtM.1 h1
    have h3 : ¬ ((y : Nat) : Int) ∈ srtM ns b := by simpa using h2
    exact ⟨y, (hu y).2 ⟨hy, fun k => h3 (nat_in.2 k)⟩, rfl⟩
theorem srt_pa {ns ns' : List Nd} {a u j : Nat} {wi : Bool} {F : List Int} (ha : srtM ns a = F) (hu : ∀ x, x ∈ mems ns' u ↔ pS wi j (M ns a) x) : srtM ns' u = partI F j wi := by
  subst ha
  refine inc_ext (inc_srtM _ _) (inc_partI (inc_srtM _ _) _ _) fun x => ?_
  rw [mem_srtM, mem_partI]
  constructor
  · rintro ⟨y, hy, rfl⟩
    have h := (hu y).1 hy
    cases wi with
    | true =>
      have h1 : M ns a (y + 2 ^ j) ∧ (y + 2 ^ j).testBit j = true := h
      exact ⟨((y + 2 ^ j : Nat) : Int), nat_in.2 h1.1, .inl ⟨rfl, by rw [Int.toNat_natCast]; exact h1.2, by omega⟩⟩
    | false =>
      have h1 : M ns a y ∧ y.testBit j = false := h
      exact ⟨((y : Nat) : Int), nat_in.2 h1.1, .inr ⟨rfl, by rw [Int.toNat_natCast]; exact h1.2, rfl⟩⟩
  · rintro ⟨m, hm, h | h⟩
    · obtain ⟨rfl, hb, rfl⟩ := h
      obtain ⟨z, hz, rfl⟩ := mem_srtM.1 hm
      rw [Int.toNat_natCast] at hb
      have hle := bit_sub hb
      refine ⟨z - 2 ^ j, (hu _).2 ?_, by omega⟩
      exact ⟨by rw [Nat.sub_add_cancel hle]; exact hz, by rw [Nat.sub_add_cancel hle]; exact hb⟩
    · obtain ⟨rfl, hb, rfl⟩ := h
      obtain ⟨z, hz, rfl⟩ := mem_srtM.1 hm
      rw [Int.toNat_natCast] at hb
      exact ⟨z, (hu _).2 ⟨hz, hb⟩, rfl⟩
theorem srt_ls {ns ns' : List Nd} {a u : Nat} {F : List Int} (ha : srtM ns a = F) (hu : ∀ x, x ∈ mems ns' u ↔ lsS (M ns a) x) : srtM ns' u = leastTo F F.length := by
  subst ha
  have hi := inc_srtM ns a
  have hil : Inc (leastTo (srtM ns a) (srtM ns a).length) := by
    unfold leastTo
    rw [Inc, List.pairwise_map]
    refine List.Pairwise.filter _ ?_
    refine List.Pairwise.imp_of_mem (fun {i k} h1 h2 h3 => ?_) List.pairwise_lt_range
    have h4 := List.mem_range.1 h1
    have h5 := List.mem_range.1 h2
    have := List.pairwise_iff_getElem.1 hi i k h4 h5 h3
    rw [List.getD_eq_getElem?_getD, List.getD_eq_getElem?_getD, List.getElem?_eq_getElem h4, List.getElem?_eq_getElem h5]
    exact this
  refine inc_ext (inc_srtM _ _) hil fun x => ?_
  unfold leastTo
  rw [mem_srtM, List.mem_map]
  have hg : ∀ q, q < (srtM ns a).length → ∃ z : Nat, z ∈ mems ns a ∧ (srtM ns a).getD q 0 = (z : Int) := fun q hq => mem_srtM.1 (getD_mem hq)
  constructor
  · rintro ⟨y, hy, rfl⟩
    obtain ⟨h1, h2⟩ := (hu y).1 hy
    obtain ⟨i, hi2, e⟩ := List.getElem_of_mem (nat_in.2 h1)
    have e2 : (srtM ns a).getD i 0 = (y : Int) := by rw [List.getD_eq_getElem?_getD, List.getElem?_eq_getElem hi2]; exact e
    refine ⟨i, List.mem_filter.2 ⟨List.mem_range.2 hi2, ?_⟩, e2⟩
    unfold leB
    rw [List.all_eq_true]
    intro q hq
    have hq := List.mem_range.1 hq
    obtain ⟨z, hz, ez⟩ := hg q hq
    by_cases hqi : q = i
    · rw [decide_eq_true hqi]; rfl
    · rw [decide_eq_false hqi, Bool.false_or, e2, ez, Int.toNat_natCast, Int.toNat_natCast]
      rw [decide_eq_false]
      · rfl
      · intro hh
        have h3 := h2 z hz hh
        subst h3
        have hne := hi.nodup
        have : (srtM ns a)[q] = (srtM ns a)[i] := by
          rw [List.getD_eq_getElem?_getD, List.getElem?_eq_getElem hq] at ez
          exact (show (srtM ns a)[q] = (z : Int) from ez).trans e.symm
        exact hqi ((List.getElem_inj hne).1 this)
  · rintro ⟨i, h, rfl⟩
    obtain ⟨h1, h2⟩ := List.mem_filter.1 h
    have h1 := List.mem_range.1 h1
    obtain ⟨y, hy, ey⟩ := hg i h1
    refine ⟨y, (hu y).2 ⟨hy, fun z hz hh => ?_⟩, ey⟩
    obtain ⟨q, hq, e⟩ := List.getElem_of_mem (nat_in.2 hz)
    have e2 : (srtM ns a).getD q 0 = (z : Int) := by rw [List.getD_eq_getElem?_getD, List.getElem?_eq_getElem hq]; exact e
    unfold leB at h2
    have h3 := List.all_eq_true.1 h2 q (List.mem_range.2 hq)
    rw [ey, e2, Int.toNat_natCast, Int.toNat_natCast, Bool.or_eq_true] at h3
    rcases h3 with h3 | h3
    · have := of_decide_eq_true h3
      subst this
      rw [ey] at e2; omega
    · have : ¬ (y ||| z : Nat) = y := by simpa using h3
      exact absurd hh this
theorem same_ids {ns : List Nd} (h : Wf ns) {a b : Nat} (ha : a < ns.length + 2) (hb : b < ns.length + 2) : decide ((a : Int) = (b : Int)) = decide (srtM ns a = srtM ns b) := by
  by_cases e : a = b
  · subst e; rw [decide_eq_true rfl, decide_eq_true rfl]
  · rw [decide_eq_false (by omega), decide_eq_false]
    intro hs
    exact e (one_id h a ha b hb fun x => by rw [← nat_in, ← nat_in, hs])

end Go.Proofs.Ytpamgfbecgjjeaa
