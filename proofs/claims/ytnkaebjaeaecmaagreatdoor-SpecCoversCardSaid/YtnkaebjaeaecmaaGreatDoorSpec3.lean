/-
  What a table asks for, in plain words. No program in it. The words of the statements of layer 4. No program in it. Specs alike, and the document's reading of a table, in plain words. No program in it.
-/
import Derived.Test.YtnkaebjaeaecmaaGreatDoorPars2
import Derived.Test.YtnkaebjaeaecmaaGreatDoorCov
namespace Go.Proofs.YtnkaebjaeaecmaaGreatDoor

section
set_option linter.unusedVariables false
set_option linter.unusedSimpArgs false
open Go Go.RowKit

/-! ### The points of lines that have a mark -/
def mkTo (T : Tb) (o : Nat) (m : Int) : Nat → Nat
  | 0 => 0
  | k + 1 => if (T.ls.getD k ln0).os.getD o 0 = m then mkTo T o m k ||| ptsS (T.ls.getD k ln0).c.m (T.ls.getD k ln0).c.v T.ni.toNat else mkTo T o m k
def mkS (T : Tb) (o : Nat) (m : Int) : Nat := mkTo T o m T.ls.length
def mayF (k : Int) (all ones nz fr : Nat) : Nat := if k = 0 then ones else if k = 1 then ones ||| fr else andNot all nz
def mayT (T : Tb) (o : Nat) : Nat := mayF T.kind (allS T.ni.toNat) (mkS T o 1) (mkS T o 0) (mkS T o 2)
def clash (T : Tb) (o : Nat) : Bool := decide (2 ≤ T.kind) && decide (mkS T o 1 &&& mkS T o 0 ≠ 0)
def onTo (T : Tb) (k : Nat) : List Nat := (List.range k).map fun o => mkS T o 1
def mayTo_ (T : Tb) (k : Nat) : List Nat := (List.range k).map (mayT T)
def specT (T : Tb) : Sp := ⟨T.ni, onTo T T.no.toNat, mayTo_ T T.no.toNat⟩
def ofE (T : Tb) : Int := if rightT T = true then (if (List.range T.no.toNat).any (clash T) = true then 4 else 0) else 1
section
variable {T : Tb} {o k p : Nat} {m : Int}
theorem mkTo_t (h : (T.ls.getD k ln0).os.getD o 0 = m) : mkTo T o m k ||| ptsS (T.ls.getD k ln0).c.m (T.ls.getD k ln0).c.v T.ni.toNat = mkTo T o m (k + 1) := (if_pos h).symm
theorem mkTo_f (h : ¬ (T.ls.getD k ln0).os.getD o 0 = m) : mkTo T o m k = mkTo T o m (k + 1) := (if_neg h).symm
theorem mkTo_bit (hn : T.ni.toNat ≤ 8) (p : Nat) : ∀ k, (mkTo T o m k).testBit p = true ↔ p < 2 ^ T.ni.toNat ∧ ∃ j, j < k ∧ (T.ls.getD j ln0).os.getD o 0 = m ∧ hold (T.ls.getD j ln0).c p
  | 0 => by simp [mkTo]
  | k + 1 => by
    have ih := mkTo_bit hn p k
    rw [mkTo]
    split
    · rename_i h
      rw [Nat.testBit_or, Bool.or_eq_true, ih, ptsS_testBit hn, Bool.and_eq_true, decide_eq_true_eq, decide_eq_true_eq]
      constructor
      · rintro (⟨h1, j, hj, r⟩ | ⟨h1, h2⟩)
        · exact ⟨h1, j, by omega, r⟩
        · exact ⟨h1, k, by omega, h, h2⟩
      · rintro ⟨h1, j, hj, r⟩
        rcases Nat.lt_succ_iff_lt_or_eq.1 hj with hj | rfl
        · exact .inl ⟨h1, j, hj, r⟩
        · exact .inr ⟨h1, r.2⟩
    · rename_i h
      rw [ih]
      constructor
      · rintro ⟨h1, j, hj, r⟩; exact ⟨h1, j, by omega, r⟩
      · rintro ⟨h1, j, hj, r⟩
        rcases Nat.lt_succ_iff_lt_or_eq.1 hj with hj | rfl
        · exact ⟨h1, j, hj, r⟩
        · exact absurd r.1 h
theorem right_n (h : rightT T = true) : T.ni.toNat ≤ 8 := by obtain ⟨_, _, _, h8, _⟩ := right_hd h; omega
theorem mkTo_out (hn : T.ni.toNat ≤ 8) (hp : 256 ≤ p) : (mkTo T o m k).testBit p = false := Bool.eq_false_iff.2 fun h => by
  have h1 := ((mkTo_bit hn p k).1 h).1
  have h2 : 2 ^ T.ni.toNat ≤ 256 := by
    have := Nat.pow_le_pow_right (show 0 < 2 by decide) hn
    simpa using this
  omega
theorem mkS_lt (hn : T.ni.toNat ≤ 8) : mkS T o m < 2 ^ 256 := lt_two.2 fun j hj => mkTo_out hn hj
theorem set_zero {s : Nat} (h : s < 2 ^ 256) : (((wd s 0 : Nat) : Int) = ((wd 0 0 : Nat) : Int) ∧ ((wd s 1 : Nat) : Int) = ((wd 0 1 : Nat) : Int) ∧ ((wd s 2 : Nat) : Int) = ((wd 0 2 : Nat) : Int) ∧ ((wd s 3 : Nat) : Int) = ((wd 0 3 : Nat) : Int)) ↔ s = 0 := by
  constructor
  · rintro ⟨h0, h1, h2, h3⟩
    exact set_ext h (by decide) (by omega) (by omega) (by omega) (by omega)
  · rintro rfl; exact ⟨rfl, rfl, rfl, rfl⟩
theorem and_lt {a b : Nat} (h : a < 2 ^ 256) : a &&& b < 2 ^ 256 := Nat.lt_of_le_of_lt Nat.and_le_left h
theorem clash_t (h2 : 2 ≤ T.kind) (hn : T.ni.toNat ≤ 8) (h : ¬ (((wd (mkS T o 1 &&& mkS T o 0) 0 : Nat) : Int) = ((wd 0 0 : Nat) : Int) ∧ ((wd (mkS T o 1 &&& mkS T o 0) 1 : Nat) : Int) = ((wd 0 1 : Nat) : Int) ∧ ((wd (mkS T o 1 &&& mkS T o 0) 2 : Nat) : Int) = ((wd 0 2 : Nat) : Int) ∧ ((wd (mkS T o 1 &&& mkS T o 0) 3 : Nat) : Int) = ((wd 0 3 : Nat) : Int))) : clash T o = true := by
  unfold clash
  rw [decide_eq_true h2, Bool.true_and]
  exact decide_eq_true fun e => h ((set_zero (and_lt (mkS_lt hn))).2 e)
theorem clash_f (hn : T.ni.toNat ≤ 8) (h : ¬ ¬ (((wd (mkS T o 1 &&& mkS T o 0) 0 : Nat) : Int) = ((wd 0 0 : Nat) : Int) ∧ ((wd (mkS T o 1 &&& mkS T o 0) 1 : Nat) : Int) = ((wd 0 1 : Nat) : Int) ∧ ((wd (mkS T o 1 &&& mkS T o 0) 2 : Nat) : Int) = ((wd 0 2 : Nat) : Int) ∧ ((wd (mkS T o 1 &&& mkS T o 0) 3 : Nat) : Int) = ((wd 0 3 : Nat) : Int))) : clash T o = false := by
  unfold clash
  rw [decide_eq_false (p := mkS T o 1 &&& mkS T o 0 ≠ 0) fun e => e ((set_zero (and_lt (mkS_lt hn))).1 (Decidable.of_not_not h)), Bool.and_false]
theorem clash_k (h : ¬ 2 ≤ T.kind) : clash T o = false := by unfold clash; rw [decide_eq_false h, Bool.false_and]
theorem onTo_succ (T : Tb) (k : Nat) : onTo T (k + 1) = onTo T k ++ [mkS T k 1] := by simp [onTo, List.range_succ]
theorem mayTo_succ (T : Tb) (k : Nat) : mayTo_ T (k + 1) = mayTo_ T k ++ [mayT T k] := by simp [mayTo_, List.range_succ]
theorem onTo_len (T : Tb) (k : Nat) : (onTo T k).length = k := by simp [onTo]
theorem mayTo_len_ (T : Tb) (k : Nat) : (mayTo_ T k).length = k := by simp [mayTo_]
theorem onTo_get (T : Tb) {n : Nat} (h : k < n) : (onTo T n).getD k 0 = mkS T k 1 := by simp [onTo, h]
theorem mayTo_get (T : Tb) {n : Nat} (h : k < n) : (mayTo_ T n).getD k 0 = mayT T k := by simp [mayTo_, h]
theorem ofE_1 (h : ¬ rightT T = true) : ofE T = 1 := if_neg h
theorem ofE_4 (h : rightT T = true) (ho : o < T.no.toNat) (hc : clash T o = true) : ofE T = 4 := by
  unfold ofE; rw [if_pos h, if_pos (List.any_eq_true.2 ⟨o, List.mem_range.2 ho, hc⟩)]
theorem ofE_0 (h : rightT T = true) (hc : ∀ o, o < T.no.toNat → clash T o = false) : ofE T = 0 := by
  unfold ofE
  rw [if_pos h, if_neg]
  intro k
  obtain ⟨o, ho, h2⟩ := List.any_eq_true.1 k
  rw [hc o (List.mem_range.1 ho)] at h2; cases h2
theorem ofE_0iff : ofE T = 0 ↔ rightT T = true ∧ ∀ o, o < T.no.toNat → clash T o = false := by
  constructor
  · intro h
    unfold ofE at h
    split at h
    · rename_i h1
      refine ⟨h1, fun o ho => Bool.eq_false_iff.2 fun hc => ?_⟩
      rw [if_pos (List.any_eq_true.2 ⟨o, List.mem_range.2 ho, hc⟩)] at h
      cases h
    · cases h
  · rintro ⟨h1, h2⟩; exact ofE_0 h1 h2
/-- Where an output's points clash nowhere, what must be on may be on; and all may be is within. -/
theorem may_bit (h : rightT T = true) (hc : clash T o = false) (p : Nat) : ((mkS T o 1).testBit p = true → (mayT T o).testBit p = true) ∧ ((mayT T o).testBit p = true → p < 2 ^ T.ni.toNat) := by
  have hn := right_n h
  have hb : ∀ m, (mkS T o m).testBit p = true → p < 2 ^ T.ni.toNat := fun m hm => ((mkTo_bit hn p _).1 hm).1
  unfold mayT mayF
  by_cases h0 : T.kind = 0
  · rw [if_pos h0]; exact ⟨id, hb 1⟩
  rw [if_neg h0]
  by_cases h1 : T.kind = 1
  · rw [if_pos h1, Nat.testBit_or, Bool.or_eq_true]
    exact ⟨.inl, fun q => q.elim (hb 1) (hb 2)⟩
  rw [if_neg h1, andNot_testBit, allS_testBit, Bool.and_eq_true, decide_eq_true_eq]
  refine ⟨fun q => ⟨hb 1 q, ?_⟩, fun q => q.1⟩
  obtain ⟨hk0, _⟩ := right_hd h
  unfold clash at hc
  rw [decide_eq_true (show 2 ≤ T.kind by omega), Bool.true_and] at hc
  have hz := Decidable.of_not_not (of_decide_eq_false hc)
  have h2 : (mkS T o 1 &&& mkS T o 0).testBit p = false := by rw [hz]; exact Nat.zero_testBit p
  rw [Nat.testBit_and, q, Bool.true_and] at h2
  rw [h2]; rfl
theorem spec_right (h : ofE T = 0) : rightS (specT T) = true := by
  obtain ⟨h1, h2⟩ := ofE_0iff.1 h
  obtain ⟨hk0, hk3, hi0, hi8, ho1, ho4, h64⟩ := right_hd h1
  refine rightS_iff.2 ⟨hi0, hi8, ?_, ?_, ?_, fun k hk => ?_⟩
  · show 1 ≤ (onTo T _).length; rw [onTo_len]; omega
  · show (onTo T _).length ≤ 4; rw [onTo_len]; omega
  · show (onTo T _).length = (mayTo_ T _).length; rw [onTo_len, mayTo_len_]
  · have hk2 : k < T.no.toNat := by rw [show (specT T).on = onTo T T.no.toNat from rfl, onTo_len] at hk; exact hk
    have e1 : onP (specT T) k = mkS T k 1 := onTo_get T hk2
    have e2 : mayP (specT T) k = mayT T k := mayTo_get T hk2
    rw [e1, e2, withinB_iff, withinB_iff]
    refine ⟨fun p _ q => (may_bit h1 (h2 k hk2) p).1 q, fun p _ q => ?_⟩
    rw [allS_testBit]
    exact decide_eq_true ((may_bit h1 (h2 k hk2) p).2 q)
end

/-! ### A table's lines as rows -/
section
variable {T : Tb} {o k n p : Nat} {os : List Int}
end

theorem one_sp {a : Int} {u v : Value} (hu : u.oneCell' = true) (hv : v.oneCell' = true) : (#[Value.int .i64 a, u, v] : Array Value).toList.all Value.oneCell' = true := by
  simp only [List.all_cons, List.all_nil, hu, hv]
  rfl

/-! ### The kinds' meanings, as functions of their own -/
def mnA (f0 f1 f2 : Nat) (k : Int) : Nat := if k = 0 then f0 else if k = 1 then f1 else f2
section
variable {P : Program} {f : Nat → Value} {w : World} {d : Option Nat} {ty : TypeId} {ps : String} {af : Array Edge} {g : Option (Nat × Bool)} {x y : Operand}
theorem r_indexMn {t e : TypeId} {fs : Array Field} {f0 f1 f2 : Nat} {k : Int} (hx : evF f x = .agg #[.func (.func f0) #[] #[], .bool false, .func (.func f1) #[] #[], .bool false, .func (.func f2) #[] #[], .bool true, .func (.func f2) #[] #[], .bool true]) (hy : evF f y = .int .i64 k)
    (ht : P.underlying t = some (.array 4 e)) (he : P.underlying e = some (.struct fs)) (hc : (P.info? e).map (·.size) = some 2) (h0 : 0 ≤ k) (h3 : k ≤ 3) :
    (execOp (evF f) ⟨d, .index t x y, ty, ps, af, g⟩).run P w = .ok (.value (.agg #[.func (.func (mnA f0 f1 f2 k)) #[] #[], .bool (decide (2 ≤ k))])) w := by
  obtain ⟨i, hi, hs⟩ := Option.map_eq_some_iff.1 hc
  have hk : k = 0 ∨ k = 1 ∨ k = 2 ∨ k = 3 := by omega
  rcases hk with rfl | rfl | rfl | rfl <;> simp [execOp, hx, hy, Instr.index, run_underlying ht, run_underlying he, asIntOf, sizeOf, typeInfo, hi, hs, part, isAgg, mnA]
end
end

section
set_option linter.unusedVariables false
set_option linter.unusedSimpArgs false
open Go Go.RowKit

/-! ### The statements' own words -/
section
variable {l : List Rw} {n out : Int} {k : Nat}
end
end

section
set_option linter.unusedVariables false
set_option linter.unusedSimpArgs false
open Go Go.RowKit

/-! ### Alike -/
def eqL (a b : List Nat) : Bool := decide (a.length = b.length) && (List.range a.length).all fun i => eqS (a.getD i 0) (b.getD i 0)
def eqSp (S U : Sp) : Bool := decide (S.n = U.n) && (eqL S.on U.on && eqL S.may U.may)
def greatS (S : Sp) (l : List Rw) : Bool := decide (20 < S.on.length ∨ 20 < S.may.length ∨ 100 < l.length)
section
variable {a b : List Nat} {S U : Sp} {k : Nat}
theorem eqL_len (h : ¬ (a.length : Int) = b.length) : false = eqL a b := by
  unfold eqL; rw [decide_eq_false (by omega), Bool.false_and]
theorem eqL_k (hk : k < a.length) (h : eqS (a.getD k 0) (b.getD k 0) = false) : false = eqL a b := by
  unfold eqL
  refine (Bool.eq_false_iff.2 fun e => ?_).symm
  rw [Bool.and_eq_true] at e
  have := List.all_eq_true.1 e.2 k (List.mem_range.2 hk)
  rw [h] at this; cases this
theorem eqL_t (h1 : (a.length : Int) = b.length) (hk : a.length ≤ k) (h : ∀ q, q < k → eqS (a.getD q 0) (b.getD q 0) = true) : true = eqL a b := by
  unfold eqL
  rw [decide_eq_true (by omega : a.length = b.length), Bool.true_and]
  exact (List.all_eq_true.2 fun q hq => h q (by have := List.mem_range.1 hq; omega)).symm
theorem eqL_self (a : List Nat) : eqL a a = true := (eqL_t rfl (Nat.le_refl _) fun q _ => eqS_iff.2 fun _ _ => rfl).symm
theorem eqSp_self (S : Sp) : eqSp S S = true := by unfold eqSp; rw [decide_eq_true rfl, eqL_self, eqL_self]; rfl
theorem eqSp_n (h : ¬ S.n = U.n) : false = eqSp S U := by unfold eqSp; rw [decide_eq_false h, Bool.false_and]
theorem eqSp_on (h : false = eqL S.on U.on) : false = eqSp S U := by unfold eqSp; rw [← h, Bool.false_and, Bool.and_false]
theorem eqSp_may (h : false = eqL S.may U.may) : false = eqSp S U := by unfold eqSp; rw [← h, Bool.and_false, Bool.and_false]
theorem eqSp_t (h : S.n = U.n) (h1 : true = eqL S.on U.on) (h2 : true = eqL S.may U.may) : true = eqSp S U := by unfold eqSp; rw [← h1, ← h2, decide_eq_true h]; rfl
theorem eqSp_1 (h : S.n = U.n) (h1 : eqL S.on U.on = true) : eqL S.may U.may = eqSp S U := by unfold eqSp; rw [decide_eq_true h, h1]; rfl
end
theorem eqS_t' {s t : Nat} (h : ¬ ¬ (((wd s 0 : Nat) : Int) = ((wd t 0 : Nat) : Int) ∧ ((wd s 1 : Nat) : Int) = ((wd t 1 : Nat) : Int) ∧ ((wd s 2 : Nat) : Int) = ((wd t 2 : Nat) : Int) ∧ ((wd s 3 : Nat) : Int) = ((wd t 3 : Nat) : Int))) : eqS s t = true := int_eqS (Decidable.of_not_not h)
theorem eqS_f' {s t : Nat} (h : ¬ (((wd s 0 : Nat) : Int) = ((wd t 0 : Nat) : Int) ∧ ((wd s 1 : Nat) : Int) = ((wd t 1 : Nat) : Int) ∧ ((wd s 2 : Nat) : Int) = ((wd t 2 : Nat) : Int) ∧ ((wd s 3 : Nat) : Int) = ((wd t 3 : Nat) : Int))) : eqS s t = false := Bool.eq_false_iff.2 fun e => h (eqS_int e)

/-! ### A table, point by point -/
section
variable {T : Tb} {o k p : Nat} {m : Int}
theorem has_hold {c : Cb} {n : Int} (h : rightB c.m c.v n = true) : hasC c.m c.v p = true ↔ hold c p := by
  have hv := (rightB_iff.1 h).2.2.2
  unfold hold hasC
  rw [decide_eq_true_eq, hv]
theorem mk_t (hr : rightT T = true) (hp : p < 2 ^ T.ni.toNat) (hk : k < T.ls.length) (h1 : (T.ls.getD k ln0).os.getD o 0 = m) (h2 : hasC (T.ls.getD k ln0).c.m (T.ls.getD k ln0).c.v p = true) : true = (mkS T o m).testBit p :=
  ((mkTo_bit (right_n hr) p _).2 ⟨hp, k, hk, h1, (has_hold (lnOk_iff.1 (right_ln hr hk)).1).1 h2⟩).symm
theorem mk_f (hr : rightT T = true) (hk : T.ls.length ≤ k) (h : ∀ q, q < k → ¬ ((T.ls.getD q ln0).os.getD o 0 = m ∧ hasC (T.ls.getD q ln0).c.m (T.ls.getD q ln0).c.v p = true)) : false = (mkS T o m).testBit p :=
  (Bool.eq_false_iff.2 fun e => by
    obtain ⟨_, j, hj, h1, h2⟩ := (mkTo_bit (right_n hr) p _).1 e
    exact h j (by omega) ⟨h1, (has_hold (lnOk_iff.1 (right_ln hr hj)).1).2 h2⟩).symm
theorem mayT_bit (hr : rightT T = true) (hp : p < 2 ^ T.ni.toNat) : (mayT T o).testBit p = if T.kind = 0 then (mkS T o 1).testBit p else if T.kind = 1 then (mkS T o 1).testBit p || (mkS T o 2).testBit p else !(mkS T o 0).testBit p := by
  unfold mayT mayF
  split
  · rfl
  split
  · rw [Nat.testBit_or]
  · rw [andNot_testBit, allS_testBit, decide_eq_true hp, Bool.true_and]
variable (hr : rightT T = true) (hp : p < 2 ^ T.ni.toNat)
theorem my_1a (hr : rightT T = true) (hp : p < 2 ^ T.ni.toNat) (h1 : (mkS T o 1).testBit p = true) (h : ¬ 2 ≤ T.kind) : true = (mayT T o).testBit p := by
  obtain ⟨hk0, _⟩ := right_hd hr
  rw [mayT_bit hr hp, h1]
  split
  · rfl
  · rw [if_pos (by omega)]; rfl
theorem my_1b (hr : rightT T = true) (hp : p < 2 ^ T.ni.toNat) (h1 : (mkS T o 1).testBit p = true) (h : (mkS T o 0).testBit p = false) : true = (mayT T o).testBit p := by
  rw [mayT_bit hr hp, h1, h]
  split
  · rfl
  · split <;> rfl
theorem my_2 (hr : rightT T = true) (hp : p < 2 ^ T.ni.toNat) (h1 : (mkS T o 1).testBit p = false) (hk : T.kind = 1) : (mkS T o 2).testBit p = (mayT T o).testBit p := by
  rw [mayT_bit hr hp, h1, if_neg (by omega), if_pos hk, Bool.false_or]
theorem my_4 (hr : rightT T = true) (hp : p < 2 ^ T.ni.toNat) (hk : 2 ≤ T.kind) : (!(mkS T o 0).testBit p) = (mayT T o).testBit p := by
  rw [mayT_bit hr hp, if_neg (by omega), if_neg (by omega)]
theorem my_5 (hr : rightT T = true) (hp : p < 2 ^ T.ni.toNat) (h1 : (mkS T o 1).testBit p = false) (hk : ¬ T.kind = 1) (h2 : ¬ 2 ≤ T.kind) : false = (mayT T o).testBit p := by
  obtain ⟨hk0, _⟩ := right_hd hr
  rw [mayT_bit hr hp, h1, if_pos (by omega)]
theorem ncl_k (h : ¬ 2 ≤ T.kind) : 2 ≤ T.kind → ((mkS T o 1).testBit p && (mkS T o 0).testBit p) = false := fun h2 => absurd h2 h
theorem ncl_1 (h : (mkS T o 1).testBit p = false) : 2 ≤ T.kind → ((mkS T o 1).testBit p && (mkS T o 0).testBit p) = false := fun _ => by rw [h, Bool.false_and]
theorem ncl_0 (h : (mkS T o 0).testBit p = false) : 2 ≤ T.kind → ((mkS T o 1).testBit p && (mkS T o 0).testBit p) = false := fun _ => by rw [h, Bool.and_false]
theorem clash_y (hk : 2 ≤ T.kind) (h1 : (mkS T o 1).testBit p = true) (h0 : (mkS T o 0).testBit p = true) : clash T o = true := by
  unfold clash
  rw [decide_eq_true hk, Bool.true_and]
  refine decide_eq_true fun e => ?_
  have h2 := Nat.testBit_and (mkS T o 1) (mkS T o 0) p
  rw [e, h1, h0, Nat.zero_testBit] at h2
  cases h2
theorem clash_no (hr : rightT T = true) (h : ∀ q, q < 2 ^ T.ni.toNat → 2 ≤ T.kind → ((mkS T o 1).testBit q && (mkS T o 0).testBit q) = false) : clash T o = false := by
  by_cases hk : 2 ≤ T.kind
  · unfold clash
    rw [decide_eq_false (p := mkS T o 1 &&& mkS T o 0 ≠ 0) (fun hn => hn (Nat.eq_of_testBit_eq fun j => ?_)), Bool.and_false]
    rw [Nat.zero_testBit, Nat.testBit_and]
    by_cases hj : j < 2 ^ T.ni.toNat
    · exact h j hj hk
    · have : (mkS T o 1).testBit j = false := Bool.eq_false_iff.2 fun e => hj ((mkTo_bit (right_n hr) j _).1 e).1
      rw [this, Bool.false_and]
  · exact clash_k hk
theorem two_n (hr : rightT T = true) : 2 ^ T.ni.toNat ≤ 256 := by
  have := Nat.pow_le_pow_right (show 0 < 2 by decide) (right_n hr)
  simpa using this
/-- The flags of a set of points below a number of them. -/
theorem setF_two {s n : Nat} (h2 : n ≤ 256) (h : ∀ p, s.testBit p = true → p < n) : setF (fun p => s.testBit p) n = flagsS s := by
  unfold setF flagsS flagsTo
  refine List.map_congr_left fun p hp => ?_
  have := List.mem_range.1 hp
  rw [Bool.eq_iff_iff, Bool.and_eq_true, decide_eq_true_eq]
  exact ⟨fun q => q.2, fun q => ⟨h p q, q⟩⟩
theorem mkS_n (hr : rightT T = true) (p : Nat) (h : (mkS T o m).testBit p = true) : p < 2 ^ T.ni.toNat := ((mkTo_bit (right_n hr) p _).1 h).1
theorem mayT_n (hr : rightT T = true) (p : Nat) (h : (mayT T o).testBit p = true) : p < 2 ^ T.ni.toNat := by
  unfold mayT mayF at h
  split at h
  · exact mkS_n hr p h
  split at h
  · rw [Nat.testBit_or, Bool.or_eq_true] at h
    exact h.elim (mkS_n hr p) (mkS_n hr p)
  · rw [andNot_testBit, allS_testBit, Bool.and_eq_true, decide_eq_true_eq] at h
    exact h.1
end
theorem setV_flags (s : Nat) : setV (bitsS (flagsS s)) = setV s := by
  have h : eqS (bitsS (flagsS s)) s = true := eqS_iff.2 fun p hp => by
    rw [bitsTo_testBit _ _ (Nat.le_refl _), flagsTo_get hp]; simp [hp]
  obtain ⟨h0, h1, h2, h3⟩ := eqS_int h
  show Value.agg #[wv _ 0, wv _ 1, wv _ 2, wv _ 3] = Value.agg #[wv _ 0, wv _ 1, wv _ 2, wv _ 3]
  unfold wv
  rw [h0, h1, h2, h3]
end

end Go.Proofs.YtnkaebjaeaecmaaGreatDoor
