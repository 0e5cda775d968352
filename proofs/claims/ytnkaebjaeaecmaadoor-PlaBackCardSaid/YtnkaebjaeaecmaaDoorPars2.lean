/-
  The plain law of texts: what is printed is read as it; what is read is right. No program in it.
-/
import Derived.Test.YtnkaebjaeaecmaaDoorPars
namespace Go.Proofs.YtnkaebjaeaecmaaDoor
set_option linter.unusedVariables false
set_option linter.unusedSimpArgs false
open Go Go.RowKit

/-! ### Cubes' texts, read -/
section
variable {s : List UInt8} {m u i k n : Nat}
theorem bit1 (k i : Nat) : (1 * 2 ^ k).testBit i = decide (i = k) := by
  rw [Nat.one_mul, Nat.testBit_two_pow]
  exact decide_eq_decide.2 ⟨fun h => h.symm, fun h => h.symm⟩
theorem pm_bit (s : List UInt8) : ∀ k i, (pmT s k).testBit i = (decide (i < k) && decide (byN s i = 48 ∨ byN s i = 49))
  | 0, i => by simp [pmT]
  | k + 1, i => by
    rw [pmT]
    by_cases h : byN s k = 48 ∨ byN s k = 49
    · rw [if_pos h, Nat.testBit_or, pm_bit s k i, bit1]
      by_cases hi : i = k
      · subst hi; simp [h]
      · have e : decide (i < k + 1) = decide (i < k) := decide_eq_decide.2 (by omega)
        rw [e, decide_eq_false hi, Bool.or_false]
    · rw [if_neg h, pm_bit s k i]
      by_cases hi : i = k
      · subst hi; simp [h]
      · have e : decide (i < k + 1) = decide (i < k) := decide_eq_decide.2 (by omega)
        rw [e]
theorem pv_bit (s : List UInt8) : ∀ k i, (pvT s k).testBit i = (decide (i < k) && decide (byN s i = 49))
  | 0, i => by simp [pvT]
  | k + 1, i => by
    rw [pvT]
    by_cases h : byN s k = 49
    · rw [if_pos h, Nat.testBit_or, pv_bit s k i, bit1]
      by_cases hi : i = k
      · subst hi; simp [h]
      · have e : decide (i < k + 1) = decide (i < k) := decide_eq_decide.2 (by omega)
        rw [e, decide_eq_false hi, Bool.or_false]
    · rw [if_neg h, pv_bit s k i]
      by_cases hi : i = k
      · subst hi; simp [h]
      · have e : decide (i < k + 1) = decide (i < k) := decide_eq_decide.2 (by omega)
        rw [e]
theorem cubT_right (h : s.length ≤ 8) : rightB (cubT s).m (cubT s).v (s.length : Int) = true := by
  refine rightB_iff.2 ⟨by omega, by omega, by rw [Int.toNat_natCast]; exact pmT_lt s s.length, ?_⟩
  refine Nat.eq_of_testBit_eq fun i => ?_
  show (pvT s s.length &&& pmT s s.length).testBit i = (pvT s s.length).testBit i
  rw [Nat.testBit_and, pm_bit, pv_bit]
  by_cases h1 : i < s.length <;> by_cases h2 : byN s i = 49 <;> simp [h1, h2]
theorem cubOk_len (h : cubOk s = true) : s.length ≤ 8 := by
  unfold cubOk at h
  rw [Bool.and_eq_true] at h
  exact of_decide_eq_true h.1
theorem texC_byN (h : i < k) : byN (texC m u k) i = (chB m u i).toNat := by
  unfold byN texC
  rw [List.getD_eq_getElem?_getD, List.getElem?_map, List.getElem?_range h]
  rfl
theorem chB_m : (chB m u i).toNat = 48 ∨ (chB m u i).toNat = 49 ↔ m.testBit i = true := by
  unfold chB
  rw [Nat.testBit_eq_decide_div_mod_eq]
  by_cases h : m / 2 ^ i % 2 = 0
  · rw [if_pos h]; simp [h]
  · rw [if_neg h]
    have h1 : m / 2 ^ i % 2 = 1 := by omega
    by_cases h2 : u / 2 ^ i % 2 = 0
    · rw [if_pos h2]; simp [h1]
    · rw [if_neg h2]; simp [h1]
theorem chB_u : (chB m u i).toNat = 49 ↔ (m.testBit i = true ∧ u.testBit i = true) := by
  unfold chB
  rw [Nat.testBit_eq_decide_div_mod_eq, Nat.testBit_eq_decide_div_mod_eq]
  by_cases h : m / 2 ^ i % 2 = 0
  · rw [if_pos h]; simp [h]
  · rw [if_neg h]
    have h1 : m / 2 ^ i % 2 = 1 := by omega
    by_cases h2 : u / 2 ^ i % 2 = 0
    · rw [if_pos h2]; simp [h2]
    · rw [if_neg h2]
      have h3 : u / 2 ^ i % 2 = 1 := by omega
      simp [h1, h3]
theorem chB_ok (m u i : Nat) : chOk (chB m u i).toNat = true := by
  unfold chB
  by_cases h : m / 2 ^ i % 2 = 0
  · rw [if_pos h]; rfl
  · rw [if_neg h]
    by_cases h2 : u / 2 ^ i % 2 = 0
    · rw [if_pos h2]; rfl
    · rw [if_neg h2]; rfl
theorem cub_tex {n : Int} (h : rightB m u n = true) : cubOk (texC m u n.toNat) = true ∧ cubT (texC m u n.toNat) = ⟨m, u⟩ := by
  obtain ⟨h0, h8, hm, hv⟩ := rightB_iff.1 h
  refine ⟨cub_yes (by rw [texC_len]; omega) fun q hq => ?_, ?_⟩
  · rw [texC_len] at hq
    rw [texC_byN hq]
    exact chB_ok m u q
  · have hml : ∀ i, n.toNat ≤ i → m.testBit i = false := fun i hi => Nat.testBit_lt_two_pow (Nat.lt_of_lt_of_le hm (Nat.pow_le_pow_right (by decide) hi))
    have e1 : pmT (texC m u n.toNat) (texC m u n.toNat).length = m := by
      refine Nat.eq_of_testBit_eq fun i => ?_
      rw [pm_bit, texC_len]
      by_cases hi : i < n.toNat
      · rw [texC_byN hi, decide_eq_true hi, Bool.true_and]
        cases hb : m.testBit i
        · exact decide_eq_false fun e => by rw [chB_m.1 e] at hb; cases hb
        · exact decide_eq_true (chB_m.2 hb)
      · rw [decide_eq_false hi, Bool.false_and, hml i (by omega)]
    have e2 : pvT (texC m u n.toNat) (texC m u n.toNat).length = u := by
      refine Nat.eq_of_testBit_eq fun i => ?_
      have hv2 : u.testBit i = true → m.testBit i = true := fun hb => by
        rw [← hv, Nat.testBit_and, Bool.and_eq_true] at hb
        exact hb.2
      rw [pv_bit, texC_len]
      by_cases hi : i < n.toNat
      · rw [texC_byN hi, decide_eq_true hi, Bool.true_and]
        cases hb : u.testBit i
        · exact decide_eq_false fun e => by rw [(chB_u.1 e).2] at hb; cases hb
        · exact decide_eq_true (chB_u.2 ⟨hv2 hb, hb⟩)
      · rw [decide_eq_false hi, Bool.false_and]
        cases hb : u.testBit i
        · rfl
        · rw [hml i (by omega)] at hv2; exact absurd (hv2 hb) (by decide)
    unfold cubT
    rw [e1, e2]
end

/-! ### A line of the table -/
section
variable {l : Ln} {ni no : Int} {line : List UInt8}
theorem index_first : ∀ (a b : List UInt8), (32 : UInt8) ∉ a → Lib.index (a ++ 32 :: b) [32] = (a.length : Int)
  | [], b, _ => by
    rw [List.nil_append, Lib.index]
    simp [List.isPrefixOf]
  | c :: a, b, h => by
    have h1 : c ≠ 32 := fun e => h (by rw [e]; exact List.mem_cons_self)
    have ih := index_first a b (fun e => h (List.mem_cons_of_mem _ e))
    rw [List.cons_append, Lib.index]
    have hp : ([32] : List UInt8).isPrefixOf (c :: (a ++ 32 :: b)) = false := by simp [List.isPrefixOf, Ne.symm h1]
    rw [hp, ih]
    simp only [Bool.false_eq_true, if_false, beq_iff_eq]
    rw [if_neg (by omega)]
    simp
theorem cut_at {a b : List UInt8} (h : (32 : UInt8) ∉ a) : Lib.cut (a ++ 32 :: b) [32] = (a, b, true) := by
  unfold Lib.cut
  rw [index_first a b h, if_pos (by omega), Int.toNat_natCast]
  have e : a ++ 32 :: b = (a ++ [32]) ++ b := by simp
  rw [List.take_left, show a.length + ([32] : List UInt8).length = (a ++ [32]).length by simp, e, List.drop_left]
theorem tex_no32 (m u n : Nat) : (32 : UInt8) ∉ texC m u n := by
  intro h
  obtain ⟨i, _, e⟩ := List.mem_map.1 h
  have := chB_ok m u i
  rw [e] at this
  cases this
theorem out_back {x : Int} (h : 0 ≤ x ∧ x < 3) : outR (outC x).toNat = x ∧ chOk (outC x).toNat = true := by
  have : x = 0 ∨ x = 1 ∨ x = 2 := by omega
  rcases this with rfl | rfl | rfl <;> exact ⟨rfl, rfl⟩
theorem outs_back {os : List Int} (h : ∀ x, x ∈ os → 0 ≤ x ∧ x < 3) : outsR (outsT os) = os := by
  unfold outsR outsT
  rw [List.map_map]
  conv => rhs; rw [← List.map_id os]
  exact List.map_congr_left fun x hx => (out_back (h x hx)).1
theorem line_cut (ni : Int) (l : Ln) : Lib.cut (lnT ni l) [32] = (texC l.c.m l.c.v ni.toNat, outsT l.os, true) := by
  unfold lnT lineT
  rw [List.append_assoc]
  exact cut_at (tex_no32 _ _ _)
theorem line_ok (h : lnOk ni no l = true) (hn : 0 ≤ ni) : rowOk ni no (lnT ni l) = true ∧ rowL (lnT ni l) = l := by
  obtain ⟨h1, h2, h3⟩ := lnOk_iff.1 h
  obtain ⟨k1, k2⟩ := cub_tex h1
  refine ⟨rowOk_iff.2 ?_, ?_⟩
  · rw [line_cut]
    refine ⟨rfl, k1, by rw [texC_len]; omega, by rw [outsT_len]; exact h2, fun q hq => ?_⟩
    simp only [outsT_len] at hq
    have e : byN (outsT l.os) q = (outC (l.os.getD q 0)).toNat := by
      unfold byN outsT
      rw [List.getD_eq_getElem?_getD, List.getElem?_map, List.getElem?_eq_getElem hq, List.getD_eq_getElem?_getD, List.getElem?_eq_getElem hq]
      rfl
    simp only [e]
    exact (out_back (h3 _ (getD_memL (d := 0) hq))).2
  · unfold rowL
    rw [line_cut]
    simp only [k2, outs_back h3]
theorem row_right (h : rowOk ni no line = true) : lnOk ni no (rowL line) = true := by
  obtain ⟨_, h2, h3, h4, h5⟩ := rowOk_iff.1 h
  refine lnOk_iff.2 ⟨?_, ?_, ?_⟩
  · rw [← h3]; exact cubT_right (cubOk_len h2)
  · show ((outsR _).length : Int) = no
    rw [outsR_len]; exact h4
  · intro x hx
    obtain ⟨b, hb, rfl⟩ := List.mem_map.1 hx
    obtain ⟨i, hi, rfl⟩ := List.getElem_of_mem hb
    have h6 := h5 i hi
    have e : byN (Lib.cut line [32]).2.1 i = ((Lib.cut line [32]).2.1[i]).toNat := by
      unfold byN
      rw [List.getD_eq_getElem?_getD, List.getElem?_eq_getElem hi]
      rfl
    rw [e] at h6
    generalize ((Lib.cut line [32]).2.1[i]).toNat = b at h6
    unfold chOk at h6
    simp only [Bool.or_eq_true, beq_iff_eq] at h6
    rcases h6 with (h6 | h6) | h6 <;> subst h6 <;> decide
end

/-! ### What is read is right -/
theorem numP_in {line word : List UInt8} {lo hi : Int} (h0 : 0 ≤ lo) (h : numP line word lo hi ≥ 0) : lo ≤ numP line word lo hi ∧ numP line word lo hi ≤ hi := by
  unfold numP at *
  cases hn : numO line word with
  | none => rw [hn] at h; simp only at h; omega
  | some n =>
    rw [hn] at h
    simp only at h ⊢
    by_cases hc : lo ≤ n ∧ (n : Int) ≤ hi
    · rw [if_pos hc]; exact hc
    · rw [if_neg hc] at h; omega
structure RdOk (r : Rd) : Prop where
  k0 : 0 ≤ r.T.kind
  k3 : r.T.kind ≤ 3
  i : 1 ≤ r.st → 0 ≤ r.T.ni ∧ r.T.ni ≤ 8
  o : 2 ≤ r.st → 1 ≤ r.T.no ∧ r.T.no ≤ 4
  len : r.T.ls.length ≤ 64
  all : ∀ l, l ∈ r.T.ls → lnOk r.T.ni r.T.no l = true
  early : r.st < 4 → r.T.ls = []
  s0 : 0 ≤ r.st
theorem okE_0 {b : Bool} (h : okE b = 0) : b = true := by
  unfold okE at h
  cases b
  · cases h
  · rfl
section
variable {r : Rd} {l : List UInt8}
theorem RdOk.take (h : RdOk r) (he : (takeT r l).2 = 0) : RdOk (takeT r l).1 := by
  have hlen := take_len h.len he
  have hs0 := h.s0
  revert he hlen
  unfold takeT
  by_cases h0 : r.st = 0
  · rw [if_pos h0]
    intro he _
    have hn := numP_in (by decide) (of_decide_eq_true (okE_0 he))
    have hl := h.early (by omega)
    exact ⟨h.k0, h.k3, fun _ => hn, fun h2 => absurd h2 (by show ¬ 2 ≤ r.st + 1; omega), h.len, fun l hl2 => (by rw [show ({ r.T with ni := numP _ [46, 105] 0 8 } : Tb).ls = [] from hl] at hl2; cases hl2), fun _ => hl, by show 0 ≤ r.st + 1; omega⟩
  rw [if_neg h0]
  by_cases h1 : r.st = 1
  · rw [if_pos h1]
    intro he _
    have hn := numP_in (by decide) (of_decide_eq_true (okE_0 he))
    have hl := h.early (by omega)
    exact ⟨h.k0, h.k3, fun _ => h.i (by omega), fun _ => hn, h.len, fun l hl2 => (by rw [show ({ r.T with no := numP _ [46, 111] 1 4 } : Tb).ls = [] from hl] at hl2; cases hl2), fun _ => hl, by show 0 ≤ r.st + 1; omega⟩
  rw [if_neg h1]
  by_cases h5 : r.st = 5
  · rw [if_pos h5]
    intro he
    cases he
  rw [if_neg h5]
  have hi := h.i (by omega)
  have ho := h.o (by omega)
  by_cases hp : Lib.hasPrefix l typeW = true ∧ r.st = 2
  · rw [if_pos hp]
    have hl := h.early (by omega)
    cases hk : kindO (Lib.trimPrefix l typeW) with
    | none => intro he; cases he
    | some k =>
      intro _ _
      have hk3 : k ≤ 3 := by
        unfold kindO at hk
        repeat' split at hk
        all_goals first | (cases hk; decide) | cases hk
      exact ⟨show (0 : Int) ≤ (k : Int) by omega, show (k : Int) ≤ 3 by omega, fun _ => hi, fun _ => ho, h.len, h.all, fun _ => hl, show (0 : Int) ≤ 3 by decide⟩
  rw [if_neg hp]
  by_cases hn : numP l [46, 112] 0 64 ≥ 0 ∧ r.st ≤ 3
  · rw [if_pos hn]
    intro _ _
    exact ⟨h.k0, h.k3, fun _ => hi, fun _ => ho, h.len, h.all, fun h4 => absurd h4 (show ¬ (4 : Int) < 4 by decide), show (0 : Int) ≤ 4 by decide⟩
  rw [if_neg hn]
  by_cases he : l = [46, 101]
  · rw [if_pos he]
    intro _ _
    exact ⟨h.k0, h.k3, fun _ => hi, fun _ => ho, h.len, h.all, fun h4 => absurd h4 (show ¬ (5 : Int) < 4 by decide), show (0 : Int) ≤ 5 by decide⟩
  rw [if_neg he]
  by_cases hr : rowOk r.T.ni r.T.no l = true
  · rw [if_pos hr]
    intro _ hlen
    refine ⟨h.k0, h.k3, fun _ => hi, fun _ => ho, hlen, fun x hx => ?_, fun h4 => absurd h4 (show ¬ (4 : Int) < 4 by decide), show (0 : Int) ≤ 4 by decide⟩
    rcases List.mem_append.1 hx with hx | hx
    · exact h.all x hx
    · rw [List.mem_singleton] at hx
      rw [hx]
      exact row_right hr
  · rw [if_neg hr]
    intro he
    cases he
theorem rdOk_k {ls : List (List UInt8)} : ∀ k, k ≤ ls.length → (∀ q, q < k → errT (rdK ls q) (ls.getD q []) = 0) → RdOk (rdK ls k)
  | 0, _, _ => by
    rw [rdK_zero]
    exact ⟨by decide, by decide, fun h => absurd h (by decide), fun h => absurd h (by decide), by decide, fun l hl => (by cases hl), fun _ => rfl, by decide⟩
  | k + 1, hk, hq => by
    have ih := rdOk_k k (by omega) (fun q h => hq q (by omega))
    have he := hq k (by omega)
    rw [rdK_succ (by omega)]
    cases hs : skipB (ls.getD k []) with
    | true => rw [(step_skip hs).1]; exact ih
    | false => rw [(step_take hs).1]; rw [(step_take hs).2] at he; exact ih.take he
end
section
variable {s : List UInt8}
theorem parse_cases (s : List UInt8) : ((parseT s).2.2 ≠ 0 ∧ (parseT s).1 = tb0) ∨ ((parseT s).2.2 = 0 ∧ (parseT s).2.1 = 0 ∧ rightT (parseT s).1 = true) := by
  by_cases h8 : 8000 < s.length
  · rw [prs_long h8]; exact .inl ⟨by decide, rfl⟩
  · have hn : (linesL s).length = ((linesL s).length - 1) + 1 := by have := List.length_pos_iff.2 (linesL_ne s); omega
    cases hb : badK (linesL s) ((linesL s).length - 1) with
    | some k =>
      have e : parseT s = (tb0, k, errT (rdK (linesL s) k) ((linesL s).getD k [])) := by
        unfold parseT
        rw [if_neg h8, hb]
      rw [e]
      unfold badK at hb
      have := List.find?_some hb
      exact .inl ⟨by simpa using this, rfl⟩
    | none =>
      have hq := bad_noneq hb
      by_cases he : (linesL s).getD ((linesL s).length - 1) [] = []
      · by_cases h5 : (rdK (linesL s) ((linesL s).length - 1)).st = 5
        · rw [prs_ok h8 hn hq he h5]
          refine .inr ⟨rfl, rfl, ?_⟩
          have hR := rdOk_k ((linesL s).length - 1) (by omega) hq
          have hi := hR.i (by omega)
          have ho := hR.o (by omega)
          unfold rightT
          rw [decide_eq_true ⟨hR.k0, hR.k3, hi.1, hi.2, ho.1, ho.2, hR.len⟩, Bool.true_and]
          exact List.all_eq_true.2 hR.all
        · rw [prs_none h8 hn hq he h5]; exact .inl ⟨show (7 : Int) ≠ 0 by decide, rfl⟩
      · rw [prs_tail h8 hn hq he]; exact .inl ⟨show (2 : Int) ≠ 0 by decide, rfl⟩
theorem parse_right (h : (parseT s).2.2 = 0) : rightT (parseT s).1 = true := by
  rcases parse_cases s with ⟨h1, _⟩ | ⟨_, _, h2⟩
  · exact absurd h h1
  · exact h2
theorem parse_err (h : ¬ (parseT s).2.2 = 0) : (parseT s).1 = tb0 := by
  rcases parse_cases s with ⟨_, h1⟩ | ⟨h1, _⟩
  · exact h1
  · exact absurd h1 h
theorem right_mb {T : Tb} (h : rightT T = true) : ∀ i, i < T.ls.length → (T.ls.getD i ln0).c.m < 256 ∧ (T.ls.getD i ln0).c.v < 256 := fun i hi => by
  obtain ⟨h1, _⟩ := lnOk_iff.1 (right_ln h hi)
  obtain ⟨_, h8, hm, hv⟩ := rightB_iff.1 h1
  have h2 : 2 ^ T.ni.toNat ≤ 256 := by
    have := Nat.pow_le_pow_right (show 0 < 2 by decide) (show T.ni.toNat ≤ 8 by omega)
    simpa using this
  have h3 : (T.ls.getD i ln0).c.v ≤ (T.ls.getD i ln0).c.m := by rw [← hv]; exact Nat.and_le_right
  omega
theorem parse_mb (s : List UInt8) : ∀ i, i < (parseT s).1.ls.length → ((parseT s).1.ls.getD i ln0).c.m < 256 ∧ ((parseT s).1.ls.getD i ln0).c.v < 256 := by
  rcases parse_cases s with ⟨_, h⟩ | ⟨_, _, h⟩
  · rw [h]; intro i hi; cases hi
  · exact right_mb h
theorem parse_hol (s : List UInt8) : (parseT s).1.ls.length ≤ 64 ∧ ∀ k, k < (parseT s).1.ls.length → ((parseT s).1.ls.getD k ln0).os.length ≤ 1000000 := by
  rcases parse_cases s with ⟨_, h⟩ | ⟨_, _, h⟩
  · rw [h]; exact ⟨by decide, fun k hk => by cases hk⟩
  · obtain ⟨_, _, _, _, _, h4, h64⟩ := right_hd h
    refine ⟨h64, fun k hk => ?_⟩
    obtain ⟨_, h2, _⟩ := lnOk_iff.1 (right_ln h hk)
    omega
theorem great_f {T : Tb} (h : greatT T = false) : T.ls.length ≤ 100 ∧ ∀ k, k < T.ls.length → (T.ls.getD k ln0).os.length ≤ 1000000 := by
  unfold greatT at h
  rw [Bool.or_eq_false_iff] at h
  refine ⟨?_, fun k hk => ?_⟩
  · have := of_decide_eq_false h.2; omega
  · have := List.any_eq_false.1 h.1 _ (getD_memL (d := ln0) hk)
    have := of_decide_eq_false (Bool.eq_false_iff.2 this)
    omega
end

/-! ### What is printed is read as it -/
def lnsT (T : Tb) : List (List UInt8) :=
  [[46, 105] ++ 32 :: dig2 T.ni.toNat, [46, 111] ++ 32 :: dig2 T.no.toNat, typeW ++ kindsL.getD T.kind.toNat [], [46, 112] ++ 32 :: dig2 T.ls.length] ++ (T.ls.map (lnT T.ni) ++ [[46, 101]])
theorem lines_step : ∀ (a b : List UInt8), (10 : UInt8) ∉ a → linesL (a ++ 10 :: b) = a :: linesL b
  | [], b, _ => by rw [List.nil_append, linesL, if_pos rfl]
  | c :: a, b, h => by
    have h1 : c ≠ 10 := fun e => h (by rw [e]; exact List.mem_cons_self)
    rw [List.cons_append, linesL, if_neg h1, lines_step a b (fun e => h (List.mem_cons_of_mem _ e))]
theorem lines_flat : ∀ (ls : List (List UInt8)), (∀ l, l ∈ ls → (10 : UInt8) ∉ l) → linesL (ls.flatMap fun l => l ++ [10]) = ls ++ [[]]
  | [], _ => rfl
  | l :: ls, h => by
    rw [List.flatMap_cons, List.append_assoc, List.singleton_append, lines_step l _ (h l List.mem_cons_self), lines_flat ls (fun x hx => h x (List.mem_cons_of_mem _ hx))]
    rfl
theorem printTo_flat (T : Tb) : ∀ k, k ≤ T.ls.length → printTo T k = headT T ++ ((T.ls.take k).map (lnT T.ni)).flatMap fun l => l ++ [10]
  | 0, _ => by simp [printTo]
  | k + 1, hk => by
    rw [printTo, printTo_flat T k (by omega), List.take_add_one, List.getElem?_eq_getElem (by omega), List.map_append, List.flatMap_append, List.getD_eq_getElem?_getD, List.getElem?_eq_getElem (by omega)]
    simp
theorem printT_flat (T : Tb) : printT T = (lnsT T).flatMap fun l => l ++ [10] := by
  unfold printT lnsT
  rw [printTo_flat T _ (Nat.le_refl _), List.take_length]
  unfold headT typeW
  simp
theorem dig_no10 (n : Nat) (h : n < 100) : (10 : UInt8) ∉ dig2 n := by
  have : ∀ n, n < 100 → (10 : UInt8) ∉ dig2 n := by decide +kernel
  exact this n h
theorem lns_no10 {T : Tb} (h : rightT T = true) : ∀ l, l ∈ lnsT T → (10 : UInt8) ∉ l := by
  obtain ⟨hk0, hk3, hi0, hi8, ho1, ho4, h64⟩ := right_hd h
  intro l hl
  unfold lnsT at hl
  simp only [List.mem_append, List.mem_cons, List.mem_map, List.not_mem_nil, or_false] at hl
  rcases hl with (rfl | rfl | rfl | rfl) | (⟨x, hx, rfl⟩ | rfl)
  · have := dig_no10 T.ni.toNat (by omega); simp [this]
  · have := dig_no10 T.no.toNat (by omega); simp [this]
  · obtain ⟨q, hq⟩ := Int.eq_ofNat_of_zero_le hk0
    rw [hq, Int.toNat_natCast]
    have h4 : q < 4 := by omega
    unfold typeW
    match q, h4 with
    | 0, _ | 1, _ | 2, _ | 3, _ => decide
  · have := dig_no10 T.ls.length (by omega); simp [this]
  · unfold lnT lineT
    intro hm
    simp only [List.mem_append, List.mem_singleton] at hm
    rcases hm with (hm | hm) | hm
    · obtain ⟨i, _, e⟩ := List.mem_map.1 hm
      have := chB_ok x.c.m x.c.v i
      rw [e] at this; cases this
    · cases hm
    · obtain ⟨y, hy, e⟩ := List.mem_map.1 hm
      unfold outC at e
      split at e
      · cases e
      · split at e <;> cases e
  · decide
section
variable {T : Tb} {r : Rd}
theorem numP_of {word : List UInt8} {n : Nat} {lo hi : Int} (hn : n < 100) (h1 : lo ≤ (n : Int)) (h2 : (n : Int) ≤ hi) : numP (word ++ 32 :: dig2 n) word lo hi = (n : Int) := by
  unfold numP
  rw [numO_some hn rfl]
  simp only
  rw [if_pos ⟨h1, h2⟩]
theorem okE_t {b : Bool} (h : b = true) : okE b = 0 := by rw [h]; rfl
theorem skip_46 (l : List UInt8) : skipB (46 :: l) = false := rfl
/-- The head's four lines. -/
theorem read_head (h : rightT T = true) : ∃ r, ((lnsT T).take 4).foldl stepT rd0 = r ∧ r = ⟨⟨T.kind, T.ni, T.no, []⟩, 4, (T.ls.length : Int)⟩ ∧ errT rd0 ((lnsT T).getD 0 []) = 0 ∧
    errT (stepT rd0 ((lnsT T).getD 0 [])) ((lnsT T).getD 1 []) = 0 ∧ errT (stepT (stepT rd0 ((lnsT T).getD 0 [])) ((lnsT T).getD 1 [])) ((lnsT T).getD 2 []) = 0 ∧
    errT (stepT (stepT (stepT rd0 ((lnsT T).getD 0 [])) ((lnsT T).getD 1 [])) ((lnsT T).getD 2 [])) ((lnsT T).getD 3 []) = 0 := by
  obtain ⟨hk0, hk3, hi0, hi8, ho1, ho4, h64⟩ := right_hd h
  obtain ⟨qk, hqk⟩ := Int.eq_ofNat_of_zero_le hk0
  have a0 : takeT rd0 ([46, 105] ++ 32 :: dig2 T.ni.toNat) = (⟨⟨1, T.ni, 0, []⟩, 1, -1⟩, 0) := by
    rw [tk_0 rfl, numP_of (by omega) (by omega) (by omega), show ((T.ni.toNat : Nat) : Int) = T.ni by omega, okE_t (decide_eq_true hi0)]
    rfl
  have a1 : takeT ⟨⟨1, T.ni, 0, []⟩, 1, -1⟩ ([46, 111] ++ 32 :: dig2 T.no.toNat) = (⟨⟨1, T.ni, T.no, []⟩, 2, -1⟩, 0) := by
    rw [tk_1 (show ¬ (1 : Int) = 0 by decide) rfl, numP_of (by omega) (by omega) (by omega), show ((T.no.toNat : Nat) : Int) = T.no by omega, okE_t (decide_eq_true (by omega))]
    rfl
  have a2 : takeT ⟨⟨1, T.ni, T.no, []⟩, 2, -1⟩ (typeW ++ kindsL.getD T.kind.toNat []) = (⟨⟨T.kind, T.ni, T.no, []⟩, 3, -1⟩, 0) := by
    rw [tk_k (i := qk) (show ¬ (2 : Int) = 0 by decide) (show ¬ (2 : Int) = 1 by decide) (show ¬ (2 : Int) = 5 by decide) (pre_iff.2 ⟨_, rfl⟩) rfl (by omega) (by rw [trim_of, hqk]; rfl), hqk]
  have a3 : takeT ⟨⟨T.kind, T.ni, T.no, []⟩, 3, -1⟩ ([46, 112] ++ 32 :: dig2 T.ls.length) = (⟨⟨T.kind, T.ni, T.no, []⟩, 4, (T.ls.length : Int)⟩, 0) := by
    rw [tk_p (show ¬ (3 : Int) = 0 by decide) (show ¬ (3 : Int) = 1 by decide) (show ¬ (3 : Int) = 5 by decide) (fun e => absurd e.2 (show ¬ (3 : Int) = 2 by decide)) (by rw [numP_of (by omega) (by omega) (by omega)]; omega) (show (3 : Int) ≤ 3 by decide), numP_of (by omega) (by omega) (by omega)]
  have s0 := step_take (r := rd0) (skip_46 ([105] ++ 32 :: dig2 T.ni.toNat))
  have s1 := step_take (r := ⟨⟨1, T.ni, 0, []⟩, 1, -1⟩) (skip_46 ([111] ++ 32 :: dig2 T.no.toNat))
  have s2 := step_take (r := ⟨⟨1, T.ni, T.no, []⟩, 2, -1⟩) (skip_46 ([116, 121, 112, 101, 32] ++ kindsL.getD T.kind.toNat []))
  have s3 := step_take (r := ⟨⟨T.kind, T.ni, T.no, []⟩, 3, -1⟩) (skip_46 ([112] ++ 32 :: dig2 T.ls.length))
  have e0 : stepT rd0 ((lnsT T).getD 0 []) = ⟨⟨1, T.ni, 0, []⟩, 1, -1⟩ := s0.1.trans (congrArg Prod.fst a0)
  have e1 : stepT ⟨⟨1, T.ni, 0, []⟩, 1, -1⟩ ((lnsT T).getD 1 []) = ⟨⟨1, T.ni, T.no, []⟩, 2, -1⟩ := s1.1.trans (congrArg Prod.fst a1)
  have e2 : stepT ⟨⟨1, T.ni, T.no, []⟩, 2, -1⟩ ((lnsT T).getD 2 []) = ⟨⟨T.kind, T.ni, T.no, []⟩, 3, -1⟩ := s2.1.trans (congrArg Prod.fst a2)
  have e3 : stepT ⟨⟨T.kind, T.ni, T.no, []⟩, 3, -1⟩ ((lnsT T).getD 3 []) = ⟨⟨T.kind, T.ni, T.no, []⟩, 4, (T.ls.length : Int)⟩ := s3.1.trans (congrArg Prod.fst a3)
  refine ⟨_, rfl, ?_, s0.2.trans (congrArg Prod.snd a0), ?_, ?_, ?_⟩
  · show stepT (stepT (stepT (stepT rd0 ((lnsT T).getD 0 [])) ((lnsT T).getD 1 [])) ((lnsT T).getD 2 [])) ((lnsT T).getD 3 []) = _
    rw [e0, e1, e2, e3]
  · rw [e0]; exact s1.2.trans (congrArg Prod.snd a1)
  · rw [e0, e1]; exact s2.2.trans (congrArg Prod.snd a2)
  · rw [e0, e1, e2]; exact s3.2.trans (congrArg Prod.snd a3)
theorem ln_first {l : Ln} {ni : Int} : ∃ c r, lnT ni l = c :: r ∧ c ≠ 46 ∧ c ≠ 35 := by
  unfold lnT lineT texC
  cases h : ni.toNat with
  | zero => exact ⟨32, outsT l.os, rfl, by decide, by decide⟩
  | succ k =>
    rw [List.range_succ_eq_map]
    have := chB_ok l.c.m l.c.v 0
    refine ⟨chB l.c.m l.c.v 0, _, by rw [List.map_cons, List.cons_append, List.cons_append], fun e => ?_, fun e => ?_⟩ <;> rw [e] at this <;> cases this
theorem read_line {l : Ln} (hl : lnOk T.ni T.no l = true) (hn : 0 ≤ T.ni) {ls : List Ln} (hlen : ls.length < 64) {told : Int} :
    stepT ⟨⟨T.kind, T.ni, T.no, ls⟩, 4, told⟩ (lnT T.ni l) = ⟨⟨T.kind, T.ni, T.no, ls ++ [l]⟩, 4, told⟩ ∧ errT ⟨⟨T.kind, T.ni, T.no, ls⟩, 4, told⟩ (lnT T.ni l) = 0 := by
  obtain ⟨c, rest, hc, h46, h35⟩ := ln_first (l := l) (ni := T.ni)
  obtain ⟨h1, h2⟩ := line_ok hl hn
  have hsk : skipB (lnT T.ni l) = false := by
    rw [hc]
    refine skip_not (by simp) fun e => h35 ?_
    have : c.toNat = 35 := by
      have e2 : ((byN (c :: rest) 0 : Nat) : Int) = (c.toNat : Int) := rfl
      omega
    exact UInt8.toNat.inj this
  have hne : ¬ lnT T.ni l = [46, 101] := by rw [hc]; intro e; exact h46 (List.cons.inj e).1
  have hnum : numP (lnT T.ni l) [46, 112] 0 64 = -1 := by
    unfold numP
    rw [numO_none fun k _ e => h46 (by rw [hc] at e; exact (List.cons.inj e).1)]
  have hk := tk_r (r := ⟨⟨T.kind, T.ni, T.no, ls⟩, 4, told⟩) (l := lnT T.ni l) (show ¬ (4 : Int) = 0 by decide) (show ¬ (4 : Int) = 1 by decide) (show ¬ (4 : Int) = 5 by decide) (fun e => absurd e.2 (show ¬ (4 : Int) = 2 by decide)) (fun e => absurd e.2 (show ¬ (4 : Int) ≤ 3 by decide)) hne h1
  have hs := step_take (r := ⟨⟨T.kind, T.ni, T.no, ls⟩, 4, told⟩) hsk
  rw [hk] at hs
  refine ⟨hs.1.trans ?_, hs.2.trans ?_⟩
  · simp only [h2]
  · exact if_neg (by show ¬ ls.length = 64; omega)
theorem rdK_app (a b : List (List UInt8)) (k : Nat) (hk : k ≤ b.length) : rdK (a ++ b) (a.length + k) = (b.take k).foldl stepT (rdK a a.length) := by
  unfold rdK
  rw [List.take_length_add_append, List.foldl_append, List.take_length]
theorem getD_appR (a b : List (List UInt8)) (k : Nat) : (a ++ b).getD (a.length + k) [] = b.getD k [] := by
  simp only [List.getD_eq_getElem?_getD]
  rw [List.getElem?_append_right (by omega), Nat.add_sub_cancel_left]
theorem read_rows (h : rightT T = true) (told : Int) : ∀ k, k ≤ T.ls.length → ((T.ls.map (lnT T.ni)).take k).foldl stepT ⟨⟨T.kind, T.ni, T.no, []⟩, 4, told⟩ = ⟨⟨T.kind, T.ni, T.no, T.ls.take k⟩, 4, told⟩
  | 0, _ => rfl
  | k + 1, hk => by
    obtain ⟨_, _, hi0, _, _, _, h64⟩ := right_hd h
    have hl := right_ln h (show k < T.ls.length by omega)
    rw [List.take_add_one, List.getElem?_map, List.getElem?_eq_getElem (by omega), List.foldl_append, read_rows h told k (by omega)]
    rw [List.getD_eq_getElem?_getD, List.getElem?_eq_getElem (show k < T.ls.length by omega)] at hl
    have := (read_line hl hi0 (ls := T.ls.take k) (by rw [List.length_take]; omega) (told := told)).1
    rw [List.take_add_one, List.getElem?_eq_getElem (by omega)]
    exact this
theorem printT_len (h : rightT T = true) : (printT T).length ≤ 1000 := by
  obtain ⟨_, _, _, _, _, _, h64⟩ := right_hd h
  have := printTo_len h T.ls.length (Nat.le_refl _)
  unfold printT
  simp only [List.length_append, List.length_cons, List.length_nil]
  omega
theorem parse_print (h : rightT T = true) : parseT (printT T) = (T, 0, 0) := by
  obtain ⟨hk0, hk3, hi0, hi8, ho1, ho4, h64⟩ := right_hd h
  have hL : linesL (printT T) = lnsT T ++ [[]] := by rw [printT_flat]; exact lines_flat _ (lns_no10 h)
  have hlen : (lnsT T).length = T.ls.length + 5 := by unfold lnsT; simp
  have hn : (linesL (printT T)).length = (T.ls.length + 5) + 1 := by rw [hL, List.length_append, hlen]; rfl
  obtain ⟨r, hr, hre, q0, q1, q2, q3⟩ := read_head h
  have hsplit : lnsT T = (lnsT T).take 4 ++ (T.ls.map (lnT T.ni) ++ [[46, 101]]) := rfl
  have hget : ∀ q, q < T.ls.length + 5 → (linesL (printT T)).getD q [] = (lnsT T).getD q [] := fun q hq => by
    rw [hL]
    simp only [List.getD_eq_getElem?_getD]
    rw [List.getElem?_append_left (by omega)]
  have hrd : ∀ q, q ≤ T.ls.length + 5 → rdK (linesL (printT T)) q = rdK (lnsT T) q := fun q hq => by
    unfold rdK
    rw [hL, List.take_append_of_le_length (by omega)]
  have hrow : ∀ k, k ≤ T.ls.length → rdK (lnsT T) (4 + k) = ⟨⟨T.kind, T.ni, T.no, T.ls.take k⟩, 4, (T.ls.length : Int)⟩ := fun k hk => by
    have e4 : rdK ((lnsT T).take 4) 4 = r := by unfold rdK; rw [← hr]; rfl
    have := rdK_app ((lnsT T).take 4) (T.ls.map (lnT T.ni) ++ [[46, 101]]) k (by simp; omega)
    rw [← hsplit] at this
    have e5 : ((lnsT T).take 4).length = 4 := rfl
    rw [e5, e4, hre, List.take_append_of_le_length (by simpa using hk), read_rows h _ k hk] at this
    exact this
  have hlast : takeT ⟨T, 4, (T.ls.length : Int)⟩ [46, 101] = (⟨T, 5, (T.ls.length : Int)⟩, 0) := by
    rw [tk_e (show ¬ (4 : Int) = 0 by decide) (show ¬ (4 : Int) = 1 by decide) (show ¬ (4 : Int) = 5 by decide) (fun e => absurd e.2 (show ¬ (4 : Int) = 2 by decide)) (fun e => absurd e.2 (show ¬ (4 : Int) ≤ 3 by decide)) rfl]
    rw [okE_t (by simp)]
  have hall : rdK (lnsT T) (4 + T.ls.length) = ⟨T, 4, (T.ls.length : Int)⟩ := by rw [hrow _ (Nat.le_refl _), List.take_length]
  have hgl : (lnsT T).getD (4 + T.ls.length) [] = [46, 101] := by
    have e : lnsT T = ((lnsT T).take 4 ++ T.ls.map (lnT T.ni)) ++ [[46, 101]] := rfl
    rw [e]
    have := getD_appR ((lnsT T).take 4 ++ T.ls.map (lnT T.ni)) [[46, 101]] 0
    have e2 : ((lnsT T).take 4 ++ T.ls.map (lnT T.ni)).length = 4 + T.ls.length := by simp [lnsT]; omega
    rw [e2] at this
    exact this
  have hfin : rdK (lnsT T) (T.ls.length + 5) = ⟨T, 5, (T.ls.length : Int)⟩ := by
    rw [show T.ls.length + 5 = (4 + T.ls.length) + 1 by omega, rdK_succ (by omega), hall, hgl, (step_take (skip_46 [101])).1, hlast]
  have hq : ∀ q, q < T.ls.length + 5 → errT (rdK (linesL (printT T)) q) ((linesL (printT T)).getD q []) = 0 := fun q hq => by
    rw [hget q hq, hrd q (by omega)]
    have r1 : rdK (lnsT T) 1 = stepT rd0 ((lnsT T).getD 0 []) := rfl
    have r2 : rdK (lnsT T) 2 = stepT (stepT rd0 ((lnsT T).getD 0 [])) ((lnsT T).getD 1 []) := rfl
    have r3 : rdK (lnsT T) 3 = stepT (stepT (stepT rd0 ((lnsT T).getD 0 [])) ((lnsT T).getD 1 [])) ((lnsT T).getD 2 []) := rfl
    by_cases h4 : q < 4
    · match q, h4 with
      | 0, _ => exact q0
      | 1, _ => rw [r1]; exact q1
      | 2, _ => rw [r2]; exact q2
      | 3, _ => rw [r3]; exact q3
    · obtain ⟨k, rfl⟩ : ∃ k, q = 4 + k := ⟨q - 4, by omega⟩
      by_cases hk : k < T.ls.length
      · rw [hrow k (by omega)]
        have hl := right_ln h hk
        have hg : (lnsT T).getD (4 + k) [] = lnT T.ni (T.ls.getD k ln0) := by
          have := getD_appR ((lnsT T).take 4) (T.ls.map (lnT T.ni) ++ [[46, 101]]) k
          rw [← hsplit] at this
          refine this.trans ?_
          simp only [List.getD_eq_getElem?_getD]
          rw [List.getElem?_append_left (by simpa using hk), List.getElem?_map, List.getElem?_eq_getElem hk]
          rfl
        rw [hg]
        exact (read_line hl hi0 (ls := T.ls.take k) (by rw [List.length_take]; omega)).2
      · obtain rfl : k = T.ls.length := by omega
        rw [hall, hgl, (step_take (skip_46 [101])).2, hlast]
  have hend : (linesL (printT T)).getD (T.ls.length + 5) [] = [] := by
    rw [hL]
    have := getD_appR (lnsT T) [[]] 0
    rw [hlen] at this
    exact this
  have hT := printT_len h
  rw [prs_ok (by omega) hn hq hend (by rw [hrd _ (Nat.le_refl _), hfin]), hrd _ (Nat.le_refl _), hfin]
end

end Go.Proofs.YtnkaebjaeaecmaaDoor
