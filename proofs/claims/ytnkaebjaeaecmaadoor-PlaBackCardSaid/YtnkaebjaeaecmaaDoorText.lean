/-
  The texts of cubes, lines and tables, as they are written. No program in it.
-/
import Derived.Test.YtnkaebjaeaecmaaDoorTab
namespace Go.Proofs.YtnkaebjaeaecmaaDoor
set_option linter.unusedVariables false
set_option linter.unusedSimpArgs false
open Go Go.RowKit

/-! ### A cube's text -/
def chB (m u i : Nat) : UInt8 := if m / 2 ^ i % 2 = 0 then 45 else if u / 2 ^ i % 2 = 0 then 48 else 49
def texC (m u k : Nat) : List UInt8 := (List.range k).map (chB m u)
def texI (m u n k : Nat) : List Int := (List.range n).map fun i => if i < k then ((chB m u i).toNat : Int) else 0
section
variable {m u n k : Nat} {x : Int}
theorem texC_succ (m u k : Nat) : texC m u (k + 1) = texC m u k ++ [chB m u k] := by simp [texC, List.range_succ]
theorem texC_len (m u k : Nat) : (texC m u k).length = k := by simp [texC]
theorem texI_len (m u n k : Nat) : (texI m u n k).length = n := by simp [texI]
theorem texI_zero (m u n : Nat) : List.replicate n (0 : Int) = texI m u n 0 := by
  refine List.ext_getElem (by simp [texI]) fun i h1 h2 => ?_
  simp [texI]
theorem texI_set (hk : k < n) (hx : x = ((chB m u k).toNat : Int)) : (texI m u n k).set k x = texI m u n (k + 1) := by
  refine List.ext_getElem (by simp [texI]) fun i h1 h2 => ?_
  have hi : i < n := by simpa [texI] using h2
  rw [List.getElem_set]
  by_cases h : k = i
  · subst h; simp [texI, hx]
  · rw [if_neg h]
    simp only [texI, List.getElem_map, List.getElem_range]
    by_cases h3 : i < k
    · rw [if_pos h3, if_pos (by omega)]
    · rw [if_neg h3, if_neg (by omega)]
theorem texI_all (m u n : Nat) : bytesL (texI m u n n) = texC m u n := by
  unfold bytesL texI texC
  rw [List.map_map]
  refine List.map_congr_left fun i hi => ?_
  have h := List.mem_range.1 hi
  simp [h]
theorem ch_dash (h : ((m / 2 ^ k &&& 1 : Nat) : Int) = 0) : (45 : Int) = ((chB m u k).toNat : Int) := by
  rw [and_one] at h
  unfold chB
  rw [if_pos (by omega)]
  rfl
theorem ch_0 (h : ¬ ((m / 2 ^ k &&& 1 : Nat) : Int) = 0) (h2 : ((u / 2 ^ k &&& 1 : Nat) : Int) = 0) : (48 : Int) = ((chB m u k).toNat : Int) := by
  rw [and_one] at h h2
  unfold chB
  rw [if_neg (by omega), if_pos (by omega)]
  rfl
theorem ch_1 (h : ¬ ((m / 2 ^ k &&& 1 : Nat) : Int) = 0) (h2 : ¬ ((u / 2 ^ k &&& 1 : Nat) : Int) = 0) : (49 : Int) = ((chB m u k).toNat : Int) := by
  rw [and_one] at h h2
  unfold chB
  rw [if_neg (by omega), if_neg (by omega)]
  rfl
def dashL : List (List UInt8) := [[48], [49], [45]]
theorem dashL_len : dashL.length = 3 := rfl
theorem dash_lit : dashL.getD (lit m u k).toNat [] = [chB m u k] := by
  unfold lit chB
  by_cases h : m / 2 ^ k % 2 = 0
  · rw [if_pos h, if_pos h]; rfl
  · rw [if_neg h, if_neg h]
    by_cases h2 : u / 2 ^ k % 2 = 0
    · rw [if_pos h2, h2]; rfl
    · rw [if_neg h2, show u / 2 ^ k % 2 = 1 by omega]; rfl
theorem lits_get8 (h : k < 8) : (litsS m u).getD k 0 = lit m u k := litsTo_get h
theorem lits_len8 : (litsS m u).length = 8 := litsTo_len m u 8
theorem tex_step (h : k < 8) : keyW (texC m u k ++ dashL.getD ((litsS m u).getD (k : Int).toNat 0).toNat []) = keyW (texC m u (k + 1)) := by
  rw [Int.toNat_natCast, lits_get8 h, dash_lit, texC_succ]
end

/-! ### A line's text -/
def outC (x : Int) : UInt8 := if x = 0 then 48 else if x = 1 then 49 else 45
def outsT (os : List Int) : List UInt8 := os.map outC
def lineT (m u : Nat) (n : Int) (os : List Int) : List UInt8 := (texC m u n.toNat ++ [32]) ++ outsT os
section
variable {m u n k : Nat} {x : Int} {os : List Int} {a : List UInt8}
theorem outsT_len (os : List Int) : (outsT os).length = os.length := by simp [outsT]
theorem outs_step (hk : k < os.length) : outsT (os.take (k + 1)) = outsT (os.take k) ++ [outC (os.getD k 0)] := by
  unfold outsT
  rw [List.take_add_one, List.getElem?_eq_getElem hk, List.map_append, List.getD_eq_getElem?_getD, List.getElem?_eq_getElem hk]
  rfl
theorem dash_out (h : 0 ≤ x ∧ x < 3) : dashL.getD x.toNat [] = [outC x] := by
  have : x = 0 ∨ x = 1 ∨ x = 2 := by omega
  rcases this with rfl | rfl | rfl <;> rfl
theorem marks_out {q : Nat} (hq : x = (q : Int)) (h : q < 3) : (([48, 49, 45] : List UInt8).drop q).take (q + 1 - q) = [outC x] := by
  subst hq
  have : q = 0 ∨ q = 1 ∨ q = 2 := by omega
  rcases this with rfl | rfl | rfl <;> rfl
theorem line_step (hk : k < os.length) (h : 0 ≤ os.getD (k : Int).toNat 0 ∧ os.getD (k : Int).toNat 0 < 3) : keyW ((a ++ outsT (os.take k)) ++ dashL.getD (os.getD (k : Int).toNat 0).toNat []) = keyW (a ++ outsT (os.take (k + 1))) := by
  rw [dash_out h, Int.toNat_natCast, outs_step hk, List.append_assoc]
theorem line_stepM (hk : k < os.length) {q : Nat} (hq : os.getD (k : Int).toNat 0 = (q : Int)) (h : q < 3) : keyW ((a ++ outsT (os.take k)) ++ (([48, 49, 45] : List UInt8).drop q).take (q + 1 - q)) = keyW (a ++ outsT (os.take (k + 1))) := by
  rw [marks_out hq h, Int.toNat_natCast, outs_step hk, List.append_assoc]
theorem outs_0 : keyW a = keyW (a ++ outsT (os.take 0)) := by simp [outsT]
theorem outs_len_k {k : Nat} : (outsT (os.take k)).length ≤ os.length := by rw [outsT_len, List.length_take]; omega
end

/-! ### A table's text -/
def kindsL : List (List UInt8) := [[102], [102, 100], [102, 114], [102, 100, 114]]
theorem kindsL_len : kindsL.length = 4 := rfl
theorem kinds_len (k : Nat) : (kindsL.getD k []).length ≤ 3 := by
  match k with
  | 0 | 1 | 2 | 3 => decide
  | _ + 4 => exact Nat.zero_le 3
def headT (T : Tb) : List UInt8 := ([46, 105, 32] ++ dig2 T.ni.toNat ++ [10, 46, 111, 32] ++ dig2 T.no.toNat ++ [10, 46, 116, 121, 112, 101, 32] ++ kindsL.getD T.kind.toNat [] ++ [10, 46, 112, 32] ++ dig2 T.ls.length) ++ [10]
def lnT (ni : Int) (l : Ln) : List UInt8 := lineT l.c.m l.c.v ni l.os
def printTo (T : Tb) : Nat → List UInt8
  | 0 => headT T
  | k + 1 => (printTo T k ++ lnT T.ni (T.ls.getD k ln0)) ++ [10]
def printT (T : Tb) : List UInt8 := printTo T T.ls.length ++ [46, 101, 10]
section
variable {T : Tb} {k j : Nat} {n : Int}
theorem right_hd (h : rightT T = true) : 0 ≤ T.kind ∧ T.kind ≤ 3 ∧ 0 ≤ T.ni ∧ T.ni ≤ 8 ∧ 1 ≤ T.no ∧ T.no ≤ 4 ∧ T.ls.length ≤ 64 := by
  unfold rightT at h
  rw [Bool.and_eq_true] at h
  exact of_decide_eq_true h.1
theorem right_ln (h : rightT T = true) (hk : k < T.ls.length) : lnOk T.ni T.no (T.ls.getD k ln0) = true := by
  unfold rightT at h
  rw [Bool.and_eq_true] at h
  exact List.all_eq_true.1 h.2 _ (getD_memL hk)
theorem lnOk_iff {ni no : Int} {l : Ln} : lnOk ni no l = true ↔ rightB l.c.m l.c.v ni = true ∧ (l.os.length : Int) = no ∧ ∀ x, x ∈ l.os → 0 ≤ x ∧ x < 3 := by
  unfold lnOk outOk
  simp [and_assoc]
theorem itoa_nn (h0 : 0 ≤ n) (h : n < 100) : Lib.itoa n = dig2 n.toNat := by
  obtain ⟨q, rfl⟩ := Int.eq_ofNat_of_zero_le h0
  exact itoa_dig2 (by omega)
theorem headT_len (T : Tb) : (headT T).length ≤ 40 := by
  unfold headT
  have h1 := dig2_len T.ni.toNat
  have h2 := dig2_len T.no.toNat
  have h3 := dig2_len T.ls.length
  have h4 := kinds_len T.kind.toNat
  simp only [List.length_append, List.length_cons, List.length_nil]
  omega
theorem lnT_len {ni no : Int} {l : Ln} (h : lnOk ni no l = true) (hn : ni ≤ 8) (ho : no ≤ 4) : (lnT ni l).length ≤ 13 := by
  obtain ⟨_, h2, _⟩ := lnOk_iff.1 h
  unfold lnT lineT
  simp only [List.length_append, List.length_cons, List.length_nil, texC_len, outsT_len]
  omega
theorem printTo_len (h : rightT T = true) : ∀ k, k ≤ T.ls.length → (printTo T k).length ≤ 40 + 14 * k
  | 0, _ => by have := headT_len T; simpa [printTo] using this
  | k + 1, hk => by
    have ih := printTo_len h k (by omega)
    obtain ⟨_, _, _, h8, _, h4, _⟩ := right_hd h
    have hl := lnT_len (right_ln h (show k < T.ls.length by omega)) h8 h4
    rw [printTo]
    simp only [List.length_append, List.length_cons, List.length_nil]
    omega
theorem print_step {c : Cb} (hc : c = (T.ls.getD k ln0).c) : keyW ((printTo T k ++ lineT c.m c.v T.ni (T.ls.getD k ln0).os) ++ [10]) = keyW (printTo T (k + 1)) := by subst hc; rfl
theorem print_stepM {c : Cb} (hc : c = (T.ls.getD k ln0).c) (hj : j = (T.ls.getD k ln0).os.length) : keyW (((printTo T k ++ (texC c.m c.v T.ni.toNat ++ [32])) ++ outsT ((T.ls.getD k ln0).os.take j)) ++ [10]) = keyW (printTo T (k + 1)) := by
  subst hj
  subst hc
  rw [printTo, lnT, lineT, List.take_length]
  simp only [List.append_assoc]
theorem head_0 {q : Nat} (hq : q = T.ls.length) : keyW (([46, 105, 32] ++ dig2 T.ni.toNat ++ [10, 46, 111, 32] ++ dig2 T.no.toNat ++ [10, 46, 116, 121, 112, 101, 32] ++ kindsL.getD T.kind.toNat [] ++ [10, 46, 112, 32] ++ dig2 (q : Int).toNat) ++ [10]) = keyW (printTo T 0) := by
  subst hq; rfl
theorem head_i {q : Nat} (hq : q = T.ls.length) (h0 : 0 ≤ T.ni) (h1 : T.ni < 100) (h2 : 0 ≤ T.no) (h3 : T.no < 100) (h4 : q < 100) : keyW (([46, 105, 32] ++ Lib.itoa T.ni ++ [10, 46, 111, 32] ++ Lib.itoa T.no ++ [10, 46, 116, 121, 112, 101, 32] ++ kindsL.getD T.kind.toNat [] ++ [10, 46, 112, 32] ++ Lib.itoa (q : Int)) ++ [10]) = keyW (printTo T 0) := by
  rw [itoa_nn h0 h1, itoa_nn h2 h3, itoa_nn (by omega) (by omega)]
  exact head_0 hq
theorem itoa_len (h0 : 0 ≤ n) (h : n < 100) : (Lib.itoa n).length ≤ 2 := by rw [itoa_nn h0 h]; exact dig2_len _
end

end Go.Proofs.YtnkaebjaeaecmaaDoor
