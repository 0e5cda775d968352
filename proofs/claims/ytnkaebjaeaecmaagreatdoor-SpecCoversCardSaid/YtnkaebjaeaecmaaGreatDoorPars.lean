/-
  How a text is read: line by line, by stages. The lines that a reader has, as they lie. No program in it.
-/
import Derived.Test.YtnkaebjaeaecmaaGreatDoorText
import Derived.Test.YtnkaebjaeaecmaaGreatDoorDx
namespace Go.Proofs.YtnkaebjaeaecmaaGreatDoor
set_option linter.unusedVariables false
set_option linter.unusedSimpArgs false
open Go Go.RowKit

/-! ### Lines as they lie, each with outputs that are a row of the call's own -/
structure LsO (Ti : TypeId) (N : Nat) (w : World) (vs : List LnV) (ls : List Ln) : Prop where
  len : vs.length = ls.length
  c : ∀ i, i < ls.length → (vs.getD i lv0).c = (ls.getD i ln0).c
  o : ∀ i, i < ls.length → OwT encI 1 Ti w N (vs.getD i lv0).o (ls.getD i ln0).os
section
variable {Ti T' : TypeId} {N N' : Nat} {w w' W : World} {vs : List LnV} {ls : List Ln}
theorem LsO.nil : LsO Ti N w [] [] := ⟨rfl, fun i hi => (by cases hi), fun i hi => (by cases hi)⟩
theorem LsO.at (k : LsO Ti N w vs ls) : LsAt w vs ls := ⟨k.len, k.c, fun i hi => (k.o i hi).sl⟩
theorem LsO.ext (h : Ext w w') (k : LsO Ti N w vs ls) : LsO Ti N w' vs ls := ⟨k.len, k.c, fun i hi => h.ow (k.o i hi)⟩
theorem LsO.mono (k : LsO Ti N w vs ls) (h : N' ≤ N) : LsO Ti N' w vs ls := ⟨k.len, k.c, fun i hi => (k.o i hi).mono h⟩
theorem LsO.below (h : Go.RowKit.Below w.heap.size w W) (k : LsO Ti N w vs ls) : LsO Ti N W vs ls := ⟨k.len, k.c, fun i hi => Below.ow h (k.o i hi)⟩
theorem LsO.grownAt {b : Nat} {c : Array Value} (k : LsO Ti N w vs ls) (hm : At w b c T') (hG : w.grownBy w' (some b)) (hT : T' ≠ Ti) : LsO Ti N w' vs ls := ⟨k.len, k.c, fun i hi => (k.o i hi).grownAt hm hG hT⟩
theorem LsO.grownOw {α : Type} {enc : α → List Value} {sz : Nat} {v : Value} {l : List α} (k : LsO Ti N w vs ls) (h : OwT enc sz T' w N' v l) (hG : w.grownBy w' v.ownBlock) (hT : T' ≠ Ti) : LsO Ti N w' vs ls := ⟨k.len, k.c, fun i hi => (k.o i hi).grownOw h hG hT.symm⟩
theorem LsO.snoc {x : LnV} {l : Ln} (k : LsO Ti N w vs ls) (hc : x.c = l.c) (ho : OwT encI 1 Ti w N x.o l.os) : LsO Ti N w (vs ++ [x]) (ls ++ [l]) := by
  have hl := k.len
  refine ⟨by simp [hl], fun i hi => ?_, fun i hi => ?_⟩
  all_goals
    rw [List.length_append, List.length_singleton] at hi
    by_cases h1 : i < ls.length
    · have e1 : (vs ++ [x]).getD i lv0 = vs.getD i lv0 := by simp only [List.getD_eq_getElem?_getD]; rw [List.getElem?_append_left (by omega)]
      have e2 : (ls ++ [l]).getD i ln0 = ls.getD i ln0 := by simp only [List.getD_eq_getElem?_getD]; rw [List.getElem?_append_left (by omega)]
      rw [e1, e2]
      first | exact k.c i h1 | exact k.o i h1
    · obtain rfl : i = ls.length := by omega
      have e1 : (vs ++ [x]).getD ls.length lv0 = x := by simp only [List.getD_eq_getElem?_getD]; rw [List.getElem?_append_right (by omega), hl, Nat.sub_self]; rfl
      have e2 : (ls ++ [l]).getD ls.length ln0 = l := by simp only [List.getD_eq_getElem?_getD]; rw [List.getElem?_append_right (by omega), Nat.sub_self]; rfl
      rw [e1, e2]
      first | exact hc | exact ho
theorem LsAt.ext (h : Ext w w') (k : LsAt w vs ls) : LsAt w' vs ls := ⟨k.len, k.c, fun i hi => h.slT (k.o i hi)⟩
theorem LsAt.nil : LsAt w [] [] := ⟨rfl, fun i hi => (by cases hi), fun i hi => by cases hi⟩
end

theorem one_tb {a b c : Int} {v : Value} (h : v.oneCell' = true) : (#[Value.int .i64 a, .int .i64 b, .int .i64 c, v] : Array Value).toList.all Value.oneCell' = true := by
  simp only [List.all_cons, List.all_nil, h]
  rfl

/-! ### A line of the table -/
def outR (b : Nat) : Int := if b = 45 then 2 else (b : Int) - 48
def outsR (s : List UInt8) : List Int := s.map fun b => outR b.toNat
def rowOk (ni no : Int) (line : List UInt8) : Bool :=
  (Lib.cut line [32]).2.2 && (cubOk (Lib.cut line [32]).1 && (decide (((Lib.cut line [32]).1.length : Int) = ni) && (decide (((Lib.cut line [32]).2.1.length : Int) = no) && (List.range (Lib.cut line [32]).2.1.length).all fun i => chOk (byN (Lib.cut line [32]).2.1 i))))
def rowL (line : List UInt8) : Ln := ⟨cubT (Lib.cut line [32]).1, outsR (Lib.cut line [32]).2.1⟩
section
variable {P : Program} {f : Nat → Value} {w : World} {d : Option Nat} {ty : TypeId} {ps : String} {af : Array Edge} {g : Option (Nat × Bool)} {x y : Operand} {t t2 : TypeId}
theorem r_subN32 {m n : Nat} {b : Int} (hx : evF f x = .int .i32 (m : Int)) (hy : evF f y = .int .i32 b) (hb : b = (n : Int)) (h : n ≤ m) (hm : m < 2147483648) :
    (execOp (evF f) ⟨d, .binOp .sub t x y t2, ty, ps, af, g⟩).run P w = .ok (.value (.int .i32 ((m - n : Nat) : Int))) w := by
  subst hb
  rw [r_sub hx hy, show (m : Int) - (n : Int) = ((m - n : Nat) : Int) by omega, wrap_nat (show m - n < topN .i32 by simp only [topN]; omega)]
theorem r_pred {m n : Nat} (hx : evF f x = .int .i64 (m : Int)) (hy : evF f y = .int .i64 1) (hm : m = n + 1) (hn : n < 9223372036854775807) :
    (execOp (evF f) ⟨d, .binOp .sub t x y t2, ty, ps, af, g⟩).run P w = .ok (.value (.int .i64 (n : Int))) w := by
  rw [r_subI hx hy (by omega) (by omega), show (m : Int) - 1 = (n : Int) by omega]
end
section
variable {s line : List UInt8} {i r : Nat} {x ni no : Int}
theorem cut_len (s p : List UInt8) : (Lib.cut s p).1.length ≤ s.length ∧ (Lib.cut s p).2.1.length ≤ s.length := by
  unfold Lib.cut
  split
  · simp only [List.length_take, List.length_drop]; omega
  · exact ⟨Nat.le_refl _, Nat.zero_le _⟩
theorem outsR_len (s : List UInt8) : (outsR s).length = s.length := by simp [outsR]
theorem outsR_snoc (h : i < s.length) (hx : x = outR (byN s i)) : outsR (s.take (i + 1)) = outsR (s.take i) ++ [x] := by
  unfold outsR
  rw [List.take_add_one, List.getElem?_eq_getElem h, List.map_append, hx]
  unfold byN
  rw [List.getD_eq_getElem?_getD, List.getElem?_eq_getElem h]
  rfl
theorem outR_a (h : byN s i = 48 ∨ byN s i = 49) (hr : r = byN s i) : ((r - 48 : Nat) : Int) = outR (byN s i) := by
  unfold outR; rw [if_neg (by omega)]; omega
theorem outR_b (h : byN s i = 45) : (2 : Int) = outR (byN s i) := by rw [h]; rfl
theorem row_n1 (h : (!(Lib.cut line [32]).2.2) = true) : rowOk ni no line = false := by
  unfold rowOk
  cases h2 : (Lib.cut line [32]).2.2 with
  | false => rfl
  | true => rw [h2] at h; cases h
theorem row_n2 (h : ¬ cubOk (Lib.cut line [32]).1 = true) : rowOk ni no line = false := by
  unfold rowOk
  rw [Bool.eq_false_iff.2 h, Bool.false_and, Bool.and_false]
theorem row_n3 (h : ¬ ((Lib.cut line [32]).1.length : Int) = ni) : rowOk ni no line = false := by
  unfold rowOk
  rw [decide_eq_false h, Bool.false_and, Bool.and_false, Bool.and_false]
theorem row_n4 (h : ¬ ((Lib.cut line [32]).2.1.length : Int) = no) : rowOk ni no line = false := by
  unfold rowOk
  rw [decide_eq_false h, Bool.false_and, Bool.and_false, Bool.and_false, Bool.and_false]
theorem row_n5 (hi : i < (Lib.cut line [32]).2.1.length) (h : chOk (byN (Lib.cut line [32]).2.1 i) = false) : rowOk ni no line = false := by
  unfold rowOk
  have e : ((List.range (Lib.cut line [32]).2.1.length).all fun i => chOk (byN (Lib.cut line [32]).2.1 i)) = false := Bool.eq_false_iff.2 fun k => by
    rw [List.all_eq_true.1 k i (List.mem_range.2 hi)] at h
    cases h
  rw [e, Bool.and_false, Bool.and_false, Bool.and_false, Bool.and_false]
theorem row_y (h1 : (!(Lib.cut line [32]).2.2) = false) (h2 : cubOk (Lib.cut line [32]).1 = true) (h3 : ¬ ¬ ((Lib.cut line [32]).1.length : Int) = ni) (h4 : ¬ ¬ ((Lib.cut line [32]).2.1.length : Int) = no) (h5 : ∀ q, q < (Lib.cut line [32]).2.1.length → chOk (byN (Lib.cut line [32]).2.1 q) = true) : rowOk ni no line = true := by
  unfold rowOk
  rw [h2, decide_eq_true (Decidable.of_not_not h3), decide_eq_true (Decidable.of_not_not h4), List.all_eq_true.2 fun q hq => h5 q (List.mem_range.1 hq)]
  simpa using h1
theorem rowOk_iff : rowOk ni no line = true ↔ (Lib.cut line [32]).2.2 = true ∧ cubOk (Lib.cut line [32]).1 = true ∧ ((Lib.cut line [32]).1.length : Int) = ni ∧ ((Lib.cut line [32]).2.1.length : Int) = no ∧ ∀ q, q < (Lib.cut line [32]).2.1.length → chOk (byN (Lib.cut line [32]).2.1 q) = true := by
  unfold rowOk
  simp [List.all_eq_true]
end

/-! ### A reader, and what a line does to it -/
structure Rd where
  T : Tb
  st : Int
  told : Int
def tb0 : Tb := ⟨0, 0, 0, []⟩
def rd0 : Rd := ⟨⟨1, 0, 0, []⟩, 0, -1⟩
def okE (b : Bool) : Int := if b = true then 0 else 2
def typeW : List UInt8 := [46, 116, 121, 112, 101, 32]
def kindO (s : List UInt8) : Option Nat := if s = [102] then some 0 else if s = [102, 100] then some 1 else if s = [102, 114] then some 2 else if s = [102, 100, 114] then some 3 else none
def takeT (r : Rd) (l : List UInt8) : Rd × Int :=
  if r.st = 0 then (⟨{ r.T with ni := numP l [46, 105] 0 8 }, r.st + 1, r.told⟩, okE (decide (numP l [46, 105] 0 8 ≥ 0)))
  else if r.st = 1 then (⟨{ r.T with no := numP l [46, 111] 1 4 }, r.st + 1, r.told⟩, okE (decide (numP l [46, 111] 1 4 ≥ 0)))
  else if r.st = 5 then (r, 2)
  else if Lib.hasPrefix l typeW = true ∧ r.st = 2 then
    match kindO (Lib.trimPrefix l typeW) with
    | some k => (⟨{ r.T with kind := k }, 3, r.told⟩, 0)
    | none => (⟨r.T, 3, r.told⟩, 2)
  else if numP l [46, 112] 0 64 ≥ 0 ∧ r.st ≤ 3 then (⟨r.T, 4, numP l [46, 112] 0 64⟩, 0)
  else if l = [46, 101] then (⟨r.T, 5, r.told⟩, okE (decide (r.told < 0) || decide (r.told = (r.T.ls.length : Int))))
  else if rowOk r.T.ni r.T.no l = true then (⟨{ r.T with ls := r.T.ls ++ [rowL l] }, 4, r.told⟩, if r.T.ls.length = 64 then 3 else 0)
  else (⟨r.T, 4, r.told⟩, 2)
section
variable {r : Rd} {l : List UInt8} {i k : Nat}
theorem tk_0 (h : r.st = 0) : takeT r l = (⟨{ r.T with ni := numP l [46, 105] 0 8 }, r.st + 1, r.told⟩, okE (decide (numP l [46, 105] 0 8 ≥ 0))) := by unfold takeT; rw [if_pos h]
theorem tk_1 (h0 : ¬ r.st = 0) (h : r.st = 1) : takeT r l = (⟨{ r.T with no := numP l [46, 111] 1 4 }, r.st + 1, r.told⟩, okE (decide (numP l [46, 111] 1 4 ≥ 0))) := by unfold takeT; rw [if_neg h0, if_pos h]
theorem tk_5 (h0 : ¬ r.st = 0) (h1 : ¬ r.st = 1) (h : r.st = 5) : takeT r l = (r, 2) := by unfold takeT; rw [if_neg h0, if_neg h1, if_pos h]
theorem kindO_some (hi : i < 4) (h : kindsL.getD i [] = l) : kindO l = some i := by
  subst h
  match i, hi with
  | 0, _ | 1, _ | 2, _ | 3, _ => decide
theorem kindO_none (h : ∀ q, q < 4 → ¬ kindsL.getD q [] = l) : kindO l = none := by
  unfold kindO
  rw [if_neg fun e => h 0 (by decide) e.symm, if_neg fun e => h 1 (by decide) e.symm, if_neg fun e => h 2 (by decide) e.symm, if_neg fun e => h 3 (by decide) e.symm]
theorem tk_k (h0 : ¬ r.st = 0) (h1 : ¬ r.st = 1) (h5 : ¬ r.st = 5) (hp : Lib.hasPrefix l typeW = true) (h2 : r.st = 2) (hi : i < 4) (hk : kindsL.getD i [] = Lib.trimPrefix l typeW) : takeT r l = (⟨{ r.T with kind := (i : Int) }, 3, r.told⟩, 0) := by
  unfold takeT; rw [if_neg h0, if_neg h1, if_neg h5, if_pos ⟨hp, h2⟩, kindO_some hi hk]
theorem tk_kn (h0 : ¬ r.st = 0) (h1 : ¬ r.st = 1) (h5 : ¬ r.st = 5) (hp : Lib.hasPrefix l typeW = true) (h2 : r.st = 2) (hk : ∀ q, q < 4 → ¬ kindsL.getD q [] = Lib.trimPrefix l typeW) : takeT r l = (⟨r.T, 3, r.told⟩, 2) := by
  unfold takeT; rw [if_neg h0, if_neg h1, if_neg h5, if_pos ⟨hp, h2⟩, kindO_none hk]
theorem tk_p (h0 : ¬ r.st = 0) (h1 : ¬ r.st = 1) (h5 : ¬ r.st = 5) (hp : ¬ (Lib.hasPrefix l typeW = true ∧ r.st = 2)) (hn : numP l [46, 112] 0 64 ≥ 0) (h3 : r.st ≤ 3) : takeT r l = (⟨r.T, 4, numP l [46, 112] 0 64⟩, 0) := by
  unfold takeT; rw [if_neg h0, if_neg h1, if_neg h5, if_neg hp, if_pos ⟨hn, h3⟩]
theorem tk_e (h0 : ¬ r.st = 0) (h1 : ¬ r.st = 1) (h5 : ¬ r.st = 5) (hp : ¬ (Lib.hasPrefix l typeW = true ∧ r.st = 2)) (hn : ¬ (numP l [46, 112] 0 64 ≥ 0 ∧ r.st ≤ 3)) (he : l = [46, 101]) : takeT r l = (⟨r.T, 5, r.told⟩, okE (decide (r.told < 0) || decide (r.told = (r.T.ls.length : Int)))) := by
  unfold takeT; rw [if_neg h0, if_neg h1, if_neg h5, if_neg hp, if_neg hn, if_pos he]
theorem tk_r (h0 : ¬ r.st = 0) (h1 : ¬ r.st = 1) (h5 : ¬ r.st = 5) (hp : ¬ (Lib.hasPrefix l typeW = true ∧ r.st = 2)) (hn : ¬ (numP l [46, 112] 0 64 ≥ 0 ∧ r.st ≤ 3)) (he : ¬ l = [46, 101]) (hr : rowOk r.T.ni r.T.no l = true) : takeT r l = (⟨{ r.T with ls := r.T.ls ++ [rowL l] }, 4, r.told⟩, if r.T.ls.length = 64 then 3 else 0) := by
  unfold takeT; rw [if_neg h0, if_neg h1, if_neg h5, if_neg hp, if_neg hn, if_neg he, if_pos hr]
theorem tk_rn (h0 : ¬ r.st = 0) (h1 : ¬ r.st = 1) (h5 : ¬ r.st = 5) (hp : ¬ (Lib.hasPrefix l typeW = true ∧ r.st = 2)) (hn : ¬ (numP l [46, 112] 0 64 ≥ 0 ∧ r.st ≤ 3)) (he : ¬ l = [46, 101]) (hr : rowOk r.T.ni r.T.no l = false) : takeT r l = (⟨r.T, 4, r.told⟩, 2) := by
  unfold takeT; rw [if_neg h0, if_neg h1, if_neg h5, if_neg hp, if_neg hn, if_neg he, if_neg (by rw [hr]; decide)]
theorem take_ls : (takeT r l).1.T.ls = r.T.ls ∨ (takeT r l).1.T.ls = r.T.ls ++ [rowL l] ∧ (rowOk r.T.ni r.T.no l = true ∧ (takeT r l).2 = if r.T.ls.length = 64 then 3 else 0) := by
  unfold takeT
  by_cases h0 : r.st = 0; · rw [if_pos h0]; exact .inl rfl
  rw [if_neg h0]
  by_cases h1 : r.st = 1; · rw [if_pos h1]; exact .inl rfl
  rw [if_neg h1]
  by_cases h5 : r.st = 5; · rw [if_pos h5]; exact .inl rfl
  rw [if_neg h5]
  by_cases hp : Lib.hasPrefix l typeW = true ∧ r.st = 2; · rw [if_pos hp]; cases kindO (Lib.trimPrefix l typeW) <;> exact .inl rfl
  rw [if_neg hp]
  by_cases hn : numP l [46, 112] 0 64 ≥ 0 ∧ r.st ≤ 3; · rw [if_pos hn]; exact .inl rfl
  rw [if_neg hn]
  by_cases he : l = [46, 101]; · rw [if_pos he]; exact .inl rfl
  rw [if_neg he]
  by_cases hr : rowOk r.T.ni r.T.no l = true
  · rw [if_pos hr]; exact .inr ⟨rfl, hr, rfl⟩
  · rw [if_neg hr]; exact .inl rfl
theorem take_len (h : r.T.ls.length ≤ 64) (he : (takeT r l).2 = 0) : (takeT r l).1.T.ls.length ≤ 64 := by
  rcases take_ls (r := r) (l := l) with h1 | ⟨h1, _, h2⟩
  · rw [h1]; exact h
  · rw [h2] at he
    split at he
    · cases he
    · rw [h1, List.length_append, List.length_singleton]; omega
end

/-- The reader's memory. -/
def RdAt (Tr Tl Ti : TypeId) (N : Nat) (w : World) (br : Nat) (r : Rd) : Prop :=
  ∃ lv vs, At w br #[.int .i64 r.T.kind, .int .i64 r.T.ni, .int .i64 r.T.no, lv, .int .i64 r.st, .int .i64 r.told] Tr ∧ OwT encLn 3 Tl w N lv vs ∧ LsO Ti N w vs r.T.ls
section
variable {Tr Tl Ti T' : TypeId} {N N' br : Nat} {w w' W : World} {r : Rd}
theorem RdAt.ext (h : Ext w w') (k : RdAt Tr Tl Ti N w br r) : RdAt Tr Tl Ti N w' br r := by
  obtain ⟨lv, vs, h1, h2, h3⟩ := k
  exact ⟨lv, vs, h.at h1, h.ow h2, h3.ext h⟩
theorem RdAt.grownAt {b : Nat} {c : Array Value} (k : RdAt Tr Tl Ti N w br r) (hm : At w b c T') (hG : w.grownBy w' (some b)) (h1 : T' ≠ Tr) (h2 : T' ≠ Tl) (h3 : T' ≠ Ti) : RdAt Tr Tl Ti N w' br r := by
  obtain ⟨lv, vs, a1, a2, a3⟩ := k
  exact ⟨lv, vs, a1.grownAt hm hG h1.symm, a2.grownAt hm hG h2, a3.grownAt hm hG h3⟩
theorem RdAt.below (h : Go.RowKit.Below w.heap.size w W) (k : RdAt Tr Tl Ti N w br r) : RdAt Tr Tl Ti N W br r := by
  obtain ⟨lv, vs, h1, h2, h3⟩ := k
  exact ⟨lv, vs, Below.atI h h1, Below.ow h h2, h3.below h⟩
/-- What a reader leaves as it was. -/
theorem At.rd {b : Nat} {c : Array Value} {T : TypeId} (hR : RdAt Tr Tl Ti N w br r) (hX : Dx Tl N [br] w w') (k : At w b c T) (h1 : T ≠ Tl) (h2 : T ≠ Tr) : At w' b c T := by
  obtain ⟨lv, vs, a1, _, _⟩ := hR
  have hne := At.neT k a1 h2
  unfold At at *
  rw [hX.block b (lt_of_block k) (.inr ⟨by simpa using hne, fun c' fr e => by rw [k] at e; simp at e; exact h1 e.2.1⟩)]
  exact k
theorem OwT.rd {α : Type} {enc : α → List Value} {sz : Nat} {T : TypeId} {v : Value} {l : List α} (hR : RdAt Tr Tl Ti N w br r) (hX : Dx Tl N [br] w w') (ho : OwT enc sz T w N' v l) (h1 : T ≠ Tl) (h2 : T ≠ Tr) : OwT enc sz T w' N' v l := by
  obtain ⟨q1, q2 | ⟨g, cap, cur, q3, hg, hh, q⟩⟩ := ho
  · exact ⟨q1, .inl q2⟩
  · exact ⟨q1, .inr ⟨g, cap, cur, q3, hg, At.rd (c := cur) hR hX hh h1 h2, q⟩⟩
end

/-! ### A text -/
def skipB (l : List UInt8) : Bool := decide (l = []) || decide (byN l 0 = 35)
def stepT (r : Rd) (l : List UInt8) : Rd := if skipB l = true then r else (takeT r l).1
def errT (r : Rd) (l : List UInt8) : Int := if skipB l = true then 0 else (takeT r l).2
def rdK (ls : List (List UInt8)) (k : Nat) : Rd := (ls.take k).foldl stepT rd0
/-- The first line that has an error. -/
def badK (ls : List (List UInt8)) (n : Nat) : Option Nat := (List.range n).find? fun k => decide (errT (rdK ls k) (ls.getD k []) ≠ 0)
def parseT (s : List UInt8) : Tb × Nat × Int :=
  if 8000 < s.length then (tb0, 0, 3)
  else match badK (linesL s) ((linesL s).length - 1) with
    | some k => (tb0, k, errT (rdK (linesL s) k) ((linesL s).getD k []))
    | none => if (linesL s).getD ((linesL s).length - 1) [] ≠ [] then (tb0, (linesL s).length - 1, 2)
      else if (rdK (linesL s) ((linesL s).length - 1)).st ≠ 5 then (tb0, (linesL s).length - 1, 7)
      else ((rdK (linesL s) ((linesL s).length - 1)).T, 0, 0)
section
variable {ls : List (List UInt8)} {s : List UInt8} {k n : Nat} {r : Rd} {l : List UInt8}
theorem rdK_zero : rdK ls 0 = rd0 := rfl
theorem rdK_succ (h : k < ls.length) : rdK ls (k + 1) = stepT (rdK ls k) (ls.getD k []) := by
  unfold rdK
  rw [List.take_add_one, List.getElem?_eq_getElem h, List.foldl_append, List.getD_eq_getElem?_getD, List.getElem?_eq_getElem h]
  rfl
theorem step_skip (h : skipB l = true) : stepT r l = r ∧ errT r l = 0 := by unfold stepT errT; rw [if_pos h, if_pos h]; exact ⟨rfl, rfl⟩
theorem step_take (h : skipB l = false) : stepT r l = (takeT r l).1 ∧ errT r l = (takeT r l).2 := by unfold stepT errT; rw [if_neg (by rw [h]; decide), if_neg (by rw [h]; decide)]; exact ⟨rfl, rfl⟩
theorem skip_nil (h : l = []) : skipB l = true := by rw [h]; rfl
theorem skip_hash (h : ((byN l 0 : Nat) : Int) = 35) : skipB l = true := by unfold skipB; rw [decide_eq_true (show byN l 0 = 35 by omega), Bool.or_true]
theorem skip_not (h : ¬ l = []) (h2 : ¬ ((byN l 0 : Nat) : Int) = 35) : skipB l = false := by unfold skipB; rw [decide_eq_false h, decide_eq_false (show ¬ byN l 0 = 35 by omega)]; rfl
theorem bad_some (hk : k < n) (h : ∀ q, q < k → errT (rdK ls q) (ls.getD q []) = 0) (he : ¬ errT (rdK ls k) (ls.getD k []) = 0) : badK ls n = some k := by
  unfold badK
  rw [List.find?_range_eq_some]
  refine ⟨by simpa using he, List.mem_range.2 hk, fun j hj => ?_⟩
  simpa using h j hj
theorem bad_none (h : ∀ q, q < n → errT (rdK ls q) (ls.getD q []) = 0) : badK ls n = none := by
  unfold badK
  rw [List.find?_eq_none]
  intro k hk
  simpa using h k (List.mem_range.1 hk)
theorem ls_len_k (h : ∀ q, q < k → errT (rdK ls q) (ls.getD q []) = 0) (hk : k ≤ ls.length) : (rdK ls k).T.ls.length ≤ 64 := by
  induction k with
  | zero => rw [rdK_zero]; decide
  | succ k ih =>
    rw [rdK_succ (by omega)]
    have h1 := ih (fun q hq => h q (by omega)) (by omega)
    have h2 := h k (by omega)
    cases hs : skipB (ls.getD k []) with
    | true => rw [(step_skip hs).1]; exact h1
    | false => rw [(step_take hs).1]; rw [(step_take hs).2] at h2; exact take_len h1 h2
theorem lines_len : ∀ (s l : List UInt8), l ∈ linesL s → l.length ≤ s.length
  | [], l, h => by
    rw [linesL, List.mem_singleton] at h
    rw [h]; exact Nat.le_refl _
  | b :: r, l, h => by
    have ih := lines_len r
    unfold linesL at h
    by_cases hb : b = 10
    · rw [if_pos hb] at h
      rcases List.mem_cons.1 h with rfl | h
      · exact Nat.zero_le _
      · have := ih l h; simp only [List.length_cons]; omega
    · rw [if_neg hb] at h
      cases hl : linesL r with
      | nil => exact absurd hl (linesL_ne r)
      | cons a t =>
        rw [hl] at h ih
        simp only at h
        rcases List.mem_cons.1 h with rfl | h
        · have := ih a (List.mem_cons_self); simp only [List.length_cons]; omega
        · have := ih l (List.mem_cons_of_mem _ h); simp only [List.length_cons]; omega
theorem lines_getD (s : List UInt8) (k : Nat) : ((linesL s).getD k []).length ≤ s.length := by
  rw [List.getD_eq_getElem?_getD]
  cases h : (linesL s)[k]? with
  | none => exact Nat.zero_le _
  | some l => exact lines_len s l (List.mem_of_getElem? h)
theorem lines_count (s : List UInt8) : (linesL s).length ≤ s.length + 1 := by
  induction s with
  | nil => exact Nat.le_refl _
  | cons b r ih =>
    unfold linesL
    by_cases hb : b = 10
    · rw [if_pos hb]; simp only [List.length_cons]; omega
    · rw [if_neg hb]
      cases hl : linesL r with
      | nil => exact absurd hl (linesL_ne r)
      | cons a t => rw [hl] at ih; simp only [List.length_cons] at *; omega
/-- The walk's ways out. -/
theorem prs_long (h : 8000 < s.length) : parseT s = (tb0, 0, 3) := by unfold parseT; rw [if_pos h]
theorem prs_bad (h : ¬ 8000 < s.length) (hn : (linesL s).length = n + 1) (hk : k < n) (hq : ∀ q, q < k → errT (rdK (linesL s) q) ((linesL s).getD q []) = 0) (he : ¬ errT (rdK (linesL s) k) ((linesL s).getD k []) = 0) : parseT s = (tb0, k, errT (rdK (linesL s) k) ((linesL s).getD k [])) := by
  unfold parseT
  rw [if_neg h, show (linesL s).length - 1 = n by omega, bad_some hk hq he]
theorem prs_tail (h : ¬ 8000 < s.length) (hn : (linesL s).length = n + 1) (hq : ∀ q, q < n → errT (rdK (linesL s) q) ((linesL s).getD q []) = 0) (he : ¬ (linesL s).getD n [] = []) : parseT s = (tb0, n, 2) := by
  unfold parseT
  rw [if_neg h, show (linesL s).length - 1 = n by omega, bad_none hq]
  simp only []
  rw [if_pos he]
theorem prs_none (h : ¬ 8000 < s.length) (hn : (linesL s).length = n + 1) (hq : ∀ q, q < n → errT (rdK (linesL s) q) ((linesL s).getD q []) = 0) (he : (linesL s).getD n [] = []) (h5 : ¬ (rdK (linesL s) n).st = 5) : parseT s = (tb0, n, 7) := by
  unfold parseT
  rw [if_neg h, show (linesL s).length - 1 = n by omega, bad_none hq]
  simp only []
  rw [if_neg (fun e => e he), if_pos h5]
theorem prs_ok (h : ¬ 8000 < s.length) (hn : (linesL s).length = n + 1) (hq : ∀ q, q < n → errT (rdK (linesL s) q) ((linesL s).getD q []) = 0) (he : (linesL s).getD n [] = []) (h5 : (rdK (linesL s) n).st = 5) : parseT s = ((rdK (linesL s) n).T, 0, 0) := by
  unfold parseT
  rw [if_neg h, show (linesL s).length - 1 = n by omega, bad_none hq]
  simp only []
  rw [if_neg (fun e => e he), if_neg (fun e => e h5)]
theorem part_len (h : ls.length = n + 1) : ((ls.drop 0).take (n - 0)).length = n := by simp; omega
theorem take_part (l : List (List UInt8)) (h : k < n) : ((l.drop 0).take (n - 0)).getD k [] = l.getD k [] := by
  rw [List.drop_zero, Nat.sub_zero, List.getD_eq_getElem?_getD, List.getD_eq_getElem?_getD, List.getElem?_take_of_lt h]
end

end Go.Proofs.YtnkaebjaeaecmaaGreatDoor
