/- A row of the call's own is changed in place: one field of an element, and an append onto its own part (elements left out). Slices of slices: a row of slice values, each of which is readable. What coverings are. No program in it. Plain words for coverings: rows of columns, which are right, what solve -/
import Derived.Laws.Strings2
import Derived.Laws.Strings3
import Derived.Laws.Concat
import Derived.Laws.BytesString
import Derived.Test.YteimkklmmanncaaGreatWCov
namespace Go.Proofs.YteimkklmmanncaaGreat
set_option linter.unusedVariables false
set_option linter.unusedSimpArgs false
section
open Go Go.RowKit
section
variable {P : Program} {f : Nat → Value} {w w' : World} {d : Option Nat} {ty : TypeId} {ps : String} {af : Array Edge} {g : Option (Nat × Bool)} {x y : Operand}
variable {t : TypeId} {v u : Value} {T e : TypeId} {K : Value → World → Prop} {sz by_ N : Nat}
variable {α : Type} {enc : α → List Value} {l : List α}
theorem ED (he : ∀ a, (enc a).length = sz) {a dd : α} {k r : Nat} (hk : k < l.length) (hr : r < sz) (hu : enc a = (enc (l.getD k dd)).set r u) :
  (l.set k a).flatMap enc = (l.flatMap enc).take (k * sz + r) ++ [u] ++ (l.flatMap enc).drop (k * sz + r + 1) := by
 have hle : k * sz + sz ≤ l.length * sz := by rw [← Nat.succ_mul]; exact Nat.mul_le_mul_right _ hk
 have hfl := km he l
 have e0 : l.set k (l.getD k dd) = l := by
  rw [List.getD_eq_getElem?_getD, List.getElem?_eq_getElem hk]
  simp
 have e1 := rS he (l.getD k dd) l k hk
 rw [e0] at e1
 rw [rS he a l k hk, hu]
 have hq : (l.flatMap enc).take (k * sz + r) ++ [u] ++ (l.flatMap enc).drop (k * sz + r + 1) = (l.flatMap enc).set (k * sz + r) u := by
  rw [List.set_eq_take_append_cons_drop, if_pos (by omega), List.append_assoc]; rfl
 rw [hq]
 have hA : ((l.flatMap enc).take (k * sz)).length = k * sz := by rw [List.length_take]; omega
 have hB : (enc (l.getD k dd)).length = sz := he _
 generalize hA' : (l.flatMap enc).take (k * sz) = A at *
 generalize hC' : (l.flatMap enc).drop (k * sz + sz) = C at *
 rw [e1, List.append_assoc, List.append_assoc, List.set_append, if_neg (by omega), hA, show k * sz + r - k * sz = r by omega, List.set_append, if_pos (by omega)]
theorem GO {a dd : α} {j : Int} {r : Nat} (hx : dK f x = .pointer (some ⟨r8 v, zB v + j.toNat * sz + r, none⟩)) (hy : dK f y = u) (hT : fl P t = true) (he : ∀ a, (enc a).length = sz)
  (h1 : u.oneCell' = true) (hr : r < sz) (hu : enc a = (enc (l.getD j.toNat dd)).set r u) (ho : dh enc sz e w N v l) (h0 : 0 ≤ j) (hj : j < l.length)
  (hK : ∀ w', w.grownBy w' v.ownBlock → dh enc sz e w' N v (l.set j.toNat a) → K undef w') : Yd P ⟨d, .store t x y, ty, ps, af, g⟩ f w K := by
 obtain ⟨hl, hor⟩ := ho
 rcases hor with ⟨_, h⟩ | ⟨q, cap, cur, rfl, hg, hh, hnc, hcm, hcs, ht⟩
 ·omega
 have hle : l.length * sz ≤ cap * sz := Nat.mul_le_mul_right _ hnc
 have hjs : j.toNat * sz + sz ≤ l.length * sz := by rw [← Nat.succ_mul]; exact Nat.mul_le_mul_right _ (by omega)
 have hst := run_storeCells_at P q (j.toNat * sz + r) e [u] 0 cur w hh (by simp; omega) (fun v h => by simp at h; subst h; exact h1)
 rw [Nat.add_zero] at hst
 have hw := xe (N := N) (e := e) (o := j.toNat * sz + r) (new := [u]) hl hg hh hnc hcm hcs ht (by simp; omega)
 have hgr : ∀ r, w.grownBy (w.setRow q r) (some q) := fun r => ⟨rfl, rfl, rfl, by simp, fun k _ hk => setRow_other w q k r (fun e => hk (by rw [e]))⟩
 refine .skip (w' := w.setRow q (cur.toList.take (j.toNat * sz + r) ++ [u] ++ cur.toList.drop (j.toNat * sz + r + 1)).toArray) ?_ (hK _ (hgr _) ?_)
 ·have h2 := congrFun (lK hT).2 w
  have hcs1 : u.cells = #[u] := by cases u <;> first | rfl | simp [Value.oneCell'] at h1
  have hcs2 : (storeVar t ⟨q, j.toNat * sz + r, none⟩ u).run P w = .ok () (w.setRow q (cur.toList.take (j.toNat * sz + r) ++ [u] ++ cur.toList.drop (j.toNat * sz + r + 1)).toArray) := by
   simp only [List.length_singleton] at hst
   simp [storeVar, h2, hcs1, hst]
  have hx' : dK f x = .pointer (some ⟨q, j.toNat * sz + r, none⟩) := by rw [hx]; simp [r8, zB]
  simp [execOp, hx', hy, Instr.storeAt, Instr.sureAddr, hcs2]
 ·unfold dh
  rw [List.length_set, ED he (by omega) hr hu]
  simpa using hw
theorem CO {w0 : World} {n : Nat} {xs : List Value} {i : Int} {ki : IntKind} {xi : Operand} (hx : dK f x = v) (hs : Sl w0 sz v n xs) (hT : fI P t = some (e, sz, by_)) (hi : dK f xi = .int ki i) (h0 : 0 ≤ i) (h1 : i ≤ n) :
  (execOp (dK f) ⟨d, .slice t x (some xi) none none, ty, ps, af, g⟩).run P w = .ok (.value (fS sz v i.toNat n (iR v))) w := by
 obtain ⟨hv, hn, _, _⟩ := hs.eqv
 unfold fI at hT
 cases hu : P.underlying t with
 | none => simp [hu] at hT
 | some desc =>
  cases desc <;> simp [hu] at hT
  obtain ⟨i', hi', rfl, rfl, rfl⟩ := hT
  unfold fS
  rw [hv] at hx
  generalize x5 v = A at *
  generalize iR v = C at *
  simp [execOp, hx, hi, Instr.sliceAt, Instr.slice, run_underlying hu, Instr.sliceBounds, Instr.sliceBound, asIntOf, sizeOf, typeInfo, hi', h0, h1]
theorem Bo {w0 : World} {n : Nat} {xs : List Value} {j : Int} {kj : IntKind} {xj : Operand} (hx : dK f x = v) (hs : Sl w0 sz v n xs) (hT : fI P t = some (e, sz, by_)) (hj : dK f xj = .int kj j) (h0 : 0 ≤ j) (h1 : j ≤ iR v) :
  (execOp (dK f) ⟨d, .slice t x none (some xj) none, ty, ps, af, g⟩).run P w = .ok (.value (fS sz v 0 j.toNat (iR v))) w := by
 obtain ⟨hv, hn, _, _⟩ := hs.eqv
 unfold fI at hT
 cases hu : P.underlying t with
 | none => simp [hu] at hT
 | some desc =>
  cases desc <;> simp [hu] at hT
  obtain ⟨i', hi', rfl, rfl, rfl⟩ := hT
  unfold fS
  rw [hv] at hx
  generalize x5 v = A at *
  generalize iR v = C at *
  have hC : j ≤ (C : Int) := h1
  simp [execOp, hx, hj, Instr.sliceAt, Instr.slice, run_underlying hu, Instr.sliceBounds, Instr.sliceBound, asIntOf, sizeOf, typeInfo, hi', h0, hC]
theorem CD {i j : Nat} (he : ∀ a, (enc a).length = sz) (hone : (l.flatMap enc).all Value.oneCell' = true) (hx : dK f x = fS sz v 0 i (iR v)) (hy : dK f y = fS sz v j l.length (iR v)) (hT : fI P t = some (e, sz, by_))
  (ho : dh enc sz e w N v l) (hij : i ≤ j) (hj : j ≤ l.length) (hi : i < l.length)
  (hK : ∀ v' w', w.grownBy w' v.ownBlock → dh enc sz e w' N v' (l.take i ++ l.drop j) → v'.ownBlock = v.ownBlock → K v' w') : Yd P ⟨d, .call ⟨.builtin .append, #[x, y], #[t, t]⟩, ty, ps, af, g⟩ f w K := by
 unfold fI at hT
 cases hun : P.underlying t with
 | none => simp [hun] at hT
 | some desc =>
  cases desc <;> simp [hun] at hT
  rename_i e'
  obtain ⟨i', hi', rfl, h1, rfl⟩ := hT
  subst h1
  have ho0 := ho
  obtain ⟨hl, hor⟩ := ho
  rcases hor with ⟨_, h⟩ | ⟨q, cap, cur, rfl, hg, hh, hnc, hcm, hcs, ht⟩
  ·omega
  have hle : l.length * i'.size ≤ cap * i'.size := Nat.mul_le_mul_right _ hnc
  have hfl := km he (l.drop j)
  have hft := km he (l.take i)
  have hll := km he l
  have hxe : dK f x = .slice (some ⟨q, 0, none⟩) i cap := by
   rw [hx]
   have hc0 : ¬ cap = 0 := by omega
   simp [fS, x5, iR, hc0, Addr.add]
  obtain ⟨a, hye, hac⟩ : ∃ a : Addr, dK f y = .slice (some a) (l.length - j) (cap - j) ∧ (j < l.length → a = ⟨q, j * i'.size, none⟩) := by
   rw [hy]
   by_cases e : cap = j
   ·exact ⟨⟨q, 0, none⟩, by simp [fS, x5, iR, e], fun h => by omega⟩
   ·exact ⟨⟨q, j * i'.size, none⟩, by
     show Value.slice (if cap = j then some ⟨q, 0, none⟩ else (some (⟨q, 0, none⟩ : Addr)).map (·.add (j * i'.size))) (l.length - j) (cap - j) = _
     rw [if_neg e, Option.map_some, gI, Nat.zero_add], fun _ => rfl⟩
  have hnews : ∀ k u, ((l.drop j).flatMap enc)[k]? = some u → w.cell? (a.add k) = some u := fun k u hu => by
   have hlt : k < ((l.drop j).flatMap enc).length := (List.getElem?_eq_some_iff.1 hu).1
   have hjl : j < l.length := Classical.byContradiction fun hn => by
    rw [List.drop_eq_nil_of_le (by omega)] at hlt
    simp at hlt
   rw [hac hjl, gI]
   have hs := ho0.sl
   have hc := Sl.cell hs (j * i'.size + k) u (by rw [← List.getElem?_drop, ← pE he]; exact hu)
   simpa [r8, zB] using hc
  have hone2 : ∀ u ∈ (l.drop j).flatMap enc, u.oneCell' = true := fun u hu => by
   rw [pE he] at hu
   exact List.all_eq_true.1 hone u (List.mem_of_mem_drop hu)
  have hmul : (i + (l.length - j)) * i'.size ≤ l.length * i'.size := Nat.mul_le_mul_right _ (by omega)
  rw [Nat.add_mul] at hmul
  have hdl : ((l.drop j).flatMap enc).length = (l.length - j) * i'.size := by rw [hfl, List.length_drop]
  have hr := run_append_room (P := P) w t ty e' i' hun hi' q i cap cur hh a (l.length - j) (cap - j) ((l.drop j).flatMap enc) hdl hnews hone2 (by omega) (by rw [hdl, hcs]; omega)
  refine .val (v := .slice (some ⟨q, 0, none⟩) (i + (l.length - j)) cap) (w' := w.setRow q (cur.toList.take (i * i'.size) ++ (l.drop j).flatMap enc ++ cur.toList.drop (i * i'.size + ((l.drop j).flatMap enc).length)).toArray) ?_
   (hK _ _ ⟨rfl, rfl, rfl, by simp, fun k _ hk => setRow_other w q k _ (fun e => hk (by rw [e]; rfl))⟩ ?_ rfl)
  ·simp [execOp, resolve, invoke, builtin, hxe, hye, hr]
  ·have hlen2 : (l.take i ++ l.drop j).length = i + (l.length - j) := by rw [List.length_append, List.length_take, List.length_drop]; omega
   unfold dh
   rw [hlen2]
   refine ⟨by rw [km he, hlen2], .inr ⟨q, cap, _, rfl, hg, setRow_heap w q cur _ e' (0, 0) hh, by omega, hcm, by simp only [List.size_toArray, List.length_append, List.length_take, List.length_drop, Array.length_toList, hdl]; omega, ?_⟩⟩
   rw [List.flatMap_append, pW he, ← ht, List.take_take]
   have e1 : min (i * i'.size) (l.length * i'.size) = i * i'.size := Nat.min_eq_left (by omega)
   have e2 : (cur.toList.take (i * i'.size)).length = i * i'.size := by rw [List.length_take, Array.length_toList]; omega
   rw [e1]
   have e3 : (i + (l.length - j)) * i'.size = (cur.toList.take (i * i'.size) ++ (l.drop j).flatMap enc).length := by rw [List.length_append, e2, hdl, Nat.add_mul]
   rw [e3]
   exact List.take_left
end
end
section
open Go Go.RowKit Go.ChangeShapes Go.WideShapes Go.ChangeAt Go.Joins Go.Deep
def encV (v : Value) : List Value := [v]
theorem fV (v : Value) : (encV v).length = 1 := rfl
structure LL (w : World) (vs : List Value) (L : List (List Int)) : Prop where
 len : vs.length = L.length
 get : ∀ k, k < L.length → dO eb 1 w (vs.getD k undef) (L.getD k [])
theorem LL.nil (w : World) : LL w [] [] := ⟨rfl, fun k hk => by cases hk⟩
theorem LL.below {w W : World} {vs : List Value} {L : List (List Int)} (h : Below w.heap.size w W) (k : LL w vs L) : LL W vs L := ⟨k.len, fun i hi => Below.slT h (k.get i hi)⟩
theorem LL.ext {w W : World} {vs : List Value} {L : List (List Int)} (h : eo w W) (k : LL w vs L) : LL W vs L := ⟨k.len, fun i hi => eo.slT h (k.get i hi)⟩
section
variable {H : Type} {encH : TypeId × Value → H} {P : Program} {w : World} {base : Nat} {held : Bool} {r : Reach} {b0 : Nat} {t e : TypeId}
end
end
section
open Go Go.RowKit
def nr (cols : Int) (l : List Int) : Bool := (List.range l.length).all fun k => decide (0 ≤ l.getD k 0) && (decide (l.getD k 0 < cols) && decide (0 < k → l.getD (k - 1) 0 < l.getD k 0))
theorem iO {cols : Int} {l : List Int} : nr cols l = true ↔ ∀ k, k < l.length → 0 ≤ l.getD k 0 ∧ l.getD k 0 < cols ∧ (0 < k → l.getD (k - 1) 0 < l.getD k 0) := by
 unfold nr
 rw [List.all_eq_true]
 constructor
 ·intro h k hk
  have := h k (List.mem_range.2 hk)
  simp only [Bool.and_eq_true, decide_eq_true_eq] at this
  exact ⟨this.1, this.2.1, this.2.2⟩
 ·intro h k hk
  obtain ⟨h1, h2, h3⟩ := h k (List.mem_range.1 hk)
  simp only [Bool.and_eq_true, decide_eq_true_eq]
  exact ⟨h1, h2, h3⟩
def dX (cols : Int) (L : List (List Int)) : Bool := decide (0 ≤ cols) && (decide (cols ≤ 4000) && L.all (nr cols))
theorem fe {cols : Int} {L : List (List Int)} : dX cols L = true ↔ 0 ≤ cols ∧ cols ≤ 4000 ∧ ∀ i, i < L.length → nr cols (L.getD i []) = true := by
 unfold dX
 rw [Bool.and_eq_true, Bool.and_eq_true, decide_eq_true_eq, decide_eq_true_eq, List.all_eq_true]
 constructor
 ·rintro ⟨h1, h2, h3⟩; exact ⟨h1, h2, fun i hi => h3 _ (dS hi)⟩
 ·rintro ⟨h1, h2, h3⟩
  refine ⟨h1, h2, fun x hx => ?_⟩
  obtain ⟨k, hk, rfl⟩ := fk (d := []) hx
  exact h3 k hk
def vA (l : List Int) : Nat → Int
 | 0 => -1
 | k + 1 => l.getD k 0
theorem s6 (l : List Int) : vA l 0 = -1 := rfl
theorem sR (l : List Int) (k : Nat) : vA l (k + 1) = l.getD k 0 := rfl
theorem Lm {cols : Int} {L : List (List Int)} {i k : Nat} (hi : i < L.length) (hk : k < (L.getD i []).length) (hb : ∀ q, q < k → 0 ≤ (L.getD i []).getD q 0) (h : (L.getD i []).getD k 0 ≤ vA (L.getD i []) k ∨ cols ≤ (L.getD i []).getD k 0) : Value.bool false = .bool (dX cols L) := qh fun hr => by
 obtain ⟨h1, h2, h3⟩ := iO.1 ((fe.1 hr).2.2 i hi) k hk
 rcases h with h | h
 ·cases k with
  | zero => rw [s6] at h; omega
  | succ k =>
   have := h3 (by omega)
   rw [sR] at h
   simp only [Nat.add_sub_cancel] at this
   omega
 ·omega
theorem KS {cols : Int} {l : List Int} {k : Nat} (h : ∀ q, q < k → 0 ≤ l.getD q 0 ∧ l.getD q 0 < cols ∧ (0 < q → l.getD (q - 1) 0 < l.getD q 0)) (h1 : ¬ l.getD k 0 ≤ vA l k) (h2 : ¬ cols ≤ l.getD k 0) :
  ∀ q, q < k + 1 → 0 ≤ l.getD q 0 ∧ l.getD q 0 < cols ∧ (0 < q → l.getD (q - 1) 0 < l.getD q 0) := fE h (by
 cases k with
 | zero => rw [s6] at h1; exact ⟨by omega, by omega, fun h => by omega⟩
 | succ k =>
  have := h k (by omega)
  rw [sR] at h1
  exact ⟨by omega, by omega, fun _ => by simp only [Nat.add_sub_cancel]; omega⟩)
theorem Pt {cols : Int} {L : List (List Int)} (h0 : 0 ≤ cols) (h : ∀ i, i < L.length → nr cols (L.getD i []) = true) : Value.bool (decide (cols ≤ 4000)) = .bool (dX cols L) := congrArg Value.bool (by
 rw [Bool.eq_iff_iff, fe, decide_eq_true_eq]
 exact ⟨fun hc => ⟨h0, hc, h⟩, fun hc => hc.2.1⟩)
theorem PF {cols : Int} {L : List (List Int)} (h0 : ¬ 0 ≤ cols) : Value.bool false = .bool (dX cols L) := qh fun h => h0 (fe.1 h).1
def nQ (L : List (List Int)) (cols : List Int) : Bool := L.all fun l => l.any fun c => decide (c ∈ cols)
theorem z4 {L : List (List Int)} {cols : List Int} : nQ L cols = true ↔ ∀ i, i < L.length → ∃ c, c ∈ L.getD i [] ∧ c ∈ cols := by
 unfold nQ
 rw [List.all_eq_true]
 constructor
 ·intro h i hi
  have := h _ (dS (d := []) hi)
  rw [List.any_eq_true] at this
  obtain ⟨c, h1, h2⟩ := this
  exact ⟨c, h1, of_decide_eq_true h2⟩
 ·intro h l hl
  obtain ⟨k, hk, rfl⟩ := fk (d := []) hl
  obtain ⟨c, h1, h2⟩ := h k hk
  rw [List.any_eq_true]
  exact ⟨c, h1, decide_eq_true h2⟩
end
section
open Go Go.RowKit
def zu (n : Int) : List Value := [.int .u8 n]
theorem yp {l : List Int} : (l.flatMap zu).all Value.oneCell' = true := tV (fun _ => rfl) l
theorem Fg (l : List Int) : l.flatMap zu = l.map (Value.int .u8) := by
 induction l with
 | nil => rfl
 | cons a l ih => simp [List.flatMap_cons, ih, zu]
def ma (l : List UInt8) : Value := .string ⟨l.toArray⟩
theorem A4 (a b : List UInt8) (h : ma a = ma b) : a = b := by
 simpa [ma] using h
theorem zr (a c : List UInt8) : ((⟨a.toArray⟩ : ByteArray) == ⟨c.toArray⟩) = true ↔ a = c := by
 show (a.toArray == c.toArray) = true ↔ a = c
 simp
def nJ (xs : List Int) : List UInt8 := xs.map fun n => UInt8.ofNat n.toNat
theorem vT : ∀ (ns : List Int) (s : ByteArray), ns.foldl (fun r n => r.push (UInt8.ofNat n.toNat)) s = ⟨s.data ++ (nJ ns).toArray⟩
 | [], s => by simp [nJ]
 | n :: ns, s => by
  rw [List.foldl_cons, vT ns]
  simp [ByteArray.push, nJ]
section
variable {P : Program} {f : Nat → Value} {w : World} {d : Option Nat} {ty : TypeId} {ps : String} {af : Array Edge} {g : Option (Nat × Bool)} {x y : Operand} {v : Value}
theorem BG {src dst e : TypeId} {xs : List Int} (hx : dK f x = v) (hs : dO zu 1 w v xs) (h1 : P.underlying src = some (.slice e)) (h2 : P.underlying e = some (.int .u8)) (h3 : P.underlying dst = some .string) :
  (execOp (dK f) ⟨d, .convert src dst x, ty, ps, af, g⟩).run P w = .ok (.value (ma (nJ xs))) w := by
 have hsl : Sl w 1 v xs.length (xs.flatMap zu) := hs
 have hc := hsl.cell
 obtain ⟨hv, hn, h0, ha⟩ := hsl.eqv
 cases hA : x5 v with
 | none =>
  have h4 := h0 hA
  have hxs : xs = [] := List.eq_nil_of_length_eq_zero (by omega)
  rw [hA] at hv
  rw [hv] at hx
  subst hxs
  have hr := run_convert_bytes_string w src dst e none 0 (iR v) h1 h2 h3
  rw [show Conv.bytesToString (.slice none 0 (iR v)) = pure (.string .empty) from rfl] at hr
  have hr2 : (convert src dst (.slice none 0 (iR v))).run P w = .ok (.string ⟨#[]⟩) w := hr
  have hx2 : dK f x = .slice none 0 (iR v) := hx
  simp [execOp, hx2, hr2, ma, nJ]
 | some a =>
  rw [hA] at hv
  have hl := _root_.Go.run_loadCells_list (P := P) w a (xs.map (Value.int .u8)) (fun j u hj => by
   have hj' : j < xs.length := by
    have := (List.getElem?_eq_some_iff.1 hj).1
    simpa using this
   rw [ha a hA (by omega), gI]
   exact hc j u (by rw [Fg]; exact hj))
  rw [List.length_map] at hl
  have hr := run_convert_bytes_string w src dst e (some a) xs.length (iR v) h1 h2 h3
  rw [run_bytesToString w a xs.length (iR v) xs hl, vT] at hr
  rw [hv] at hx
  simp [execOp, hx, hr, ma]
end
section
variable {w W : World}
theorem Below.ow {α : Type} {enc : α → List Value} {sz : Nat} {T : TypeId} {N : Nat} {v : Value} {l : List α} (h : Go.RowKit.Below w.heap.size w W) (k : dh enc sz T w N v l) : dh enc sz T W N v l :=
 World.ownsRow.kept k (row := none) ⟨h.os, h.tape, h.output, h.size, fun j hj _ => h.block j hj⟩ (by cases v.ownBlock <;> simp)
theorem Below.mapI {α β : Type} {enc : α → Value} {encV : β → Value} {b : Nat} {l : List (α × β)} (h : Go.RowKit.Below w.heap.size w W) (k : dQ enc encV w b l) : dQ enc encV W b l := k.moved (h.block b k.lt)
end
end
section
open Go Go.RowKit
section
variable {P : Program} {f : Nat → Value} {w : World} {d : Option Nat} {ty : TypeId} {ps : String} {af : Array Edge} {g : Option (Nat × Bool)} {x y : Operand} {t t2 : TypeId} {a : Int}
theorem Mi (hx : dK f x = .int .i64 a) (hy : dK f y = .int .u64 8) (h0 : 0 ≤ a) : (execOp (dK f) ⟨d, .binOp .shr t x y t2, ty, ps, af, g⟩).run P w = .ok (.value (.int .i64 (a / 256))) w := by
 obtain ⟨m, rfl⟩ := Int.eq_ofNat_of_zero_le h0
 rw [rx hx hy (by omega) (by decide)]
 simp
theorem GP {desc : TypeDesc} (h : dK f x = .int .i64 a) (hs : P.underlying t = some desc) (ht : P.underlying t2 = some (.int .u8)) :
  (execOp (dK f) ⟨d, .convert t t2 x, ty, ps, af, g⟩).run P w = .ok (.value (.int .u8 (a % 256))) w := by
 rw [Hb h hs ht]
 rfl
end
theorem mX {α : Type} [DecidableEq α] {l : List α} {k : α} (h : (gU (fq l) k).getD false = true) : k ∈ l := by
 rw [k8, decide_eq_true_eq] at h; exact h
theorem ld {α : Type} [DecidableEq α] {l : List α} {k : α} (h : (gU (fq l) k).getD false = false) : k ∉ l := by
 rw [k8, decide_eq_false_iff_not] at h; exact h
structure LO (T : TypeId) (N : Nat) (w : World) (vs : List Value) (L : List (List Int)) : Prop where
 len : vs.length = L.length
 get : ∀ k, k < L.length → dh eb 1 T w N (vs.getD k undef) (L.getD k [])
section
variable {T : TypeId} {N : Nat} {w w' : World} {vs : List Value} {L : List (List Int)}
theorem LO.nil : LO T N w [] [] := ⟨rfl, fun k hk => by cases hk⟩
theorem LO.ll (h : LO T N w vs L) : LL w vs L := ⟨h.len, fun k hk => (h.get k hk).sl⟩
theorem LO.ext (h : eo w w') (k : LO T N w vs L) : LO T N w' vs L := ⟨k.len, fun i hi => h.ow (k.get i hi)⟩
theorem LO.mono {N' : Nat} (k : LO T N w vs L) (h : N' ≤ N) : LO T N' w vs L := ⟨k.len, fun i hi => (k.get i hi).mono h⟩
theorem LO.grownAt {b : Nat} {c : Array Value} {T' : TypeId} (k : LO T N w vs L) (hm : At w b c T') (hG : w.grownBy w' (some b)) (hT : T' ≠ T) : LO T N w' vs L := ⟨k.len, fun i hi => (k.get i hi).grownAt hm hG hT⟩
theorem LO.grownMap {α β : Type} {enc : α → Value} {encV : β → Value} {b : Nat} {l : List (α × β)} (k : LO T N w vs L) (hm : dQ enc encV w b l) (hG : w.grownBy w' (some b)) : LO T N w' vs L := ⟨k.len, fun i hi => (k.get i hi).grownMap hm hG⟩
theorem LO.grownOw {α : Type} {enc : α → List Value} {sz N' : Nat} {T' : TypeId} {v : Value} {l : List α} (k : LO T N w vs L) (h : dh enc sz T' w N' v l) (hG : w.grownBy w' v.ownBlock) (hT : T' ≠ T) : LO T N w' vs L := ⟨k.len, fun i hi => (k.get i hi).grownOw h hG hT.symm⟩
theorem LO.one (k : LO T N w vs L) : ∀ v, v ∈ vs → Value.oneCell' v = true := fun v hv => by
 obtain ⟨j, hj, e⟩ := fk (d := undef) hv
 have h := (k.get j (by rw [← k.len]; exact hj)).sl
 rw [e] at h
 obtain ⟨h1, _⟩ := Sl.eqv h
 rw [h1]; rfl
theorem AP {vs : List Value} (h : ∀ v, v ∈ vs → Value.oneCell' v = true) {i j : Nat} : (((vs.drop i).take j).flatMap encV).all Value.oneCell' = true := by
 rw [List.all_eq_true]
 intro v hv
 obtain ⟨u, hu, he⟩ := List.mem_flatMap.1 hv
 obtain rfl : v = u := by simpa [encV] using he
 exact h _ (List.mem_of_mem_drop (List.mem_of_mem_take hu))
theorem LO.below {W : World} (h : Below w.heap.size w W) (k : LO T N w vs L) : LO T N W vs L := ⟨k.len, fun i hi => Below.ow h (k.get i hi)⟩
theorem D2 {α : Type} (l : List α) (x d : α) {i : Nat} (j : Nat) (hi : i ≤ l.length) : (l.take i ++ ([x] ++ l.drop i)).getD j d = if j < i then l.getD j d else if j = i then x else l.getD (j - 1) d := by
 have hl : (l.take i).length = i := by rw [List.length_take]; omega
 simp only [List.getD_eq_getElem?_getD]
 by_cases h1 : j < i
 ·rw [if_pos h1, List.getElem?_append_left (by omega), List.getElem?_take, if_pos h1]
 ·rw [if_neg h1, List.getElem?_append_right (by omega), hl]
  by_cases h2 : j = i
  ·rw [if_pos h2, h2, Nat.sub_self]; rfl
  ·rw [if_neg h2, List.getElem?_append_right (by simp; omega), List.getElem?_drop]
   congr 2
   simp
   omega
theorem LO.put {v : Value} {l : List Int} {i : Nat} (k : LO T N w vs L) (h : dh eb 1 T w N v l) (hi : i ≤ L.length) : LO T N w (vs.take i ++ ([v] ++ vs.drop i)) (L.take i ++ ([l] ++ L.drop i)) := by
 have hl := k.len
 refine ⟨by simp [hl], fun j hj => ?_⟩
 rw [D2 _ _ _ _ (by omega), D2 _ _ _ _ hi]
 have hj2 : j < L.length + 1 := by
  rw [List.length_append, List.length_append, List.length_drop, List.length_take, List.length_singleton] at hj
  omega
 by_cases h1 : j < i
 ·rw [if_pos h1, if_pos h1]; exact k.get j (by omega)
 ·rw [if_neg h1, if_neg h1]
  by_cases h2 : j = i
  ·rw [if_pos h2, if_pos h2]; exact h
  ·rw [if_neg h2, if_neg h2]; exact k.get (j - 1) (by omega)
theorem LO.snoc {v : Value} {l : List Int} (k : LO T N w vs L) (h : dh eb 1 T w N v l) : LO T N w (vs ++ [v]) (L ++ [l]) := by
 have hp := k.put (i := L.length) h (Nat.le_refl _)
 rw [← k.len, List.take_length, List.drop_length, List.append_nil, k.len, List.take_length, List.drop_length, List.append_nil] at hp
 exact hp
theorem LL.snoc {v : Value} {l : List Int} (k : LL w vs L) (h : dO eb 1 w v l) : LL w (vs ++ [v]) (L ++ [l]) := by
 have hl := k.len
 refine ⟨by simp [hl], fun j hj => ?_⟩
 rw [List.length_append, List.length_singleton] at hj
 by_cases h1 : j < L.length
 ·have e1 : (vs ++ [v]).getD j undef = vs.getD j undef := by simp only [List.getD_eq_getElem?_getD]; rw [List.getElem?_append_left (by omega)]
  have e2 : (L ++ [l]).getD j [] = L.getD j [] := by simp only [List.getD_eq_getElem?_getD]; rw [List.getElem?_append_left (by omega)]
  rw [e1, e2]; exact k.get j h1
 ·obtain rfl : j = L.length := by omega
  have e1 : (vs ++ [v]).getD L.length undef = v := by simp only [List.getD_eq_getElem?_getD]; rw [List.getElem?_append_right (by omega), hl, Nat.sub_self]; rfl
  have e2 : (L ++ [l]).getD L.length [] = l := by simp only [List.getD_eq_getElem?_getD]; rw [List.getElem?_append_right (by omega), Nat.sub_self]; rfl
  rw [e1, e2]; exact h
end
end
section
open Go Go.RowKit
def nC : List Int → List Int → Bool
 | a :: aq, b :: bs => if a = b then nC aq bs else decide (a < b)
 | _, _ => false
theorem C3 : ∀ a : List Int, nC a a = false
 | [] => rfl
 | a :: aq => by rw [nC, if_pos rfl]; exact C3 aq
theorem wM : ∀ a b c : List Int, nC a b = true → nC b c = true → nC a c = true
 | [], b, c, h, _ => by cases b <;> simp [nC] at h
 | a :: aq, [], c, h, _ => by simp [nC] at h
 | a :: aq, b :: bs, [], _, h => by simp [nC] at h
 | a :: aq, b :: bs, c :: cs, h1, h2 => by
  rw [nC] at h1 h2 ⊢
  by_cases e1 : a = b
  ·subst e1
   rw [if_pos rfl] at h1
   by_cases e2 : a = c
   ·subst e2
    rw [if_pos rfl] at h2 ⊢
    exact wM aq bs cs h1 h2
   ·rw [if_neg e2] at h2 ⊢; exact h2
  ·rw [if_neg e1, decide_eq_true_eq] at h1
   by_cases e2 : b = c
   ·subst e2
    rw [if_neg e1, decide_eq_true_eq]; exact h1
   ·rw [if_neg e2, decide_eq_true_eq] at h2
    rw [if_neg (by omega), decide_eq_true_eq]; omega
theorem wX : ∀ a b : List Int, a.length = b.length → a ≠ b → nC a b = true ∨ nC b a = true
 | [], [], _, h => absurd rfl h
 | [], b :: bs, h, _ => by simp at h
 | a :: aq, [], h, _ => by simp at h
 | a :: aq, b :: bs, h, hne => by
  rw [nC, nC]
  by_cases e : a = b
  ·subst e
   rw [if_pos rfl, if_pos rfl]
   exact wX aq bs (by simpa using h) (fun e => hne (by rw [e]))
  ·rw [if_neg e, if_neg (fun h => e h.symm), decide_eq_true_eq, decide_eq_true_eq]; omega
theorem GA : ∀ (a b : List Int) (k : Nat), a.length = b.length → k < a.length → (∀ q, q < k → a.getD q 0 = b.getD q 0) → a.getD k 0 ≠ b.getD k 0 → nC a b = decide (a.getD k 0 < b.getD k 0)
 | [], _, k, _, h, _, _ => by simp at h
 | a :: aq, [], k, h, _, _, _ => by simp at h
 | a :: aq, b :: bs, 0, h, h1, h2, h3 => by
  rw [nC, if_neg (by simpa using h3)]; rfl
 | a :: aq, b :: bs, k + 1, h, h1, h2, h3 => by
  have e : a = b := by simpa using h2 0 (by omega)
  rw [nC, if_pos e, GA aq bs k (by simpa using h) (by simpa using h1) (fun q hq => by simpa using h2 (q + 1) (by omega)) (by simpa using h3)]
  simp
theorem wU : ∀ (a b : List Int), a.length = b.length → (∀ q, q < a.length → a.getD q 0 = b.getD q 0) → a = b
 | [], [], _, _ => rfl
 | [], b :: bs, h, _ => by simp at h
 | a :: aq, [], h, _ => by simp at h
 | a :: aq, b :: bs, h, h1 => by
  have e : a = b := by simpa using h1 0 (by simp)
  rw [e, wU aq bs (by simpa using h) (fun q hq => by simpa using h1 (q + 1) (by simpa using hq))]
def fK (a b : List Int) : Bool := decide (a.length < b.length) || (decide (a.length = b.length) && nC a b)
theorem zD {a b : List Int} (h : a.length < b.length) : fK a b = true := by unfold fK; rw [decide_eq_true h]; rfl
theorem FO {a b : List Int} (h : b.length < a.length) : fK a b = false := by
 unfold fK; rw [decide_eq_false (show ¬ a.length < b.length by omega), decide_eq_false (show ¬ a.length = b.length by omega)]; rfl
theorem u6 {a b : List Int} (h : a.length = b.length) : fK a b = nC a b := by
 unfold fK; rw [decide_eq_false (show ¬ a.length < b.length by omega), decide_eq_true h]; rfl
theorem Oo {a b : List Int} (h : a.length ≠ b.length) : fK a b = decide (a.length < b.length) := by
 unfold fK; rw [decide_eq_false h, Bool.false_and, Bool.or_false]
theorem GM (a : List Int) : fK a a = false := by rw [u6 rfl, C3]
theorem vE {a b c : List Int} (h1 : fK a b = true) (h2 : fK b c = true) : fK a c = true := by
 rcases Nat.lt_trichotomy a.length b.length with h | h | h
 ·rcases Nat.lt_trichotomy b.length c.length with k | k | k
  ·exact zD (by omega)
  ·exact zD (by omega)
  ·rw [FO k] at h2; cases h2
 ·rcases Nat.lt_trichotomy b.length c.length with k | k | k
  ·exact zD (by omega)
  ·rw [u6 h] at h1; rw [u6 k] at h2; rw [u6 (by omega)]; exact wM _ _ _ h1 h2
  ·rw [FO k] at h2; cases h2
 ·rw [FO h] at h1; cases h1
theorem AG {a b : List Int} (h : a ≠ b) : fK a b = true ∨ fK b a = true := by
 rcases Nat.lt_trichotomy a.length b.length with k | k | k
 ·exact .inl (zD k)
 ·rw [u6 k, u6 k.symm]; exact wX _ _ k h
 ·exact .inr (zD k)
theorem Id {a b : List Int} (h : fK a b = true) : fK b a = false := Bool.eq_false_iff.2 fun k => by
 have := vE h k
 rw [GM] at this; cases this
def pZ : List (List Int) → List Int → List (List Int)
 | [], r => [r]
 | x :: xs, r => if fK x r then x :: pZ xs r else r :: x :: xs
theorem G6 : ∀ (L : List (List Int)) (r : List Int) (i : Nat), i ≤ L.length → (∀ q, q < i → fK (L.getD q []) r = true) → (i < L.length → fK (L.getD i []) r = false) → L.take i ++ ([r] ++ L.drop i) = pZ L r
 | [], r, i, h, _, _ => by
  obtain rfl : i = 0 := by simpa using h
  rfl
 | x :: xs, r, 0, _, _, h => by
  have h0 : fK x r = false := by simpa using h (by simp)
  rw [pZ, h0]; rfl
 | x :: xs, r, i + 1, hi, h1, h2 => by
  have h0 : fK x r = true := by simpa using h1 0 (by omega)
  rw [pZ, if_pos h0, ← G6 xs r i (by simpa using hi) (fun q hq => by simpa using h1 (q + 1) (by omega)) (fun h => by simpa using h2 (by simpa using h))]
  rfl
theorem HN (L : List (List Int)) (r : List Int) : (pZ L r).length = L.length + 1 := by
 induction L with
 | nil => rfl
 | cons x xs ih =>
  rw [pZ]
  split
  ·rw [List.length_cons, ih]; rfl
  ·rfl
theorem vK {L : List (List Int)} {r x : List Int} : x ∈ pZ L r ↔ x ∈ L ∨ x = r := by
 induction L with
 | nil => simp [pZ]
 | cons y ys ih =>
  rw [pZ]
  split
  ·rw [List.mem_cons, ih, List.mem_cons, or_assoc]
  ·simp only [List.mem_cons]
   constructor
   ·rintro (h | h | h)
    ·exact .inr h
    ·exact .inl (.inl h)
    ·exact .inl (.inr h)
   ·rintro ((h | h) | h)
    ·exact .inr (.inl h)
    ·exact .inr (.inr h)
    ·exact .inl h
def Up (L : List (List Int)) : Prop := L.Pairwise fun a b => fK a b = true
theorem JI {L : List (List Int)} {r : List Int} (h : Up L) (hr : r ∉ L) : Up (pZ L r) := by
 induction L with
 | nil => exact List.pairwise_singleton _ _
 | cons y ys ih =>
  obtain ⟨h1, h2⟩ := List.pairwise_cons.1 h
  rw [pZ]
  split
  ·rename_i hy
   refine List.pairwise_cons.2 ⟨fun z hz => ?_, ih h2 (fun k => hr (List.mem_cons_of_mem _ k))⟩
   rcases vK.1 hz with hz | rfl
   ·exact h1 z hz
   ·exact hy
  ·rename_i hy
   have hry : fK r y = true := by
    rcases AG (a := r) (b := y) (fun e => hr (e ▸ List.mem_cons_self ..)) with k | k
    ·exact k
    ·exact absurd k hy
   refine List.pairwise_cons.2 ⟨fun z hz => ?_, h⟩
   rcases List.mem_cons.1 hz with rfl | hz
   ·exact hry
   ·exact vE hry (h1 z hz)
def gQ (ks : List (List Int)) : List (List Int) := ks.foldl pZ []
theorem Fi (ks : List (List Int)) (r : List Int) : gQ (ir ks r) = if r ∈ ks then gQ ks else pZ (gQ ks) r := by
 unfold ir
 split
 ·rfl
 ·unfold gQ; rw [List.foldl_append]; rfl
theorem zs {x : List Int} : ∀ (ks b : List (List Int)), x ∈ ks.foldl pZ b ↔ x ∈ b ∨ x ∈ ks
 | [], b => by simp
 | k :: ks, b => by
  rw [List.foldl_cons, zs ks, vK, List.mem_cons, or_assoc]
theorem lV {ks : List (List Int)} {x : List Int} : x ∈ gQ ks ↔ x ∈ ks := by
 unfold gQ; rw [zs]; simp
theorem AU : ∀ (ks b : List (List Int)), (ks.foldl pZ b).length = b.length + ks.length
 | [], b => rfl
 | k :: ks, b => by rw [List.foldl_cons, AU ks, HN, List.length_cons]; omega
theorem xH (ks : List (List Int)) : (gQ ks).length = ks.length := by unfold gQ; rw [AU]; simp
theorem Du : ∀ (ks b : List (List Int)), Up b → ks.Nodup → (∀ x, x ∈ ks → x ∉ b) → Up (ks.foldl pZ b)
 | [], b, h, _, _ => h
 | k :: ks, b, h, hn, hd => by
  obtain ⟨n1, n2⟩ := List.nodup_cons.1 hn
  refine Du ks _ (JI h (hd k (List.mem_cons_self ..))) n2 fun x hx hm => ?_
  rcases vK.1 hm with hm | rfl
  ·exact hd x (List.mem_cons_of_mem _ hx) hm
  ·exact n1 hx
theorem F0 {ks : List (List Int)} (h : ks.Nodup) : Up (gQ ks) := Du ks [] List.Pairwise.nil h (fun x _ h => by cases h)
theorem L7 {L : List (List Int)} (h : Up L) {i j : Nat} (hij : i < j) (hj : j < L.length) : fK (L.getD i []) (L.getD j []) = true := by
 have := List.pairwise_iff_getElem.1 h i j (by omega) hj hij
 rw [List.getD_eq_getElem?_getD, List.getD_eq_getElem?_getD, List.getElem?_eq_getElem (by omega), List.getElem?_eq_getElem hj]
 exact this
theorem Ib {ks : List (List Int)} {r : List Int} {i : Nat} (hn : ks.Nodup) (hr : r ∉ ks) (hi : i ≤ (gQ ks).length) (h1 : ∀ q, i ≤ q → q < (gQ ks).length → fK r ((gQ ks).getD q []) = true) (h2 : 0 < i → fK r ((gQ ks).getD (i - 1) []) = false) :
  (gQ ks).take i ++ ([r] ++ (gQ ks).drop i) = gQ (ir ks r) := by
 rw [Fi, if_neg hr]
 refine G6 _ _ _ hi (fun q hq => ?_) (fun h => Id (h1 i (Nat.le_refl _) h))
 have hm : (gQ ks).getD (i - 1) [] ∈ ks := lV.1 (dS (by omega))
 have hp : fK ((gQ ks).getD (i - 1) []) r = true := by
  rcases AG (a := (gQ ks).getD (i - 1) []) (b := r) (fun e => hr (e ▸ hm)) with k | k
  ·exact k
  ·rw [h2 (by omega)] at k; cases k
 by_cases e : q = i - 1
 ·subst e; exact hp
 ·exact vE (L7 (F0 hn) (show q < i - 1 by omega) (by omega)) hp
theorem Gj {S : List (List Int)} {m : Nat} (h : m < S.length) : S.take m ++ [S.getD m []] = S.take (m + 1) := by
 rw [List.take_add_one, List.getD_eq_getElem?_getD, List.getElem?_eq_getElem h]; rfl
def Ew (l : List Rw) (c o p : Nat) : Bool := (l.getD c ⟨⟨0, 0⟩, 0⟩).o.testBit o && uw (l.getD c ⟨⟨0, 0⟩, 0⟩).c.m (l.getD c ⟨⟨0, 0⟩, 0⟩).c.v p
def jc (l : List Rw) (o p k : Nat) : List Int := ((List.range k).filter fun c => Ew l c o p).map fun c : Nat => (c : Int)
def qc (l : List Rw) (o p : Nat) : List Int := jc l o p l.length
theorem ux (l : List Rw) (o p k : Nat) : jc l o p (k + 1) = if Ew l k o p then jc l o p k ++ [(k : Int)] else jc l o p k := by
 unfold jc
 rw [List.range_succ, List.filter_append, List.map_append]
 by_cases h : Ew l k o p = true
 ·simp [h]
 ·simp [h]
theorem Jt {l : List Rw} {o p k : Nat} (h : Ew l k o p = true) : jc l o p k ++ [(k : Int)] = jc l o p (k + 1) := by rw [ux, if_pos h]
theorem C1 {l : List Rw} {o p k : Nat} (h : Ew l k o p = false) : jc l o p k = jc l o p (k + 1) := by rw [ux, if_neg (by rw [h]; decide)]
theorem nt {l : List Rw} {o p k : Nat} {x : Int} : x ∈ jc l o p k ↔ ∃ c : Nat, x = c ∧ c < k ∧ Ew l c o p = true := by
 unfold jc
 simp only [List.mem_map, List.mem_filter, List.mem_range]
 constructor
 ·rintro ⟨c, ⟨h1, h2⟩, rfl⟩; exact ⟨c, rfl, h1, h2⟩
 ·rintro ⟨c, rfl, h1, h2⟩; exact ⟨c, ⟨h1, h2⟩, rfl⟩
theorem sq (l : List Rw) (o p k : Nat) : (jc l o p k).length ≤ k := by
 unfold jc
 rw [List.length_map]
 exact Nat.le_trans (List.length_filter_le _ _) (by simp)
theorem FF (l : List Rw) (o p k : Nat) : (jc l o p k).Pairwise fun a b => a < b := by
 unfold jc
 rw [List.pairwise_map]
 refine List.Pairwise.filter _ ?_
 exact List.pairwise_lt_range.imp (fun h => by omega)
theorem zl {n : Int} {L : List Int} (h : L.Pairwise fun a b => a < b) (hb : ∀ x, x ∈ L → 0 ≤ x ∧ x < n) : nr n L = true := iO.2 fun k hk => by
 obtain ⟨h1, h2⟩ := hb _ (dS (d := 0) hk)
 refine ⟨h1, h2, fun hp => ?_⟩
 have := List.pairwise_iff_getElem.1 h (k - 1) k (by omega) hk (by omega)
 rw [List.getD_eq_getElem?_getD, List.getD_eq_getElem?_getD, List.getElem?_eq_getElem (by omega), List.getElem?_eq_getElem hk]
 exact this
theorem J1 (l : List Rw) (o p : Nat) : nr (l.length : Int) (qc l o p) = true := zl (FF l o p _) fun x hx => by
 obtain ⟨c, rfl, h1, _⟩ := nt.1 hx
 omega
def rN (l : List Rw) (o : Nat) (pts : List Int) (base : List (List Int)) : Nat → List (List Int)
 | 0 => base
 | k + 1 => ir (rN l o pts base k) (qc l o (pts.getD k 0).toNat)
def jR (S : Sp) (l : List Rw) : Nat → List (List Int)
 | 0 => []
 | o + 1 => rN l o (ef (S.on.getD o 0)) (jR S l o) (ef (S.on.getD o 0)).length
def Pu (S : Sp) (l : List Rw) : List (List Int) := jR S l S.on.length
def kW (S : Sp) (l : List Rw) : List (List Int) := gQ (Pu S l)
theorem vO {l : List Rw} {o : Nat} {pts : List Int} {base : List (List Int)} {x : List Int} : ∀ k, x ∈ rN l o pts base k ↔ x ∈ base ∨ ∃ q, q < k ∧ x = qc l o (pts.getD q 0).toNat
 | 0 => by simp [rN]
 | k + 1 => by
  rw [rN, gf, vO k]
  constructor
  ·rintro ((h | ⟨q, h1, h2⟩) | h)
   ·exact .inl h
   ·exact .inr ⟨q, by omega, h2⟩
   ·exact .inr ⟨k, by omega, h⟩
  ·rintro (h | ⟨q, h1, h2⟩)
   ·exact .inl (.inl h)
   ·by_cases e : q = k
    ·subst e; exact .inr h2
    ·exact .inl (.inr ⟨q, by omega, h2⟩)
theorem nu {S : Sp} {l : List Rw} {x : List Int} : ∀ o, x ∈ jR S l o ↔ ∃ q, q < o ∧ ∃ j, j < (ef (S.on.getD q 0)).length ∧ x = qc l q ((ef (S.on.getD q 0)).getD j 0).toNat
 | 0 => by simp [jR]
 | o + 1 => by
  rw [jR, vO, nu o]
  constructor
  ·rintro (⟨q, h1, h2⟩ | ⟨j, h1, h2⟩)
   ·exact ⟨q, by omega, h2⟩
   ·exact ⟨o, by omega, j, h1, h2⟩
  ·rintro ⟨q, h1, h2⟩
   by_cases e : q = o
   ·subst e; exact .inr h2
   ·exact .inl ⟨q, by omega, h2⟩
theorem qu {l : List Rw} {o : Nat} {pts : List Int} {base : List (List Int)} (h : base.Nodup) : ∀ k, (rN l o pts base k).Nodup
 | 0 => h
 | k + 1 => i9 (qu h k) _
theorem tj (S : Sp) (l : List Rw) : ∀ o, (jR S l o).Nodup
 | 0 => List.nodup_nil
 | o + 1 => qu (tj S l o) _
theorem uN {l : List Rw} {o : Nat} {pts : List Int} {base : List (List Int)} : ∀ k, (rN l o pts base k).length ≤ base.length + k
 | 0 => Nat.le_refl _
 | k + 1 => by
  have := oR (rN l o pts base k) (qc l o (pts.getD k 0).toNat)
  have := uN (l := l) (o := o) (pts := pts) (base := base) k
  rw [rN]; omega
theorem sL (S : Sp) (l : List Rw) : ∀ o, (jR S l o).length ≤ 256 * o
 | 0 => Nat.le_refl _
 | o + 1 => by
  have h1 := uN (l := l) (o := o) (pts := ef (S.on.getD o 0)) (base := jR S l o) (ef (S.on.getD o 0)).length
  have h2 := sL S l o
  have h3 := kP (S.on.getD o 0)
  rw [jR]; omega
def og (l : List Rw) (x : List Int) : Prop := ∃ o p, x = qc l o p
theorem zN {S : Sp} {l : List Rw} {o : Nat} {x : List Int} (h : x ∈ jR S l o) : og l x := by
 obtain ⟨q, _, j, _, e⟩ := (nu o).1 h
 exact ⟨_, _, e⟩
theorem jK {S : Sp} {l : List Rw} (h : l.length ≤ 4000) : dX (l.length : Int) (kW S l) = true := fe.2 ⟨by omega, by omega, fun i hi => by
 obtain ⟨o, p, e⟩ := zN (lV.1 (dS (d := []) hi))
 rw [show (kW S l).getD i [] = qc l o p from e]
 exact J1 l o p⟩
def o6 (row : List Int) : List Int := row.flatMap fun c => [c / 256 % 256, c % 256]
def jV (row : List Int) : List UInt8 := nJ (o6 row)
theorem Ca (row : List Int) (k : Nat) (hk : k < row.length) : o6 (row.take k) ++ [row.getD k 0 / 256 % 256, row.getD k 0 % 256] = o6 (row.take (k + 1)) := by
 unfold o6
 rw [List.take_add_one, List.flatMap_append, List.getD_eq_getElem?_getD, List.getElem?_eq_getElem hk]
 simp
theorem EC (row : List Int) : (o6 row).length = 2 * row.length := by
 unfold o6
 induction row with
 | nil => rfl
 | cons a l ih => rw [List.flatMap_cons, List.length_append, ih]; simp; omega
theorem Aa {x y : Int} (hx : 0 ≤ x ∧ x < 256) (hy : 0 ≤ y ∧ y < 256) (h : UInt8.ofNat x.toNat = UInt8.ofNat y.toNat) : x = y := by
 have h2 := congrArg UInt8.toNat h
 rw [UInt8.toNat_ofNat', UInt8.toNat_ofNat', Nat.mod_eq_of_lt (by omega), Nat.mod_eq_of_lt (by omega)] at h2
 omega
theorem w8 : ∀ (a b : List Int), (∀ x, x ∈ a → 0 ≤ x ∧ x < 65536) → (∀ x, x ∈ b → 0 ≤ x ∧ x < 65536) → jV a = jV b → a = b
 | [], [], _, _, _ => rfl
 | [], b :: bs, _, _, h => by simp [jV, o6, nJ] at h
 | a :: aq, [], _, _, h => by simp [jV, o6, nJ] at h
 | a :: aq, b :: bs, ha, hb, h => by
  have h0 := ha a (List.mem_cons_self ..)
  have h1 := hb b (List.mem_cons_self ..)
  have hh : UInt8.ofNat (a / 256 % 256).toNat = UInt8.ofNat (b / 256 % 256).toNat ∧ UInt8.ofNat (a % 256).toNat = UInt8.ofNat (b % 256).toNat ∧ jV aq = jV bs := by
   simpa [jV, o6, nJ, List.flatMap_cons] using h
  have e1 := Aa ⟨by omega, by omega⟩ ⟨by omega, by omega⟩ hh.1
  have e2 := Aa ⟨by omega, by omega⟩ ⟨by omega, by omega⟩ hh.2.1
  rw [w8 aq bs (fun x hx => ha x (List.mem_cons_of_mem _ hx)) (fun x hx => hb x (List.mem_cons_of_mem _ hx)) hh.2.2, show a = b by omega]
theorem og.small {l : List Rw} {x : List Int} (h : og l x) (hl : l.length ≤ 4000) : ∀ c, c ∈ x → 0 ≤ c ∧ c < 65536 := fun c hc => by
 obtain ⟨o, p, rfl⟩ := h
 obtain ⟨c, rfl, h1, _⟩ := nt.1 hc
 omega
theorem rG {l : List Rw} {ks : List (List Int)} {r : List Int} (hl : l.length ≤ 4000) (hk : ∀ x, x ∈ ks → og l x) (hr : og l r) : jV r ∈ ks.map jV ↔ r ∈ ks := by
 rw [List.mem_map]
 constructor
 ·rintro ⟨x, hx, e⟩
  rw [← w8 x r ((hk x hx).small hl) (hr.small hl) e]; exact hx
 ·exact fun h => ⟨r, h, rfl⟩
theorem Gc {l : List Rw} {ks : List (List Int)} {r : List Int} (hl : l.length ≤ 4000) (hk : ∀ x, x ∈ ks → og l x) (hr : og l r) : ir (ks.map jV) (jV r) = (ir ks r).map jV := by
 unfold ir
 by_cases h : r ∈ ks
 ·rw [if_pos h, if_pos ((rG hl hk hr).2 h)]
 ·rw [if_neg h, if_neg (fun k => h ((rG hl hk hr).1 k)), List.map_append]; rfl
end
section
open Go Go.RowKit
def xX (S : Sp) (l : List Rw) : Int := if dJ S = true ∧ ∀ k, k < l.length → d9 (l.getD k ⟨⟨0, 0⟩, 0⟩).c.m (l.getD k ⟨⟨0, 0⟩, 0⟩).c.v S.n = true then (if 4000 < l.length then 3 else 0) else 1
theorem O1 {a b : List Int} (h : ¬ (a.length : Int) = (b.length : Int)) : Value.bool (decide ((a.length : Int) < (b.length : Int))) = .bool (fK a b) := congrArg Value.bool (by
 rw [Oo (by omega)]
 by_cases k : a.length < b.length
 ·rw [decide_eq_true k, decide_eq_true (by omega)]
 ·rw [decide_eq_false k, decide_eq_false (by omega)])
theorem Ov {a b : List Int} {k : Nat} (hl : a.length = b.length) (hk : k < a.length) (h : ∀ q, q < k → a.getD q 0 = b.getD q 0) (hn : ¬ a.getD k 0 = b.getD k 0) : Value.bool (decide (a.getD k 0 < b.getD k 0)) = .bool (fK a b) := congrArg Value.bool (by
 rw [u6 hl, GA a b k hl hk h hn])
theorem OO {a b : List Int} {k : Nat} (hl : a.length = b.length) (hk : k = a.length) (h : ∀ q, q < k → a.getD q 0 = b.getD q 0) : Value.bool false = .bool (fK a b) := congrArg Value.bool (by
 rw [wU a b hl (hk ▸ h), GM])
def si (l : List Rw) (n : Int) (k : Nat) : List Nat := (l.take k).map fun x => qg x.c.m x.c.v n.toNat
theorem Ba {l : List Rw} {n : Int} {k : Nat} (h : k ≤ l.length) : (si l n k).length = k := by
 unfold si
 rw [List.length_map, List.length_take]; omega
theorem E7 {l : List Rw} {n : Int} {k : Nat} (h : k < l.length) : si l n k ++ [qg (l.getD k ⟨⟨0, 0⟩, 0⟩).c.m (l.getD k ⟨⟨0, 0⟩, 0⟩).c.v n.toNat] = si l n (k + 1) := by
 unfold si
 rw [List.take_add_one, List.map_append, List.getD_eq_getElem?_getD, List.getElem?_eq_getElem h]; rfl
theorem Hc {l : List Rw} {n : Int} {k : Nat} (h : k < l.length) : (si l n l.length).getD k 0 = qg (l.getD k ⟨⟨0, 0⟩, 0⟩).c.m (l.getD k ⟨⟨0, 0⟩, 0⟩).c.v n.toNat := by
 unfold si
 rw [List.take_length, List.getD_eq_getElem?_getD, List.getElem?_map, List.getD_eq_getElem?_getD, List.getElem?_eq_getElem h]; rfl
theorem C6 {l : List Rw} {n p : Int} {k o : Nat} (h : k < l.length) (hr : d9 (l.getD k ⟨⟨0, 0⟩, 0⟩).c.m (l.getD k ⟨⟨0, 0⟩, 0⟩).c.v n = true) (hp : 0 ≤ p ∧ p.toNat < 2 ^ n.toNat) (hb : (l.getD k ⟨⟨0, 0⟩, 0⟩).o.testBit o = true) : wn ((si l n l.length).getD k 0) p = Ew l k o p.toNat := by
 obtain ⟨h0, h8, hm, hv⟩ := dU.1 hr
 have h256 := fo h8
 rw [Hc h]
 unfold Ew uw
 rw [hb, Bool.true_and]
 obtain ⟨q, rfl⟩ := Int.eq_ofNat_of_zero_le hp.1
 rw [Int.toNat_natCast] at hp ⊢
 have hq : q < 256 := by omega
 rw [ve hq, jh (by omega), decide_eq_true hp.2, Bool.true_and, hv]
theorem Mt {l : List Rw} {p : Nat} {k o : Nat} (hb : ¬ (l.getD k ⟨⟨0, 0⟩, 0⟩).o.testBit o = true) : Ew l k o p = false := by
 unfold Ew
 rw [Bool.eq_false_iff.2 hb]; rfl
theorem IA {l : List Rw} {n p : Int} {k o : Nat} (h : k < l.length) (hr : d9 (l.getD k ⟨⟨0, 0⟩, 0⟩).c.m (l.getD k ⟨⟨0, 0⟩, 0⟩).c.v n = true) (hp : 0 ≤ p ∧ p.toNat < 2 ^ n.toNat) (hs : (((l.getD k ⟨⟨0, 0⟩, 0⟩).o / 2 ^ o &&& 1 : Nat) : Int) = 1) (hb : wn ((si l n l.length).getD k 0) p = true) : jc l o p.toNat k ++ [(k : Int)] = jc l o p.toNat (k + 1) :=
 Jt ((C6 h hr hp (kQ.1 hs)).symm.trans hb)
theorem BP {l : List Rw} {n p : Int} {k o : Nat} (h : k < l.length) (hr : d9 (l.getD k ⟨⟨0, 0⟩, 0⟩).c.m (l.getD k ⟨⟨0, 0⟩, 0⟩).c.v n = true) (hp : 0 ≤ p ∧ p.toNat < 2 ^ n.toNat) (hs : (((l.getD k ⟨⟨0, 0⟩, 0⟩).o / 2 ^ o &&& 1 : Nat) : Int) = 1) (hb : wn ((si l n l.length).getD k 0) p = false) : jc l o p.toNat k = jc l o p.toNat (k + 1) :=
 C1 ((C6 h hr hp (kQ.1 hs)).symm.trans hb)
theorem BE {l : List Rw} {p : Nat} {k o : Nat} (hs : ¬ (((l.getD k ⟨⟨0, 0⟩, 0⟩).o / 2 ^ o &&& 1 : Nat) : Int) = 1) : jc l o p k = jc l o p (k + 1) :=
 C1 (Mt (fun h => hs (kQ.2 h)))
theorem KR {l : List Rw} {x : List Int} (h : og l x) : x.length ≤ l.length := by
 obtain ⟨o, p, rfl⟩ := h
 exact sq _ _ _ _
theorem G9 {l : List Rw} {ks : List (List Int)} (h : ∀ x, x ∈ ks → og l x) (j : Nat) : ((gQ ks).getD j []).length ≤ l.length := by
 by_cases hj : j < (gQ ks).length
 ·exact KR (h _ (lV.1 (dS hj)))
 ·rw [List.getD_eq_getElem?_getD, List.getElem?_eq_none (by omega)]; simp
theorem EX {ks : List (List Int)} {r : List Int} (h : r ∈ ks) : ir ks r = ks := if_pos h
theorem Ko {S : Sp} {l : List Rw} {o k : Nat} {pts : List Int} {x : List Int} (h : x ∈ rN l o pts (jR S l o) k) : og l x := by
 rcases (vO k).1 h with h | ⟨q, _, e⟩
 ·exact zN h
 ·exact ⟨_, _, e⟩
theorem AA {α : Type} (L : List α) (i : Nat) : (L.drop i).take (L.length - i) = L.drop i := List.take_of_length_le (by simp)
theorem Lq {S : Sp} {o p : Nat} (hr : dJ S = true) (ho : o < S.on.length) (hb : (S.on.getD o 0).testBit p = true) (hp : p < 256) : p < 2 ^ S.n.toNat := by
 obtain ⟨w1, w2⟩ := (dY.1 hr).2.2.2.2.2 o ho
 have := d4.1 w2 p hp (d4.1 w1 p hp hb)
 rw [fL] at this
 simpa using this
theorem Gw {S : Sp} {l : List Rw} {o k : Nat} (ho : o < 4) (hk : k ≤ (ef (S.on.getD o 0)).length) : (rN l o (ef (S.on.getD o 0)) (jR S l o) k).length ≤ 2000 := by
 have h1 := uN (l := l) (o := o) (pts := ef (S.on.getD o 0)) (base := jR S l o) k
 have h2 := sL S l o
 have h3 := kP (S.on.getD o 0)
 omega
theorem Ok {S : Sp} {l : List Rw} (h : ¬ dJ S = true) : xX S l = 1 := if_neg fun k => h k.1
theorem Oe {S : Sp} {l : List Rw} {k : Nat} (hk : k < l.length) (h : ¬ d9 (l.getD k ⟨⟨0, 0⟩, 0⟩).c.m (l.getD k ⟨⟨0, 0⟩, 0⟩).c.v S.n = true) : xX S l = 1 := if_neg fun q => h (q.2 k hk)
theorem N2 {S : Sp} {l : List Rw} (h : dJ S = true) (h2 : ∀ k, k < l.length → d9 (l.getD k ⟨⟨0, 0⟩, 0⟩).c.m (l.getD k ⟨⟨0, 0⟩, 0⟩).c.v S.n = true) (h3 : 4000 < l.length) : xX S l = 3 := by
 unfold xX; rw [if_pos ⟨h, h2⟩, if_pos h3]
theorem Lu {S : Sp} {l : List Rw} (h : dJ S = true) (h2 : ∀ k, k < l.length → d9 (l.getD k ⟨⟨0, 0⟩, 0⟩).c.m (l.getD k ⟨⟨0, 0⟩, 0⟩).c.v S.n = true) (h3 : ¬ 4000 < l.length) : xX S l = 0 := by
 unfold xX; rw [if_pos ⟨h, h2⟩, if_neg h3]
def IV (l : List Rw) (bs : List Bool) : Nat → List Rw
 | 0 => []
 | k + 1 => if bs.getD k false = true then IV l bs k ++ [l.getD k ⟨⟨0, 0⟩, 0⟩] else IV l bs k
def JV (bs : List Bool) : Nat → List Int
 | 0 => []
 | k + 1 => if bs.getD k false = true then JV bs k ++ [(k : Int)] else JV bs k
theorem qW {l : List Rw} {bs : List Bool} {x : Rw} : ∀ k, x ∈ IV l bs k ↔ ∃ c, c < k ∧ bs.getD c false = true ∧ x = l.getD c ⟨⟨0, 0⟩, 0⟩
 | 0 => by simp [IV]
 | k + 1 => by
  rw [IV]
  by_cases h : bs.getD k false = true
  ·rw [if_pos h, List.mem_append, qW k, List.mem_singleton]
   constructor
   ·rintro (⟨c, h1, h2⟩ | rfl)
    ·exact ⟨c, by omega, h2⟩
    ·exact ⟨k, by omega, h, rfl⟩
   ·rintro ⟨c, h1, h2, h3⟩
    by_cases e : c = k
    ·subst e; exact .inr h3
    ·exact .inl ⟨c, by omega, h2, h3⟩
  ·rw [if_neg h, qW k]
   constructor
   ·rintro ⟨c, h1, h2⟩; exact ⟨c, by omega, h2⟩
   ·rintro ⟨c, h1, h2, h3⟩
    have e : c ≠ k := fun e => h (e ▸ h2)
    exact ⟨c, by omega, h2, h3⟩
theorem uh {bs : List Bool} {x : Int} : ∀ k, x ∈ JV bs k ↔ ∃ c : Nat, c < k ∧ bs.getD c false = true ∧ x = (c : Int)
 | 0 => by simp [JV]
 | k + 1 => by
  rw [JV]
  by_cases h : bs.getD k false = true
  ·rw [if_pos h, List.mem_append, uh k, List.mem_singleton]
   constructor
   ·rintro (⟨c, h1, h2⟩ | rfl)
    ·exact ⟨c, by omega, h2⟩
    ·exact ⟨k, by omega, h, rfl⟩
   ·rintro ⟨c, h1, h2, h3⟩
    by_cases e : c = k
    ·subst e; exact .inr h3
    ·exact .inl ⟨c, by omega, h2, h3⟩
  ·rw [if_neg h, uh k]
   constructor
   ·rintro ⟨c, h1, h2⟩; exact ⟨c, by omega, h2⟩
   ·rintro ⟨c, h1, h2, h3⟩
    have e : c ≠ k := fun e => h (e ▸ h2)
    exact ⟨c, by omega, h2, h3⟩
theorem uk {L : List (List Int)} {cols : List Int} : nQ L cols = true ↔ ∀ r, r ∈ L → ∃ c, c ∈ r ∧ c ∈ cols := by
 rw [z4]
 constructor
 ·intro h r hr
  obtain ⟨k, hk, rfl⟩ := fk (d := []) hr
  exact h k hk
 ·exact fun h i hi => h _ (dS hi)
theorem Ch {l : List Rw} {bs : List Bool} {k p o : Nat} : Fz (IV l bs k) p o = true ↔ ∃ c, c < k ∧ bs.getD c false = true ∧ Ew l c o p = true := by
 unfold Fz
 rw [List.any_eq_true]
 constructor
 ·rintro ⟨x, hx, h⟩
  obtain ⟨c, h1, h2, rfl⟩ := (qW k).1 hx
  exact ⟨c, h1, h2, h⟩
 ·rintro ⟨c, h1, h2, h3⟩
  exact ⟨_, (qW k).2 ⟨c, h1, h2, rfl⟩, h3⟩
theorem Lb {S : Sp} {l : List Rw} {bs : List Bool} {k : Nat} (hr : dJ S = true) (hw : ∀ q, q < l.length → pk S (l.getD q ⟨⟨0, 0⟩, 0⟩) = true) (hl : l.length ≤ 4000) (hk : k ≤ l.length) :
  (dX (l.length : Int) (kW S l) && nQ (kW S l) (JV bs k)) = ko S (IV l bs k) := by
 rw [jK hl, Bool.true_and]
 obtain ⟨h0, h8, h1, h4, h5, hin⟩ := dY.1 hr
 have hp := fo h8
 have hm : pw S (IV l bs k) = true := by
  unfold pw
  rw [List.all_eq_true]
  intro x hx
  obtain ⟨c, h1, _, rfl⟩ := (qW k).1 hx
  have hi := hw c (by omega)
  exact ji.2 ⟨gj hi, (gp.1 hi).2.1, by rw [h5]; exact (nO hi).1⟩
 have hon : ∀ o, o < S.on.length → ∀ p, (Bk S o).testBit p = true → p < 256 → p < 2 ^ S.n.toNat := fun o ho p hb hp2 => by
  obtain ⟨w1, w2⟩ := hin o ho
  have := d4.1 w2 p hp2 (d4.1 w1 p hp2 hb)
  rw [fL] at this
  simpa using this
 rw [Bool.eq_iff_iff, uk, iN]
 constructor
 ·intro h
  refine ⟨hr, hm, fun o ho => (o0 hr hm ho).2 fun p hpn => ⟨fun hb => ?_, fun hc => ?_⟩⟩
  ·have hmem : qc l o p ∈ kW S l := lV.2 ((nu _).2 (by
    obtain ⟨j, hj, hjp⟩ := fk (d := (0 : Int)) (iQ.2 ⟨p, by omega, hb, rfl⟩ : (p : Int) ∈ ef (Bk S o))
    refine ⟨o, ho, j, hj, ?_⟩
    unfold Bk at hjp
    rw [hjp, Int.toNat_natCast]))
   obtain ⟨c, hc1, hc2⟩ := h _ hmem
   obtain ⟨c, rfl, g1, g2⟩ := nt.1 hc1
   obtain ⟨c', g3, g4, g5⟩ := (uh k).1 hc2
   obtain rfl : c = c' := by omega
   exact Ch.2 ⟨c, g3, g4, g2⟩
  ·obtain ⟨c, g1, g2, g3⟩ := Ch.1 hc
   have hi := hw c (by omega)
   unfold Ew at g3
   rw [Bool.and_eq_true] at g3
   obtain ⟨k1, k2⟩ := (gp.1 hi).2.2 o g3.1
   have hv := (dU.1 (gj hi)).2.2.2
   refine (fT.1 k2).2 p hpn ?_
   have := of_decide_eq_true g3.2
   rw [hv] at this
   exact this
 ·rintro ⟨_, _, h⟩ r hr2
  obtain ⟨o, ho, j, hj, rfl⟩ := (nu _).1 (lV.1 hr2)
  obtain ⟨p, hp2, hb, e⟩ := kE hj
  rw [e, Int.toNat_natCast]
  have hpn := hon o ho p hb hp2
  obtain ⟨c, g1, g2, g3⟩ := Ch.1 (((o0 hr hm ho).1 (h o ho) p hpn).1 hb)
  exact ⟨(c : Int), nt.2 ⟨c, rfl, by omega, g3⟩, (uh k).2 ⟨c, g1, g2, rfl⟩⟩
def Nk (n : Nat) : List Int := (List.range n).map fun k : Nat => (k : Int)
theorem Jj {k : Nat} {x : Int} : x ∈ Nk k ↔ 0 ≤ x ∧ x < k := by
 unfold Nk
 rw [List.mem_map]
 constructor
 ·rintro ⟨c, h, rfl⟩
  have := List.mem_range.1 h
  omega
 ·intro h
  exact ⟨x.toNat, List.mem_range.2 (by omega), by omega⟩
def iV (L : List (List Int)) (k : Nat) : Bool := (List.range k).all fun i => decide (0 < (L.getD i []).length)
theorem Hn {L : List (List Int)} {k : Nat} : iV L k = true ↔ ∀ i, i < k → 0 < (L.getD i []).length := by
 unfold iV
 rw [List.all_eq_true]
 exact ⟨fun h i hi => by simpa using h i (List.mem_range.2 hi), fun h i hi => by simpa using h i (List.mem_range.1 hi)⟩
end
section
open Go Go.RowKit
theorem Ol39_0 {p : Prop} (h : p := by first | omega | (simp only [cV, cX, cW, de, dg]; omega)) : p := h
theorem eg : fw Tryz.prog 77 1 = some 1 := by kernel_rfl
theorem fc : fl Tryz.prog 75 = true := by kernel_rfl
theorem d6 : fI Tryz.prog 75 = some (80, 1, 24) := by kernel_rfl
theorem iE : fl Tryz.prog 80 = true := by kernel_rfl
theorem iw : fw Tryz.prog 77 0 = some 0 := by kernel_rfl
theorem A3 : fI Tryz.prog 150 = some (5, 1, 1) := by kernel_rfl
theorem Ig : (eH Tryz.prog 5).map (fun z => z.cells.size) = some 1 := by kernel_rfl
theorem kV : fl Tryz.prog 29 = true := by kernel_rfl
theorem Nj : dH Tryz.prog 70 = true := by kernel_rfl
theorem vw : fl Tryz.prog 108 = true := by kernel_rfl
theorem Bd : lx Tryz.prog 108 = some (9, 4) := by kernel_rfl
theorem Dv : n7 Tryz.prog 9 (fun v => ∃ a : List UInt8, v = ma a) := by
  refine m6 Tryz.underlying9 ?_ ?_ ?_ ?_
  · rintro w _ _ ⟨a, rfl⟩ ⟨c, rfl⟩
    refine ⟨_, run_equalIn_string w 9999 9 _ _ Tryz.underlying9, by rw [beq_iff_eq, ByteArray.toList_eq]; simp [ma]⟩
  · rintro _ _ ⟨a, rfl⟩ ⟨c, rfl⟩
    exact .inr ⟨_, rfl, by rw [zr]; simp [ma]⟩
  · rintro w em _ ⟨a, rfl⟩
    have h2 : ∀ k, (Instr.checkKey em (k + 1) 9 (ma a)).run Tryz.prog w = .ok () w := fun k => by
      simp [ma, Instr.checkKey, run_underlying Tryz.underlying9]
    exact h2 9999
  · rintro _ ⟨a, rfl⟩
    exact (zr a a).2 rfl
theorem Mq : dH Tryz.prog 71 = true := by kernel_rfl
theorem iY : (eH Tryz.prog 80).map (fun z => z.cells.size) = some 1 := by kernel_rfl
theorem gX : eH Tryz.prog 77 = some (.agg #[.int .i64 0, .slice none 0 0]) := by kernel_rfl
theorem ia : (Tryz.prog.info? 3).map (·.size) = some 1 := by kernel_rfl
theorem xv : (Tryz.prog.info? 75).map (·.size) = some 1 := by kernel_rfl
theorem pc {f : Nat → Value} {w : World} {d : Option Nat} {ty : TypeId} {ps : String} {af : Array Edge} {g : Option (Nat × Bool)}    :
    (execOp (dK f) ⟨d, .build 77 #[], ty, ps, af, g⟩).run Tryz.prog w = .ok (.value (.agg #[.int .i64 0, .slice none 0 0])) w := by
  obtain ⟨i0, hi0, hz0⟩ := Option.bind_eq_some_iff.1 (show (Tryz.prog.info? 77).bind (·.zero) = _ from gX)
  obtain ⟨j3, hj3, hs3⟩ := Option.map_eq_some_iff.1 ia
  obtain ⟨j75, hj75, hs75⟩ := Option.map_eq_some_iff.1 xv
  simp [execOp, Instr.build, zeroValue, typeInfo, sizeOf, hi0, hz0, run_underlying Tryz.underlying77, Instr.fill, eW, hj3, hs3, hj75, hs75]
theorem dE : kM Tryz.prog 77 = some 2 := by kernel_rfl
theorem NG : eH Tryz.prog 22 = some (.slice none 0 0) := by kernel_rfl
theorem tN : (eH Tryz.prog 49).map (fun z => z.cells.size) = some 4 := by kernel_rfl
theorem j4 {f : Nat → Value} {w : World} {d : Option Nat} {ty : TypeId} {ps : String} {af : Array Edge} {g : Option (Nat × Bool)} {x0 : Operand} {c0_0 : Value} (h0 : dK f x0 = c0_0) (k0 : c0_0.cells = #[c0_0]) :
    (execOp (dK f) ⟨d, .build 77 #[(0, x0)], ty, ps, af, g⟩).run Tryz.prog w = .ok (.value (.agg #[c0_0, .slice none 0 0])) w := by
  obtain ⟨i0, hi0, hz0⟩ := Option.bind_eq_some_iff.1 (show (Tryz.prog.info? 77).bind (·.zero) = _ from gX)
  obtain ⟨j3, hj3, hs3⟩ := Option.map_eq_some_iff.1 ia
  obtain ⟨j75, hj75, hs75⟩ := Option.map_eq_some_iff.1 xv
  simp [execOp, h0, k0, Instr.build, zeroValue, typeInfo, sizeOf, hi0, hz0, run_underlying Tryz.underlying77, Instr.fill, eW, hj3, hs3, hj75, hs75]
theorem JS : eH Tryz.prog 108 = some (.map none) := by kernel_rfl
theorem NU : dH Tryz.prog 68 = true := by kernel_rfl
theorem js (n : Int) (rv : Value) (vs : List Value) (L : List (List Int)) (w : World) (hrv : dO encV 1 w rv vs) (hll : LL w vs L) (hLb : L.length ≤ 1000000) (hRb : ∀ i, (L.getD i []).length ≤ 1000000) :
    Fn Tryz.prog 72 #[.agg #[.int .i64 n, rv]] w fun v w' => v = .bool (dX n L) := by
 refine dr (n := 41) Tryz.func72 rfl rfl (Nat.le_of_ble_eq_true rfl) ?_
 have hB : Below w.heap.size w w := Below.refl _ _
 have hvl := hll.len
 refine Zr <| Zy (dW (c := #[_, _]) rfl rfl fun g W3 h j a => ?_)
 have z := ZO h hB
 clear h
 replace hB := Ze hB j
 refine Zw (.bool false) rfl <| cT <| cY fun K6 l => Zr <| Zf rfl eg <| ZL rv rfl fc a rfl <| Zv (dB (v := rv) rfl (Below.slT hB hrv) d6) <| Zw (.int .i64 0) rfl <| cT <| c9 ?_
 refine dy (σ := (Nat)) [2, 4, 5, 7, 11, 12, 13, 14, 15, 16, 17, 18, 19, 20, 21, 22, 23, 24, 25, 26, 27, 28, 29, 30, 31, 32] (fun i => [(11, .int .i64 (i : Int))]) (fun i W => (Below w.heap.size w W) ∧ (At W g _ 77) ∧ (i ≤ L.length) ∧ (∀ q, q < i → nr n (L.getD q []) = true) ∧ (True)) (fun i => L.length - i) (0) ⟨rfl, trivial⟩ ⟨hB, a, (Nat.zero_le _), fX, trivial⟩ ?_
 clear hB a
 rintro i A B ⟨hB, a, hi, hq, _⟩ C m
 refine Zr <| Zv (dP rfl rfl) <| cT <| cY fun D o => ZQ rfl (fun p => ?_) fun p => ?_
 refine c7 <| o _ _ <| cY fun E r => c9 <| Zr <| Zv (dM (v := rv) rfl (Below.slT hB hrv) rfl d6 Om Ol39_0) <| Zv (dm (v := (vs.getD i undef)) rfl iE (dO.cell (Below.slT hB hrv) fV undef Om Ol39_0 0 rfl)) ?_
 have b : dO eb 1 w ((vs.getD i undef)) (L.getD i []) := hll.get i (by omega)
 refine Zw (vs.getD i undef) rfl <| cT <| Zr <| Zi rfl <| cT ?_
 have hRi := hRb i
 refine Zr <| Zw (vs.getD i undef) rfl <| Zv (dB (v := (vs.getD i undef)) rfl (Below.slT hB b) dw) <| Zw (.int .i64 0) rfl <| cT <| c9 ?_
 refine dy (σ := (Nat)) [2, 5, 7, 17, 18, 19, 20, 21, 22, 23, 24, 25, 26, 27, 28, 29, 30, 31] (fun k => [(17, .int .i64 (k : Int)), (5, .int .i64 (vA (L.getD i []) k))]) (fun k W => (Below w.heap.size w W) ∧ (At W g _ 77) ∧ (k ≤ (L.getD i []).length) ∧ (∀ q, q < k → 0 ≤ (L.getD i []).getD q 0 ∧ (L.getD i []).getD q 0 < n ∧ (0 < q → (L.getD i []).getD (q - 1) 0 < (L.getD i []).getD q 0)) ∧ (True)) (fun k => (L.getD i []).length - k) (0) ⟨rfl, rfl, trivial⟩ ⟨hB, a, (Nat.zero_le _), fX, trivial⟩ ?_
 clear hB a
 rintro k F G ⟨hB, a, hk, hq2, _⟩ H s
 refine Zr <| Zv (dP rfl rfl) <| cT <| cY fun I t => ZQ rfl (fun u => ?_) fun u => ?_
 refine c7 <| t _ _ <| cY fun J x => c9 <| Zr <| Zv (dM (v := (vs.getD i undef)) rfl (Below.slT hB b) rfl dw Om Ol39_0) <| Zv (dm (v := .int .i64 _) rfl dC (dO.cell (Below.slT hB b) eN 0 Om Ol39_0 0 rfl)) <| Zi rfl <| cT <| cY fun K y => Zr <| Zi rfl <| Zi rfl <| Zv (Af rfl rfl) ?_
 refine ZX rfl (fun d => ?_) fun d => ?_
 refine Zs <| Zs <| Zs <| Zs <| Zw (.bool true) rfl <| cT <| dz rfl <| Zr <| Zw (.bool false) rfl <| cT <| Zt <| dL (v := .bool false) rfl ⟨hB, ?_⟩
 exact Lm (i := i) (k := k) Om Om (fun q hq => (hq2 q hq).1) (.inl d)
 refine Zi rfl <| Zf rfl iw <| Zl rfl dC a rfl <| Zv (ol rfl rfl) <| Zb rfl <| cT <| ZQ rfl (fun e => ?_) fun e => ?_
 refine Zr <| Zw (.bool false) rfl <| cT <| Zt <| dL (v := .bool false) rfl ⟨hB, ?_⟩
 exact Lm (i := i) (k := k) Om Om (fun q hq => (hq2 q hq).1) (.inr e)
 refine c7 <| y _ _ <| cZ <| Zi rfl <| Zi rfl <| cT <| x _ _ <| cZ <| Zv (dq rfl rfl Om Om) <| Zi rfl <| cT ?_
 exact s _ _ (k + 1) Za ⟨rfl, rfl, trivial⟩ ⟨hB, a, Om, (KS hq2 d e), trivial⟩ Zo
 refine dt <| r _ _ <| cZ <| Zv (dq rfl rfl Om Om) <| Zi rfl <| cT ?_
 exact m _ _ (i + 1) Za ⟨rfl, trivial⟩ ⟨hB, a, Om, (fE hq (iO.2 (fun q hq => hq2 q Om))), trivial⟩ Zo
 refine dt <| l _ _ <| Zr <| Zf rfl iw <| Zl rfl dC a rfl <| Zv (ol rfl rfl) <| ZX rfl (fun f => ?_) fun f => ?_
 refine Zf rfl iw <| Zl rfl dC a rfl <| Zv (Af rfl rfl) <| Zb rfl <| Zb rfl <| cT <| Zt <| dL (v := .bool _) rfl ⟨hB, ?_⟩
 obtain rfl : i = L.length := by omega
 exact Pt f hq
 refine Zs <| Zs <| Zs <| Zw (.bool false) rfl <| Zw (.bool false) rfl <| cT <| Zt <| dL (v := .bool false) rfl ⟨hB, ?_⟩
 obtain rfl : i = L.length := by omega
 exact PF f
theorem wD (xa xb : Value) (a b : List Int) (w : World) (ha : dO eb 1 w xa a) (hb : dO eb 1 w xb b) (hal : a.length ≤ 1000000) (hbl : b.length ≤ 1000000) :
    Fn Tryz.prog 71 #[xa, xb] w fun v w' => v = .bool (fK a b) := by
 refine dr (n := 40) Tryz.func71 rfl rfl (Nat.le_of_ble_eq_true rfl) ?_
 have hB : Below w.heap.size w w := Below.refl _ _
 refine Zr <| Zw (.bool false) rfl <| cT <| cY fun K3 e => Zr <| Zw xa rfl <| Zv (dB (v := xa) rfl (Below.slT hB ha) dw) <| Zw xb rfl <| Zv (dB (v := xb) rfl (Below.slT hB hb) dw) <| Zv (fC rfl rfl) <| cT <| ZQ rfl (fun d => ?_) fun d => ?_
 refine Zr <| Zw xa rfl <| Zv (dB (v := xa) rfl (Below.slT hB ha) dw) <| Zw xb rfl <| Zv (dB (v := xb) rfl (Below.slT hB hb) dw) <| Zv (dP rfl rfl) <| Zb rfl <| cT <| Zt <| dL (v := .bool _) rfl ⟨hB, ?_⟩
 exact O1 d
 refine c7 <| e _ _ <| cY fun K9 f => Zr <| Zw xa rfl <| Zv (dB (v := xa) rfl (Below.slT hB ha) dw) <| Zw (.int .i64 0) rfl <| cT <| c9 ?_
 refine dy (σ := (Nat)) [4, 5, 18, 19, 20, 21, 22, 23, 24, 25, 26, 27, 28, 29, 30, 31, 32, 33, 34, 35, 36, 37, 38, 39] (fun k => [(18, .int .i64 (k : Int))]) (fun k W => (Below w.heap.size w W) ∧ (k ≤ a.length) ∧ (∀ q, q < k → a.getD q 0 = b.getD q 0) ∧ (True)) (fun k => a.length - k) (0) ⟨rfl, trivial⟩ ⟨hB, (Nat.zero_le _), fX, trivial⟩ ?_
 clear hB
 rintro k r s ⟨hB, hk, hq, _⟩ t g
 refine Zr <| Zv (dP rfl rfl) <| cT <| cY fun u h => ZQ rfl (fun i => ?_) fun i => ?_
 refine c7 <| h _ _ <| cY fun x j => c9 <| Zr <| Zi rfl <| Zi rfl <| cT <| Zd eo fun l m => ?_
 replace hB := Ze hB m
 have hS := eo.refl l
 refine Tw 0 xa rfl rfl hS <| Ti 1 rfl rfl hS <| Tk 2 rfl (fun _ hq => dM (v := xa) rfl (hq.slT (Below.slT hB ha)) rfl dw Om Ol39_0) hS <| Tk 3 rfl (fun _ hq => dm (v := .int .i64 _) rfl dC (dO.cell (hq.slT (Below.slT hB ha)) eN 0 Om Ol39_0 0 rfl)) hS <| Tw 4 xb rfl rfl hS <| Ti 5 rfl rfl hS <| Tk 6 rfl (fun _ hq => dM (v := xb) rfl (hq.slT (Below.slT hB hb)) rfl dw Om Ol39_0) hS <| Tk 7 rfl (fun _ hq => dm (v := .int .i64 _) rfl dC (dO.cell (hq.slT (Below.slT hB hb)) eN 0 Om Ol39_0 0 rfl)) hS <| Tk 8 rfl (fun _ _ => fC rfl rfl) hS <| Td <| ZQ rfl (fun c => ?_) fun c => ?_
 refine Zd eo fun o p => ?_
 replace hB := Ze hB p
 have hS := eo.refl o
 refine Tw 0 xa rfl rfl hS <| Ti 1 rfl rfl hS <| Tk 2 rfl (fun _ hq => dM (v := xa) rfl (hq.slT (Below.slT hB ha)) rfl dw Om Ol39_0) hS <| Tk 3 rfl (fun _ hq => dm (v := .int .i64 _) rfl dC (dO.cell (hq.slT (Below.slT hB ha)) eN 0 Om Ol39_0 0 rfl)) hS <| Tw 4 xb rfl rfl hS <| Ti 5 rfl rfl hS <| Tk 6 rfl (fun _ hq => dM (v := xb) rfl (hq.slT (Below.slT hB hb)) rfl dw Om Ol39_0) hS <| Tk 7 rfl (fun _ hq => dm (v := .int .i64 _) rfl dC (dO.cell (hq.slT (Below.slT hB hb)) eN 0 Om Ol39_0 0 rfl)) hS <| Tk 8 rfl (fun _ _ => dP rfl rfl) hS <| Ty 9 rfl rfl hS <| Td <| Zt <| dL (v := .bool _) rfl ⟨hB, ?_⟩
 exact Ov (k := k) Om Om hq c
 refine c7 <| j _ _ <| cZ <| Zv (dq rfl rfl Om Om) <| Zi rfl <| cT ?_
 exact g _ _ (k + 1) Za ⟨rfl, trivial⟩ ⟨hB, Om, (fE hq (Decidable.of_not_not c)), trivial⟩ Zo
 refine dt <| f _ _ <| Zr <| Zw (.bool false) rfl <| cT <| Zt <| dL (v := .bool false) rfl ⟨hB, ?_⟩
 exact OO (k := k) Om Om hq
theorem yB (xa : Value) (a : List Int) (w : World) (ha : dO eb 1 w xa a) (hal : a.length ≤ 4000) (hsm : ∀ x, x ∈ a → 0 ≤ x ∧ x < 65536) :
    Fn Tryz.prog 70 #[xa] w fun v w' => v = ma (jV a) := by
 refine dr (n := 23) Tryz.func70 rfl rfl (Nat.le_of_ble_eq_true rfl) ?_
 have hB : Below w.heap.size w w := Below.refl _ _
 refine Zr <| Zw (.string _) rfl <| cT <| Zr <| Zw (.slice none 0 0) rfl <| cT <| cY fun K5 l => Zr <| Zw xa rfl <| Zv (dB (v := xa) rfl (Below.slT hB ha) dw) <| Zw (.int .i64 0) rfl <| cT <| c9 ?_
 refine dy (σ := (Nat) × (Value)) [3, 5, 8, 9, 10, 11, 12, 13, 14, 15, 16, 17, 18, 19, 20] (fun (k, v0) => [(8, .int .i64 (k : Int)), (3, v0)]) (fun sg W => match sg with | (k, v0) => (Below w.heap.size w W) ∧ (dh zu 1 5 W w.heap.size v0 (o6 (a.take k))) ∧ (k ≤ a.length) ∧ (True)) (fun (k, v0) => a.length - k) ((0, .slice none 0 0)) ⟨rfl, rfl, trivial⟩ ⟨hB, dh.nil, (Nat.zero_le _), trivial⟩ ?_
 clear hB
 rintro ⟨k, v0⟩ y W9 ⟨hB, ho, hk, _⟩ z m
 refine Zr <| Zv (dP rfl rfl) <| cT <| cY fun A o => ZQ rfl (fun p => ?_) fun p => ?_
 refine c7 <| o _ _ <| cY fun B q => c9 <| Zr <| Zv (dM (v := xa) rfl (Below.slT hB ha) rfl dw Om Ol39_0) <| Zv (dm (v := .int .i64 _) rfl dC (dO.cell (Below.slT hB ha) eN 0 Om Ol39_0 0 rfl)) <| Zi rfl <| cT ?_
 have r := (hsm (a.getD k 0) (dS (by omega))).1
 have hwl : (o6 (a.take k)).length ≤ 8000 := by rw [EC, List.length_take]; omega
 refine cZ <| Zw v0 rfl <| Zi rfl <| Zv (Mi rfl rfl r) <| Zv (GP rfl Tryz.underlying3 Tryz.underlying5) <| Zi rfl <| Zv (GP rfl Tryz.underlying3 Tryz.underlying5) <| Zy (CE (u0 := .int .u8 _) (u1 := .int .u8 _) rfl rfl A3 Ig rfl rfl Dd Dd fun e C c f s => ?_)
 have t := ZO c hB
 have olt_ho := dh.lt2 ho
 have g : eO v0 (.slice (some ⟨e, 0, none⟩) 2 2) := fun j h1 h2 => by cases h2; exact absurd (olt_ho _ h1) (by rw [c]; exact Nat.lt_irrefl _)
 clear c
 replace hB := Ze hB f
 replace ho := f.ow ho
 have b := uq (enc := zu) (sz := 1) (a0 := _) (a1 := _) s rfl rfl rfl rfl t
 refine Zy (jl (v := v0) (v2 := .slice (some ⟨e, 0, none⟩) 2 2) rfl rfl A3 Ig Dd ho b.sl (yp) (by have := Below.size hB; omega) (by simp; omega) (by simp; omega) fun h D i d u => ?_)
 have E := eO.app g u b
 replace d := dh.app (enc := zu) rfl rfl rfl rfl d
 replace hB := ZG hB i ho
 replace b := dh.grownAp b g i
 clear ho
 refine Zw h rfl <| cT <| q _ _ <| cZ <| Zv (dq rfl rfl Om Om) <| Zi rfl <| cT ?_
 exact m _ _ ((k + 1, h)) Za ⟨rfl, rfl, trivial⟩ ⟨hB, (by rw [← Ca a k Om]; exact d), Om, trivial⟩ (by show a.length - (k + 1) < a.length - k; omega)
 refine dt <| l _ _ ?_
 obtain rfl : k = a.length := by omega
 rw [List.take_length] at ho
 refine Zr <| Zw v0 rfl <| Zv (BG (v := v0) rfl ho.sl Tryz.underlying150 Tryz.underlying5 Tryz.underlying9) <| Zw (ma _) rfl <| cT <| Zt <| dL (v := ma _) rfl ⟨hB, ?_⟩
 rfl
theorem Oc (N o : Nat) (p n : Int) (l : List Rw) (ks : List (List Int)) (bl bp bmet bm bq b4 bs : Nat) (xl xp rv xq s1 s2 : Value) (vs : List Value) (lq : List Int) (w : World) (hN0 : N ≤ w.heap.size) (ho : o < 8) (hp : 0 ≤ p ∧ p.toNat < 2 ^ n.toNat) (hl4 : l.length ≤ 4000) (hlr : ik l) (hrr : ∀ k, k < l.length → d9 (l.getD k ⟨⟨0, 0⟩, 0⟩).c.m (l.getD k ⟨⟨0, 0⟩, 0⟩).c.v n = true) (hnd : ks.Nodup) (hkr : ∀ x, x ∈ ks → og l x) (hkl : ks.length ≤ 2000) (hl : dO gK 3 w xl l) (hbl : At w bl #[xl] 29) (hbp : At w bp #[xp] 22) (hpo : dh gr 4 49 w N xp (si l n l.length)) (hbm : At w bmet #[.map (some bq)] 108) (hq : dQ ma Value.bool w bq (fq ((ks).map jV))) (d : At w b4 #[.int .i64 0, .slice none 0 0] 77) (hbs : At w bs #[.int .i64 n, s1, s2] 24) (hxq : dh eb 1 3 w N xq lq) (hmm : At w bm #[.int .i64 (l.length : Int), rv] 77) (hrv : dh encV 1 80 w N rv vs) (hLO : LO 3 N w vs (gQ ks)) (lom : N ≤ bm) (loq : N ≤ bq) (hne : b4 ≠ bm) :
    qr Tryz.prog 68 #[.int .i64 (o : Int), .int .i64 p, .pointer (some ⟨bl, 0, none⟩), .pointer (some ⟨bp, 0, none⟩), .pointer (some ⟨bmet, 0, none⟩), .pointer (some ⟨bm, 0, none⟩)] w fun v w' => Below N w w' ∧ At w' bl #[xl] 29 ∧ At w' bp #[xp] 22 ∧ dh gr 4 49 w' N xp (si l n l.length) ∧ At w' bmet #[.map (some bq)] 108 ∧ dQ ma Value.bool w' bq (fq ((ir ks (qc l o p.toNat)).map jV)) ∧ At w' b4 #[.int .i64 0, .slice none 0 0] 77 ∧ At w' bs #[.int .i64 n, s1, s2] 24 ∧ dh eb 1 3 w' N xq lq ∧ ∃ rv' vs', At w' bm #[.int .i64 (l.length : Int), rv'] 77 ∧ dh encV 1 80 w' N rv' vs' ∧ LO 3 N w' vs' (gQ (ir ks (qc l o p.toNat))) := by
 refine eV (n := 77) Tryz.func68 rfl rfl (Nat.le_of_ble_eq_true rfl) ?_
 have hB : Below N w w := Below.refl _ _
 have hpl := Ba (l := l) (n := n) (Nat.le_refl _)
 have hkl2 := xH ks
 have hvl := hLO.len
 have R := hB
 replace hB := Below.refl w.heap.size w
 refine Zr <| Zw (.slice none 0 0) rfl <| cT <| cY fun K4 aw => Zr <| ZL xl rfl kV (Below.atI hB hbl) rfl <| Zv (dB (v := xl) rfl (Below.slT hB hl) dV) <| Zw (.int .i64 0) rfl <| cT <| c9 ?_
 refine dy (σ := (Nat) × (Value)) [8, 9, 10, 15, 16, 17, 18, 19, 20, 21, 22, 23, 24, 25, 26, 27, 28, 29, 30, 31, 32, 33, 34, 35, 36, 37, 38] (fun (k, v0) => [(15, .int .i64 (k : Int)), (8, v0)]) (fun sg W => match sg with | (k, v0) => (Below w.heap.size w W) ∧ (dh eb 1 3 W w.heap.size v0 (jc l o p.toNat k)) ∧ (k ≤ l.length) ∧ (True)) (fun (k, v0) => l.length - k) ((0, .slice none 0 0)) ⟨rfl, rfl, trivial⟩ ⟨hB, dh.nil, (Nat.zero_le _), trivial⟩ ?_
 clear hB
 rintro ⟨k, v0⟩ g9 W8 ⟨hB, ho, hk, _⟩ aT aa
 refine Zr <| Zv (dP rfl rfl) <| cT <| cY fun aU ax => ZQ rfl (fun ay => ?_) fun ay => ?_
 refine c7 <| ax _ _ <| cY fun aV ab => c9 <| Zr <| Zi rfl <| Zv (dM (v := xl) rfl (Below.slT hB hl) rfl dV Om Ol39_0) <| Zv (lM rfl ez (dO.cell (Below.slT hB hl) eI ⟨⟨0, 0⟩, 0⟩ Om Ol39_0 0 rfl) (dO.cell (Below.slT hB hl) eI ⟨⟨0, 0⟩, 0⟩ Om Ol39_0 1 rfl) (dO.cell (Below.slT hB hl) eI ⟨⟨0, 0⟩, 0⟩ Om Ol39_0 2 rfl)) <| Zy (dp kL rfl fun aW aX al ao M => ?_)
 have az := ZO al hB
 clear al
 replace hB := Ze hB ao
 replace ho := ao.ow ho
 refine Zi rfl <| Zy (df rfl rfl ez rfl M rfl rfl fun aY ap aA => ?_)
 replace hB := Zg hB ap az
 replace ho := dh.grownAt ho M ap Dd
 replace M := aA
 refine cT ?_
 obtain ⟨aZ, a0, aB⟩ := hlr.get (k := k) (by omega)
 refine Zr <| Zf rfl fZ <| Zl rfl ey M rfl <| Zi rfl <| Zv (rx rfl rfl Om (by simp only [IntKind.bits]; omega)) <| Zv (ng (n := 1) rfl rfl rfl (by show (l.getD k ⟨⟨0, 0⟩, 0⟩).o / 2 ^ ((o : Nat) : Int).toNat < 256; exact Nat.lt_of_le_of_lt (Nat.div_le_self _ _) aB) Dd) <| Zv (eq rfl rfl) <| ZX rfl (fun O => ?_) fun O => ?_
 refine ZL xp rfl eK (Below.atI hB hbp) rfl <| Zi rfl <| Zv (dM (v := xp) rfl ((Below.ow hB hpo)).sl rfl ej Om Ol39_0) <| Zv (ft rfl db (dO.cell ((Below.ow hB hpo)).sl dI 0 Om Ol39_0 0 rfl) (dO.cell ((Below.ow hB hpo)).sl dI 0 Om Ol39_0 1 rfl) (dO.cell ((Below.ow hB hpo)).sl dI 0 Om Ol39_0 2 rfl) (dO.cell ((Below.ow hB hpo)).sl dI 0 Om Ol39_0 3 rfl)) <| Zi rfl <| ZC (vs := [.agg #[_, _, _, _], .int .i64 _]) FC (xn _ _ _) rfl fun a1 a2 ac aC => ?_
 replace hB := Ze hB ac
 replace ho := ac.ow ho
 replace M := ac.at M
 obtain rfl := aC
 refine Zb rfl <| cT <| ZQ rfl (fun Q => ?_) fun Q => ?_
 have hrl := sq l o p.toNat k
 refine cZ <| Zw v0 rfl <| Zi rfl <| Zy (fp (u := .int .i64 _) rfl dw fR rfl Dd Dd fun ad a3 Y ae aD => ?_)
 have a4 := ZO Y hB
 have a5 := dh.neB (b := ad) (Below.ow hB hxq) (Nat.le_of_eq Y.symm)
 have a6 := dh.neB (b := ad) ho (Nat.le_of_eq Y.symm)
 clear Y
 replace hB := Ze hB ae
 replace ho := ae.ow ho
 replace M := ae.at M
 refine Zy (eB (v := v0) (v2 := .slice (some ⟨ad, 0, none⟩) 1 1) rfl rfl dw fR Dd ho (fP aD rfl) rfl (by have := Below.size hB; omega) (by first | omega | (simp; omega) | (simp only [cV, cX, cW, de, dg]; omega)) (by first | omega | (simp; omega) | (simp only [cV, cX, cW, de, dg]; omega)) fun aq a7 ar U => ?_)
 replace U := dh.snoc (enc := eb) (x := _) rfl rfl rfl rfl U
 replace hB := ZG hB ar ho
 replace M := At.grownOw M ho ar Dd
 clear ho
 refine Zw aq rfl <| cT <| ab _ _ <| cZ <| Zv (dq rfl rfl Om Om) <| Zi rfl <| cT ?_
 exact aa _ _ ((k + 1, aq)) Za ⟨rfl, rfl, trivial⟩ ⟨hB, (by first | (rw [← IA (k := k) (o := o) Om (hrr k Om) hp O Q]; exact U) | (rw [← BP (k := k) (o := o) Om (hrr k Om) hp O Q]; exact U) | (rw [← BE (k := k) (o := o) O]; exact U)), Om, trivial⟩ (by show l.length - (k + 1) < l.length - k; omega)
 refine c7 <| ab _ _ <| cZ <| Zv (dq rfl rfl Om Om) <| Zi rfl <| cT ?_
 exact aa _ _ ((k + 1, v0)) Za ⟨rfl, rfl, trivial⟩ ⟨hB, (by first | (rw [← IA (k := k) (o := o) Om (hrr k Om) hp O Q]; exact ho) | (rw [← BP (k := k) (o := o) Om (hrr k Om) hp O Q]; exact ho) | (rw [← BE (k := k) (o := o) O]; exact ho)), Om, trivial⟩ (by show l.length - (k + 1) < l.length - k; omega)
 refine Zs <| Zs <| Zs <| Zs <| Zs <| Zs <| Zw (.bool false) rfl <| cT <| ep rfl <| c7 <| ab _ _ <| cZ <| Zv (dq rfl rfl Om Om) <| Zi rfl ?_
 refine cT ?_
 exact aa _ _ ((k + 1, v0)) Za ⟨rfl, rfl, trivial⟩ ⟨hB, (by first | (rw [← IA (k := k) (o := o) Om (hrr k Om) hp O Q]; exact ho) | (rw [← BP (k := k) (o := o) Om (hrr k Om) hp O Q]; exact ho) | (rw [← BE (k := k) (o := o) O]; exact ho)), Om, trivial⟩ (by show l.length - (k + 1) < l.length - k; omega)
 refine dt <| aw _ _ ?_
 obtain rfl : k = l.length := by omega
 have hro : og l (qc l o p.toNat) := ⟨o, p.toNat, rfl⟩
 have hrl := sq l o p.toNat l.length
 refine Zr <| Zw v0 rfl <| ZC Nj (yB _ (jc l o p.toNat l.length) _ ho.sl Om (hro.small hl4)) rfl fun a8 a9 au aE => ?_
 replace hB := Ze hB au
 replace ho := au.ow ho
 obtain rfl := aE
 refine Zw (.string _) rfl <| cT <| cY fun ba aF => Zr <| ZL (.map (some bq)) rfl vw (Below.atI hB hbm) rfl <| Zw (.string _) rfl <| Zv (fN (enc := ma) (encV := Value.bool) (v0 := false) (k := (jV (qc l o p.toNat))) rfl rfl Bd Dv (fun a => ⟨a, rfl⟩) A4 oa rfl (Below.mapI hB hq)) <| cT <| ZQ rfl (fun af => ?_) fun af => ?_
 refine uS ?_
 clear hl
 replace hbl := Below.atI hB hbl
 replace hbp := Below.atI hB hbp
 replace hpo := Below.ow hB hpo
 replace hbm := Below.atI hB hbm
 replace hq := Below.mapI hB hq
 replace d := Below.atI hB d
 replace hbs := Below.atI hB hbs
 replace hxq := Below.ow hB hxq
 replace hmm := Below.atI hB hmm
 replace hrv := Below.ow hB hrv
 replace hLO := LO.below hB hLO
 have hzs := Nat.le_trans hN0 (Below.size R)
 replace ho := dh.mono ho hzs
 replace hB := Below.trans R (Below.mono hB hzs)
 clear R hzs
 repeat (first | refine jQ ?_ | refine jd ?_)
 refine IE ?_
 have hin : qc l o p.toNat ∈ ks := (rG hl4 hkr hro).1 (mX af)
 rw [EX hin]
 exact ⟨hB, hbl, hbp, hpo, hbm, hq, d, hbs, hxq, rv, vs, hmm, hrv, hLO⟩
 refine c7 <| aF _ _ ?_
 clear hl
 replace hbl := Below.atI hB hbl
 replace hbp := Below.atI hB hbp
 replace hpo := Below.ow hB hpo
 replace hbm := Below.atI hB hbm
 replace hq := Below.mapI hB hq
 replace d := Below.atI hB d
 replace hbs := Below.atI hB hbs
 replace hxq := Below.ow hB hxq
 replace hmm := Below.atI hB hmm
 replace hrv := Below.ow hB hrv
 replace hLO := LO.below hB hLO
 have hzs := Nat.le_trans hN0 (Below.size R)
 replace ho := dh.mono ho hzs
 replace hB := Below.trans R (Below.mono hB hzs)
 clear R hzs
 have hnr : qc l o p.toNat ∉ ks := fun h => ld af ((rG hl4 hkr hro).2 h)
 refine Zr <| ZL (.map (some bq)) rfl vw hbm rfl <| Zw (.string _) rfl ?_
 refine gP (dd := none) rfl rfl rfl (fD (enc := ma) (encV := Value.bool) (k := (jV (qc l o p.toNat))) (v := true) rfl rfl rfl Bd Dv (fun a => ⟨a, rfl⟩) A4 hq (fun bb K aG => ?_))
 replace hbl := At.grownMap hbl hq K
 replace hbp := At.grownMap hbp hq K
 replace hpo := dh.grownMap hpo hq K
 replace hbm := At.grownMap hbm hq K
 replace d := At.grownMap d hq K
 replace hbs := At.grownMap hbs hq K
 replace hxq := dh.grownMap hxq hq K
 replace hmm := At.grownMap hmm hq K
 replace hrv := dh.grownMap hrv hq K
 replace hLO := LO.grownMap hLO hq K
 replace hB := du hB K hN0 (fun j hj => by cases hj; exact loq)
 replace ho := dh.grownMap ho hq K
 clear K hq
 replace hq := aG
 rw [jb, Gc hl4 hkr hro] at hq
 refine cT <| Zr <| Zf rfl eg <| ZL rv rfl fc hmm rfl <| Zv (dB (v := rv) rfl hrv.sl d6) <| Zi rfl <| cT <| cY fun bc av => c9 ?_
 refine dy (σ := (Nat)) [12, 49, 50, 51, 52, 53, 54, 55, 56, 57, 58, 59, 60, 61, 62] (fun i => [(12, .int .i64 (i : Int))]) (fun i W => (At W bl _ 29) ∧ (At W bp _ 22) ∧ (dh gr 4 49 W N xp _) ∧ (At W bmet _ 108) ∧ (dQ ma Value.bool W bq _) ∧ (At W b4 _ 77) ∧ (At W bs _ 24) ∧ (dh eb 1 3 W N xq _) ∧ (At W bm _ 77) ∧ (dh encV 1 80 W N rv _) ∧ (LO 3 N W vs (gQ ks)) ∧ (Below N w W) ∧ (dh eb 1 3 W N v0 _) ∧ (i ≤ (gQ ks).length) ∧ (∀ q, i ≤ q → q < (gQ ks).length → fK (qc l o p.toNat) ((gQ ks).getD q []) = true) ∧ (True)) (fun i => i) ((gQ ks).length) ⟨congrArg (fun q : Nat => Value.int .i64 (q : Int)) hvl, trivial⟩ ⟨hbl, hbp, hpo, hbm, hq, d, hbs, hxq, hmm, hrv, hLO, hB, ho, (Nat.le_refl _), (fun q h1 h2 => by omega), trivial⟩ ?_
 clear hbl hbp hpo hbm hq d hbs hxq hmm hrv hLO hB ho
 rintro i bd aH ⟨hbl, hbp, hpo, hbm, hq, d, hbs, hxq, hmm, hrv, hLO, hB, ho, hi, hq2, _⟩ bf aI
 refine cY fun bg aJ => ?_
 have hsl := G9 hkr (i - 1)
 refine Zr <| Zi rfl <| Zv (i4 rfl rfl) <| ZX rfl (fun aK => ?_) fun aK => ?_
 refine Zw v0 rfl <| Zf rfl eg <| ZL rv rfl fc hmm rfl <| Zi rfl <| Zv (kI rfl rfl Om Om) <| Zv (dM (v := rv) rfl hrv.sl rfl d6 Om Ol39_0) <| Zv (dm (v := (vs.getD ((i : Int) - 1).toNat undef)) rfl iE (dO.cell hrv.sl fV undef Om Ol39_0 0 rfl)) ?_
 have P : dO eb 1 aH ((vs.getD ((i : Int) - 1).toNat undef)) ((gQ ks).getD (i - 1) []) := (by rw [show ((i : Int) - 1).toNat = i - 1 by omega]; exact (LO.ll hLO).get (i - 1) (by omega))
 refine ZC Mq (wD _ _ _ _ _ ho.sl P (by first | assumption | omega) (by first | assumption | omega)) rfl fun bh bi E aL => ?_
 replace hbl := E.at hbl
 replace hbp := E.at hbp
 replace hpo := E.ow hpo
 replace hbm := E.at hbm
 replace hq := E.mapT hq
 replace d := E.at d
 replace hbs := E.at hbs
 replace hxq := E.ow hxq
 replace hmm := E.at hmm
 replace hrv := E.ow hrv
 replace hLO := LO.ext E hLO
 replace hB := dD hB E hN0
 replace ho := E.ow ho
 replace P := E.slT P
 obtain rfl := aL
 refine Zb rfl <| cT <| ZQ rfl (fun Z => ?_) fun Z => ?_
 refine c7 <| aJ _ _ <| c9 <| cZ <| Zi rfl <| Zv (kI rfl rfl Om Om) <| Zi rfl <| cT ?_
 exact aI _ _ (i - 1) Za ⟨congrArg (Value.int .i64) (by omega : (i : Int) - 1 = ((i - 1 : Nat) : Int)), trivial⟩ ⟨hbl, hbp, hpo, hbm, hq, d, hbs, hxq, hmm, hrv, hLO, hB, ho, Om, (fun q h1 h2 => if e : q = i - 1 then by rw [e]; exact Z else hq2 q Om h2), trivial⟩ Zo
 refine dt <| av _ _ ?_
 have hput := Ib (i := i) hnd hnr hi hq2 (fun h0 => by first | omega | exact Z)
 have hC : vs.length ≤ iR rv := (Sl.eqv hrv.sl).2.1
 have hone := LO.one hLO
 refine gy eo iv (fun ag F => ?_)
 replace hbl := F.at hbl
 replace hbp := F.at hbp
 replace hpo := F.ow hpo
 replace hbm := F.at hbm
 replace hq := F.mapT hq
 replace d := F.at d
 replace hbs := F.at hbs
 replace hxq := F.ow hxq
 replace hmm := F.at hmm
 replace hrv := F.ow hrv
 replace hLO := LO.ext F hLO
 replace hB := dD hB F hN0
 replace ho := F.ow ho
 replace P := F.slT P
 have hS := eo.refl ag
 refine Tf 0 rfl rfl eg hS <| Tk 1 rfl (fun _ hq => dm (v := rv) rfl fc (At.cell (hq.at hmm) rfl)) hS <| Ti 2 rfl rfl hS <| Ti 3 rfl rfl hS <| Tk 4 rfl (fun _ hq => lS (v := rv) rfl ((hq.ow hrv)).sl d6 rfl rfl Om Om Om) hS ?_
 have f : dO encV 1 ag (fS 1 rv 0 i i) ((vs.drop 0).take (i - 0)) := dO.part fV hrv.sl (by omega) (by omega) (by omega) (by omega)
 refine Tw 5 v0 rfl rfl hS <| Tf 7 rfl rfl eg hS <| Tk 8 rfl (fun _ hq => dm (v := rv) rfl fc (At.cell (hq.at hmm) rfl)) hS <| Ti 9 rfl rfl hS <| Tk 10 rfl (fun _ hq => lT (v := rv) rfl ((hq.ow hrv)).sl d6 rfl Om Om) hS ?_
 have g : dO encV 1 ag (fS 1 rv i vs.length (iR rv)) ((vs.drop i).take (vs.length - i)) := dO.part fV hrv.sl (by omega) (by omega) (by omega) (by omega)
 refine To 6 rfl (fp (u := v0) rfl d6 iY (by rw [dO.cells ho.sl]; rfl) Dd Dd fun B bj S r V => ⟨.inl (hS.trans r), ?_⟩)
 have ah : N ≤ B := S ▸ (Nat.le_trans hN0 (Below.size hB))
 have X := Nat.le_trans (eo.size hS) (Nat.le_of_eq S.symm)
 have aM := dh.neB (b := B) hrv (Nat.le_of_eq S.symm)
 have aN := dO.far (b := B) f (Nat.le_of_eq S.symm)
 have aO := dO.far (b := B) g (Nat.le_of_eq S.symm)
 clear S
 replace hbl := r.at hbl
 replace hbp := r.at hbp
 replace hpo := r.ow hpo
 replace hbm := r.at hbm
 replace hq := r.mapT hq
 replace d := r.at d
 replace hbs := r.at hbs
 replace hxq := r.ow hxq
 replace hmm := r.at hmm
 replace hrv := r.ow hrv
 replace hLO := LO.ext r hLO
 replace hB := dD hB r hN0
 replace ho := r.ow ho
 replace P := r.slT P
 replace f := r.slT f
 replace g := r.slT g
 replace hS := hS.trans r
 rw [dO.cells ho.sl] at V
 have G := iu (enc := encV) (a := v0) V rfl rfl ah
 refine To 11 rfl (eB (v := .slice (some ⟨B, 0, none⟩) 1 1) (v2 := fS 1 rv i vs.length (iR rv)) rfl rfl d6 iY Dd G g ((AP hone)) (by have := Below.size hB; omega) (by simp; omega) (by simp; omega) fun ai bk z C => ⟨.inl (du hS z (Nat.le_refl _) (fun j hj => by have e : B = j := Option.some.inj hj; rw [← e]; exact X)), ?_⟩)
 replace hS : eo _ _ := du hS z (Nat.le_refl _) (fun j hj => by have e : B = j := Option.some.inj hj; rw [← e]; exact X)
 replace C := dh.app (enc := encV) rfl rfl rfl rfl C
 replace hbl := At.grownOw hbl G z Dd
 replace hbp := At.grownOw hbp G z Dd
 replace hpo := dh.grownOw hpo G z Dd
 replace hbm := At.grownOw hbm G z Dd
 replace hq := dQ.grownOw hq G z
 replace d := At.grownOw d G z Dd
 replace hbs := At.grownOw hbs G z Dd
 replace hxq := dh.grownOw hxq G z Dd
 replace hmm := At.grownOw hmm G z Dd
 replace hLO := LO.grownOw hLO G z Dd
 replace hB := du hB z hN0 (fun j hj => (dh.lt G j hj))
 replace ho := dh.grownOw ho G z Dd
 replace f := dO.grownFar f aN z
 replace g := dO.grownFar g aO z
 clear hrv P G
 refine To 12 rfl (jn (N := N) (v := fS 1 rv 0 i i) (v2 := ai) rfl rfl d6 iY f (pQ (by simp; omega)) C.sl (by simp) (Nat.le_trans hN0 (Below.size hB)) (by simp; omega) (by simp; omega) fun aj bn s D => ⟨.inl (hS.trans s), ?_⟩)
 replace D := dh.app (enc := encV) rfl rfl rfl rfl D
 replace hbl := s.at hbl
 replace hbp := s.at hbp
 replace hpo := s.ow hpo
 replace hbm := s.at hbm
 replace hq := s.mapT hq
 replace d := s.at d
 replace hbs := s.at hbs
 replace hxq := s.ow hxq
 replace hmm := s.at hmm
 replace hLO := LO.ext s hLO
 replace hB := dD hB s hN0
 replace ho := s.ow ho
 replace f := s.slT f
 replace g := s.slT g
 replace C := s.ow C
 replace hS := hS.trans s
 refine Tf 13 rfl rfl eg hS <| To 14 rfl (eA (v := aj) rfl rfl fc (dO.one D.sl) hmm (by simp) fun bo H aP => ⟨.inr (by kernel_rfl), ?_⟩)
 replace hbl := At.grownAt hbl hmm H Dd
 replace hbp := At.grownAt hbp hmm H Dd
 replace hpo := dh.grownAt hpo hmm H Dd
 replace hbm := At.grownAt hbm hmm H Dd
 replace hq := dQ.grownAt hq hmm H
 replace d := At.grownNe d hne H
 replace hbs := At.grownAt hbs hmm H Dd
 replace hxq := dh.grownAt hxq hmm H Dd
 replace hLO := LO.grownAt hLO hmm H Dd
 replace hB := du hB H hN0 (fun j hj => by cases hj; exact lom)
 replace ho := dh.grownAt ho hmm H Dd
 replace C := dh.grownAt C hmm H Dd
 replace D := dh.grownAt D hmm H Dd
 clear f g H hmm
 replace hmm := aP
 replace hmm : At _ _ #[_, _] _ := hmm
 refine Td ?_
 repeat (first | refine nE ?_ | refine mM ?_)
 refine mP ?_
 repeat (first | refine jQ ?_ | refine jd ?_)
 refine IE ?_
 rw [← hput]
 rw [List.drop_zero, Nat.sub_zero, AA] at D
 exact ⟨hB, hbl, hbp, hpo, hbm, hq, d, hbs, hxq, _, _, hmm, D, LO.put (i := i) hLO ho hi⟩
 refine Zs <| Zs <| Zs <| Zs <| Zs <| Zs <| Zs <| Zs <| Zw (.bool false) rfl <| cT <| ep rfl <| dt <| av _ _ ?_
 have hput := Ib (i := i) hnd hnr hi hq2 (fun h0 => by first | omega | exact Z)
 have hC : vs.length ≤ iR rv := (Sl.eqv hrv.sl).2.1
 have hone := LO.one hLO
 refine gy eo iv (fun ak L => ?_)
 replace hbl := L.at hbl
 replace hbp := L.at hbp
 replace hpo := L.ow hpo
 replace hbm := L.at hbm
 replace hq := L.mapT hq
 replace d := L.at d
 replace hbs := L.at hbs
 replace hxq := L.ow hxq
 replace hmm := L.at hmm
 replace hrv := L.ow hrv
 replace hLO := LO.ext L hLO
 replace hB := dD hB L hN0
 replace ho := L.ow ho
 have hS := eo.refl ak
 refine Tf 0 rfl rfl eg hS <| Tk 1 rfl (fun _ hq => dm (v := rv) rfl fc (At.cell (hq.at hmm) rfl)) hS <| Ti 2 rfl rfl hS <| Ti 3 rfl rfl hS <| Tk 4 rfl (fun _ hq => lS (v := rv) rfl ((hq.ow hrv)).sl d6 rfl rfl Om Om Om) hS ?_
 have f : dO encV 1 ak (fS 1 rv 0 i i) ((vs.drop 0).take (i - 0)) := dO.part fV hrv.sl (by omega) (by omega) (by omega) (by omega)
 refine Tw 5 v0 rfl rfl hS <| Tf 7 rfl rfl eg hS <| Tk 8 rfl (fun _ hq => dm (v := rv) rfl fc (At.cell (hq.at hmm) rfl)) hS <| Ti 9 rfl rfl hS <| Tk 10 rfl (fun _ hq => lT (v := rv) rfl ((hq.ow hrv)).sl d6 rfl Om Om) hS ?_
 have g : dO encV 1 ak (fS 1 rv i vs.length (iR rv)) ((vs.drop i).take (vs.length - i)) := dO.part fV hrv.sl (by omega) (by omega) (by omega) (by omega)
 refine To 6 rfl (fp (u := v0) rfl d6 iY (by rw [dO.cells ho.sl]; rfl) Dd Dd fun B br T t V => ⟨.inl (hS.trans t), ?_⟩)
 have ah : N ≤ B := T ▸ (Nat.le_trans hN0 (Below.size hB))
 have X := Nat.le_trans (eo.size hS) (Nat.le_of_eq T.symm)
 have aM := dh.neB (b := B) hrv (Nat.le_of_eq T.symm)
 have aQ := dO.far (b := B) f (Nat.le_of_eq T.symm)
 have aR := dO.far (b := B) g (Nat.le_of_eq T.symm)
 clear T
 replace hbl := t.at hbl
 replace hbp := t.at hbp
 replace hpo := t.ow hpo
 replace hbm := t.at hbm
 replace hq := t.mapT hq
 replace d := t.at d
 replace hbs := t.at hbs
 replace hxq := t.ow hxq
 replace hmm := t.at hmm
 replace hrv := t.ow hrv
 replace hLO := LO.ext t hLO
 replace hB := dD hB t hN0
 replace ho := t.ow ho
 replace f := t.slT f
 replace g := t.slT g
 replace hS := hS.trans t
 rw [dO.cells ho.sl] at V
 have I := iu (enc := encV) (a := v0) V rfl rfl ah
 refine To 11 rfl (eB (v := .slice (some ⟨B, 0, none⟩) 1 1) (v2 := fS 1 rv i vs.length (iR rv)) rfl rfl d6 iY Dd I g ((AP hone)) (by have := Below.size hB; omega) (by simp; omega) (by simp; omega) fun ai bt A C => ⟨.inl (du hS A (Nat.le_refl _) (fun j hj => by have e : B = j := Option.some.inj hj; rw [← e]; exact X)), ?_⟩)
 replace hS : eo _ _ := du hS A (Nat.le_refl _) (fun j hj => by have e : B = j := Option.some.inj hj; rw [← e]; exact X)
 replace C := dh.app (enc := encV) rfl rfl rfl rfl C
 replace hbl := At.grownOw hbl I A Dd
 replace hbp := At.grownOw hbp I A Dd
 replace hpo := dh.grownOw hpo I A Dd
 replace hbm := At.grownOw hbm I A Dd
 replace hq := dQ.grownOw hq I A
 replace d := At.grownOw d I A Dd
 replace hbs := At.grownOw hbs I A Dd
 replace hxq := dh.grownOw hxq I A Dd
 replace hmm := At.grownOw hmm I A Dd
 replace hLO := LO.grownOw hLO I A Dd
 replace hB := du hB A hN0 (fun j hj => (dh.lt I j hj))
 replace ho := dh.grownOw ho I A Dd
 replace f := dO.grownFar f aQ A
 replace g := dO.grownFar g aR A
 clear hrv I
 refine To 12 rfl (jn (N := N) (v := fS 1 rv 0 i i) (v2 := ai) rfl rfl d6 iY f (pQ (by simp; omega)) C.sl (by simp) (Nat.le_trans hN0 (Below.size hB)) (by simp; omega) (by simp; omega) fun aj bu y D => ⟨.inl (hS.trans y), ?_⟩)
 replace D := dh.app (enc := encV) rfl rfl rfl rfl D
 replace hbl := y.at hbl
 replace hbp := y.at hbp
 replace hpo := y.ow hpo
 replace hbm := y.at hbm
 replace hq := y.mapT hq
 replace d := y.at d
 replace hbs := y.at hbs
 replace hxq := y.ow hxq
 replace hmm := y.at hmm
 replace hLO := LO.ext y hLO
 replace hB := dD hB y hN0
 replace ho := y.ow ho
 replace f := y.slT f
 replace g := y.slT g
 replace C := y.ow C
 replace hS := hS.trans y
 refine Tf 13 rfl rfl eg hS <| To 14 rfl (eA (v := aj) rfl rfl fc (dO.one D.sl) hmm (by simp) fun bv J aS => ⟨.inr (by kernel_rfl), ?_⟩)
 replace hbl := At.grownAt hbl hmm J Dd
 replace hbp := At.grownAt hbp hmm J Dd
 replace hpo := dh.grownAt hpo hmm J Dd
 replace hbm := At.grownAt hbm hmm J Dd
 replace hq := dQ.grownAt hq hmm J
 replace d := At.grownNe d hne J
 replace hbs := At.grownAt hbs hmm J Dd
 replace hxq := dh.grownAt hxq hmm J Dd
 replace hLO := LO.grownAt hLO hmm J Dd
 replace hB := du hB J hN0 (fun j hj => by cases hj; exact lom)
 replace ho := dh.grownAt ho hmm J Dd
 replace C := dh.grownAt C hmm J Dd
 replace D := dh.grownAt D hmm J Dd
 clear f g J hmm
 replace hmm := aS
 replace hmm : At _ _ #[_, _] _ := hmm
 refine Td ?_
 repeat (first | refine nE ?_ | refine mM ?_)
 refine mP ?_
 repeat (first | refine jQ ?_ | refine jd ?_)
 refine IE ?_
 rw [← hput]
 rw [List.drop_zero, Nat.sub_zero, AA] at D
 exact ⟨hB, hbl, hbp, hpo, hbm, hq, d, hbs, hxq, _, _, hmm, D, LO.put (i := i) hLO ho hi⟩
theorem yo (S : Sp) (onV mayV : Value) (xa : Value) (l : List Rw) (w : World) (hon : dO gr 4 w onV S.on) (hmay : dO gr 4 w mayV S.may) (hl : dO gK 3 w xa l) (hlb : l.length ≤ 1000000) (hlr : ik l) :
    Fn Tryz.prog 43 #[.agg #[.int .i64 S.n, onV, mayV], xa] w fun v w' => if xX S l = 0 then ∃ rv vs, v = .tuple #[.agg #[.int .i64 (l.length : Int), rv], .int .i64 0] ∧ dh encV 1 80 w' w.heap.size rv vs ∧ LO 3 w.heap.size w' vs (kW S l) else v = .tuple #[.agg #[.int .i64 0, .slice none 0 0], .int .i64 (xX S l)] := by
 refine dr (n := 76) Tryz.func43 rfl rfl (Nat.le_of_ble_eq_true rfl) ?_
 have hB : Below w.heap.size w w := Below.refl _ _
 refine Zr <| Zy (dW (c := #[_, _, _]) rfl rfl fun ad W3 ax aL d => ?_)
 have bz := ZO ax hB
 clear ax
 replace hB := Ze hB aL
 refine Zy (dW (v := xa) (c := #[xa]) rfl (dO.cells (Below.slT hB hl)) fun G W6 ay az f => ?_)
 have bA := ZO ay hB
 clear ay
 replace hB := Ze hB az
 replace d := az.at d
 refine Zy (dp gX rfl fun ae W9 aA al a => ?_)
 have af := ZO aA hB
 clear aA
 replace hB := Ze hB al
 replace d := al.at d
 replace f := al.at f
 refine Zw (.int .i64 0) rfl <| cT <| cY fun bB aM => Zr <| Zv (da rfl eT rfl d) <| ZC (vs := [.agg #[_, _, _]]) pp (hU S _ _  _ (Below.slT hB hon) (Below.slT hB hmay) ) rfl fun bC bD ag aN => ?_
 replace hB := Ze hB ag
 replace d := ag.at d
 replace f := ag.at f
 replace a := ag.at a
 obtain rfl := aN
 refine Zv (fJ rfl) <| cT <| ZQ rfl (fun ao => ?_) fun ao => ?_
 refine Zr <| Zv (pc ) <| Zy (df rfl rfl dE rfl a rfl rfl fun bE ap aO => ?_)
 replace hB := Zg hB ap af
 replace d := At.grownAt d a ap Dd
 replace f := At.grownAt f a ap Dd
 replace a := aO
 refine Zw (.int .i64 1) rfl <| cT <| Zt <| fj rfl dE a rfl (v1 := .int .i64 1) rfl ⟨hB, ?_⟩
 rw [Ok (by rw [ja ao]; decide), if_neg (by decide)]
 refine c7 <| aM _ _ ?_
 have hr : dJ S = true := jX ao
 obtain ⟨h0, h8, h1, h5, h6, _⟩ := dY.1 hr
 refine Zr <| Zy (dp NG rfl fun H bF aB ah g => ?_)
 have aP := ZO aB hB
 clear aB
 replace hB := Ze hB ah
 replace d := ah.at d
 replace f := ah.at f
 replace a := ah.at a
 refine cT <| cY fun bG aQ => Zr <| ZL xa rfl kV f rfl <| Zv (dB (v := xa) rfl (Below.slT hB hl) dV) <| Zw (.int .i64 0) rfl <| cT <| c9 ?_
 refine dy (σ := (Nat) × (Value)) [5, 8, 9, 10, 24, 25, 26, 27, 28, 29, 30, 31, 32, 33, 34, 35, 36, 37, 38, 39, 40, 41, 42, 43, 44] (fun (k, vp) => [(24, .int .i64 (k : Int))]) (fun sg W => match sg with | (k, vp) => (Below w.heap.size w W) ∧ (At W ad _ 24) ∧ (At W G _ 29) ∧ (At W ae _ 77) ∧ (At W H #[vp] 22) ∧ (dh gr 4 49 W w.heap.size vp (si l S.n k)) ∧ (k ≤ l.length) ∧ (∀ q, q < k → d9 (l.getD q ⟨⟨0, 0⟩, 0⟩).c.m (l.getD q ⟨⟨0, 0⟩, 0⟩).c.v S.n = true) ∧ (True)) (fun (k, vp) => l.length - k) ((0, .slice none 0 0)) ⟨rfl, trivial⟩ ⟨hB, d, f, a, g, dh.nil, (Nat.zero_le _), fX, trivial⟩ ?_
 clear hB d f a g
 rintro ⟨k, vp⟩ bH bI ⟨hB, d, f, a, g, hpo, hk, hq, _⟩ bJ aR
 refine Zr <| Zv (dP rfl rfl) <| cT <| cY fun bK aS => ZQ rfl (fun aT => ?_) fun aT => ?_
 refine c7 <| aS _ _ <| cY fun bL aU => c9 <| Zr <| Zv (dM (v := xa) rfl (Below.slT hB hl) rfl dV Om Ol39_0) <| Zv (lM rfl ez (dO.cell (Below.slT hB hl) eI ⟨⟨0, 0⟩, 0⟩ Om Ol39_0 0 rfl) (dO.cell (Below.slT hB hl) eI ⟨⟨0, 0⟩, 0⟩ Om Ol39_0 1 rfl) (dO.cell (Below.slT hB hl) eI ⟨⟨0, 0⟩, 0⟩ Om Ol39_0 2 rfl)) <| Zy (dp kL rfl fun bM bN aC X y => ?_)
 have aV := ZO aC hB
 clear aC
 replace hB := Ze hB X
 replace d := X.at d
 replace f := X.at f
 replace a := X.at a
 replace g := X.at g
 replace hpo := X.ow hpo
 refine Zy (df rfl rfl ez rfl y rfl rfl fun bO Y aW => ?_)
 replace hB := Zg hB Y aV
 replace d := At.grownAt d y Y Dd
 replace f := At.grownAt f y Y Dd
 replace a := At.grownAt a y Y Dd
 replace g := At.grownAt g y Y Dd
 replace hpo := dh.grownAt hpo y Y Dd
 replace y := aW
 refine cT ?_
 obtain ⟨aX, aY, bP⟩ := hlr.get (k := k) (by omega)
 refine Zr <| Zf rfl g6 <| Zv (iJ rfl dR (At.cell y rfl) (At.cell y rfl)) <| Zf rfl gm <| Zl rfl dC d rfl <| ZC (vs := [.agg #[_, _], .int .i64 _]) yT (kR _ _ _ _ aX aY) rfl fun bQ bR N aZ => ?_
 replace hB := Ze hB N
 replace d := N.at d
 replace f := N.at f
 replace a := N.at a
 replace g := N.at g
 replace hpo := N.ow hpo
 replace y := N.at y
 obtain ⟨sa, er, rfl, hhP7_4⟩ := sE aZ
 refine Zw (.tuple #[.agg #[_, _, _, _], .int .i64 _]) rfl <| Zv (dF rfl) <| Zv (dG rfl) <| Zy (dp eJ rfl fun aD a0 aq O z => ?_)
 have a1 := ZO aq hB
 have aE := dh.neB (b := aD) hpo (Nat.le_of_eq aq.symm)
 clear aq
 replace hB := Ze hB O
 replace d := O.at d
 replace f := O.at f
 replace a := O.at a
 replace g := O.at g
 replace hpo := O.ow hpo
 replace y := O.at y
 replace z : At a0 aD #[wv 0 0, wv 0 1, wv 0 2, wv 0 3] 49 := z
 refine Zy (df rfl rfl db rfl z rfl rfl fun bS P a2 => ?_)
 replace hB := Zg hB P a1
 replace d := At.grownAt d z P Dd
 replace f := At.grownAt f z P Dd
 replace a := At.grownAt a z P Dd
 replace g := At.grownAt g z P Dd
 replace hpo := dh.grownAtNe hpo aE P
 replace y := At.grownAt y z P Dd
 replace z := a2
 refine Zi rfl <| cT <| cY fun bT a3 => Zr <| Zi rfl <| Zv (fC rfl rfl) <| cT <| ZQ rfl (fun ar => ?_) fun ar => ?_
 refine Zr <| Zv (pc ) <| Zi rfl <| Zy (df rfl rfl dE rfl a rfl rfl fun bU Q a4 => ?_)
 replace hB := Zg hB Q af
 replace d := At.grownAt d a Q Dd
 replace f := At.grownAt f a Q Dd
 replace g := At.grownAt g a Q Dd
 replace hpo := dh.grownAt hpo a Q Dd
 replace y := At.grownAt y a Q Dd
 replace z := At.grownAt z a Q Dd
 replace a := a4
 refine Zi rfl <| cT <| Zt <| fj rfl dE a rfl (v1 := .int .i64 _) rfl ⟨hB, ?_⟩
 obtain ⟨hrr, her⟩ := hhP7_4.resolve_left (fun h => ar h.2.2)
 rw [Oe (k := k) (by omega) (fun q => by have := hrr.symm.trans q; cases this), if_neg (by decide), her]
 refine c7 <| a3 _ _ ?_
 obtain ⟨hrr, hsa, _⟩ := hhP7_4.resolve_right (fun h => ar (fun e => by rw [h.2] at e; cases e))
 subst hsa
 have hpl := Ba (l := l) (n := S.n) (k := k) (by omega)
 refine cZ <| ZL vp rfl eK g rfl <| Zv (da rfl db rfl z) <| Zy (fp (u := .agg #[_, _, _, _]) rfl ej tN rfl Dd Dd fun aF bV ai I a5 => ?_)
 have bW := ZO ai hB
 have bX := dh.neB (b := aF) hpo (Nat.le_of_eq ai.symm)
 have bY := Zn ai z.lt
 clear ai
 replace hB := Ze hB I
 replace d := I.at d
 replace f := I.at f
 replace a := I.at a
 replace g := I.at g
 replace hpo := I.ow hpo
 replace y := I.at y
 replace z := I.at z
 refine Zy (eB (v := vp) (v2 := .slice (some ⟨aF, 0, none⟩) 1 1) rfl rfl ej tN Dd hpo (fP a5 rfl) rfl (by have := Below.size hB; omega) (by first | omega | (simp; omega) | (simp only [cV, cX, cW, de, dg]; omega)) (by first | omega | (simp; omega) | (simp only [cV, cX, cW, de, dg]; omega)) fun aG bZ R Z => ?_)
 replace Z := dh.snoc (enc := gr) (x := (qg (l.getD k ⟨⟨0, 0⟩, 0⟩).c.m (l.getD k ⟨⟨0, 0⟩, 0⟩).c.v S.n.toNat)) rfl rfl rfl rfl Z
 replace hB := ZG hB R hpo
 replace d := At.grownOw d hpo R Dd
 replace f := At.grownOw f hpo R Dd
 replace a := At.grownOw a hpo R Dd
 replace g := At.grownOw g hpo R Dd
 replace y := At.grownOw y hpo R Dd
 replace z := At.grownOwNe z aE R
 clear hpo
 refine Zy (eA (v := aG) rfl rfl eK (dO.one Z.sl) g (by simp) fun b0 T a6 => ?_)
 replace hB := Zg hB T aP
 replace d := At.grownAt d g T Dd
 replace f := At.grownAt f g T Dd
 replace a := At.grownAt a g T Dd
 replace y := At.grownAt y g T Dd
 replace z := At.grownAt z g T Dd
 replace Z := dh.grownAt Z g T Dd
 replace g := a6
 replace g : At _ _ #[_] _ := g
 refine cT <| aU _ _ <| cZ <| Zv (dq rfl rfl Om Om) <| Zi rfl <| cT ?_
 exact aR _ _ ((k + 1, aG)) Za ⟨rfl, trivial⟩ ⟨hB, d, f, a, g, (by rw [← E7 Om]; exact Z), Om, (fE hq hrr), trivial⟩ (by show l.length - (k + 1) < l.length - k; omega)
 refine dt <| aQ _ _ <| cY fun b1 a7 => ?_
 obtain rfl : k = l.length := by omega
 refine Zr <| ZL xa rfl kV f rfl <| Zv (dB (v := xa) rfl (Below.slT hB hl) dV) <| Zv (i4 rfl rfl) <| cT <| ZQ rfl (fun a8 => ?_) fun a8 => ?_
 refine Zr <| Zv (pc ) <| Zy (df rfl rfl dE rfl a rfl rfl fun b2 ac a9 => ?_)
 replace hB := Zg hB ac af
 replace d := At.grownAt d a ac Dd
 replace f := At.grownAt f a ac Dd
 replace g := At.grownAt g a ac Dd
 replace hpo := dh.grownAt hpo a ac Dd
 replace a := a9
 refine Zw (.int .i64 3) rfl <| cT <| Zt <| fj rfl dE a rfl (v1 := .int .i64 3) rfl ⟨hB, ?_⟩
 rw [N2 hr hq (by omega), if_neg (by decide)]
 refine c7 <| a7 _ _ <| Zr <| ZL xa rfl kV f rfl <| Zv (dB (v := xa) rfl (Below.slT hB hl) dV) <| Zv (j4 (h0 := rfl) (k0 := rfl) (c0_0 := .int .i64 _)) <| Zy (dp gX rfl fun J b3 au aa j => ?_)
 have aH := ZO au hB
 have av := Zn au a.lt
 clear au
 replace hB := Ze hB aa
 replace d := aa.at d
 replace f := aa.at f
 replace a := aa.at a
 replace g := aa.at g
 replace hpo := aa.ow hpo
 refine Zy (df rfl rfl dE rfl j rfl rfl fun b4 ab ba => ?_)
 replace hB := Zg hB ab aH
 replace d := At.grownAt d j ab Dd
 replace f := At.grownAt f j ab Dd
 replace a := At.grownNe a av ab
 replace g := At.grownAt g j ab Dd
 replace hpo := dh.grownAt hpo j ab Dd
 replace j := ba
 refine cT <| Zr <| Zy (gD (enc := ma) (encV := Value.bool) fun aj b5 aI U t => ?_)
 have bb := ZO aI hB
 clear aI
 replace hB := Ze hB U
 replace d := U.at d
 replace f := U.at f
 replace a := U.at a
 replace g := U.at g
 replace hpo := U.ow hpo
 replace j := U.at j
 replace t : dQ ma Value.bool _ _ (fq (([] : List (List Int)).map jV)) := t
 refine Zy (dp JS rfl fun K b6 aJ L r => ?_)
 have bc := ZO aJ hB
 clear aJ
 replace hB := Ze hB L
 replace d := L.at d
 replace f := L.at f
 replace a := L.at a
 replace g := L.at g
 replace hpo := L.ow hpo
 replace j := L.at j
 replace t := L.mapT t
 refine Zy (eA (v := .map (some aj)) rfl rfl vw rfl r (by exact Nat.zero_lt_one) fun b7 M bd => ?_)
 replace hB := Zg hB M bc
 replace d := At.grownAt d r M Dd
 replace f := At.grownAt f r M Dd
 replace a := At.grownAt a r M Dd
 replace g := At.grownAt g r M Dd
 replace hpo := dh.grownAt hpo r M Dd
 replace j := At.grownAt j r M Dd
 replace t := dQ.grownAt t r M
 replace r := bd
 replace r : At _ _ #[_] _ := r
 refine cT <| Zr <| Zv (gS (vs := #[.pointer (some ⟨G, 0, none⟩), .pointer (some ⟨H, 0, none⟩), .pointer (some ⟨K, 0, none⟩), .pointer (some ⟨J, 0, none⟩)]) (by simp only [List.map_toArray, List.map_cons, List.map_nil]; rfl)) <| Zw (.func (.func 68) #[] #[.pointer (some ⟨G, 0, none⟩), .pointer (some ⟨H, 0, none⟩), .pointer (some ⟨K, 0, none⟩), .pointer (some ⟨J, 0, none⟩)]) rfl <| cT <| cY fun b8 bf => Zr <| Zf rfl f4 <| ZL onV rfl eK d rfl <| Zv (dB (v := onV) rfl (Below.slT hB hon) ej) <| Zw (.int .i64 0) rfl <| cT <| c9 ?_
 refine dy (σ := (Nat) × (Value) × (List Value)) [14, 15, 17, 57, 58, 59, 60, 61, 62, 63, 64, 65, 66, 67, 68, 69, 70, 71, 72, 73, 74] (fun (o, rv, vs) => [(57, .int .i64 (o : Int))]) (fun sg W => match sg with | (o, rv, vs) => (Below w.heap.size w W) ∧ (At W ad _ 24) ∧ (At W G _ 29) ∧ (At W ae _ 77) ∧ (At W H _ 22) ∧ (dh gr 4 49 W w.heap.size vp _) ∧ (At W K _ 108) ∧ (dQ ma Value.bool W aj (fq ((jR S l o).map jV))) ∧ (At W J #[.int .i64 (l.length : Int), rv] 77) ∧ (dh encV 1 80 W w.heap.size rv vs) ∧ (LO 3 w.heap.size W vs (gQ (jR S l o))) ∧ (o ≤ S.on.length) ∧ (True)) (fun (o, rv, vs) => S.on.length - o) ((0, .slice none 0 0, [])) ⟨rfl, trivial⟩ ⟨hB, d, f, a, g, hpo, r, t, j, dh.nil, LO.nil, (Nat.zero_le _), trivial⟩ ?_
 clear hB d f a g hpo j t r
 rintro ⟨o, rv, vs⟩ b9 ca ⟨hB, d, f, a, g, hpo, r, t, j, hrv, hLO, ho, _⟩ cb bg
 refine Zr <| Zv (dP rfl rfl) <| cT <| cY fun cc bh => ZQ rfl (fun bi => ?_) fun bi => ?_
 refine c7 <| bh _ _ <| cY fun cd bj => c9 <| Zr <| Zi rfl <| Zv (dM (v := onV) rfl (Below.slT hB hon) rfl ej Om Ol39_0) <| Zv (ft rfl db (dO.cell (Below.slT hB hon) dI 0 Om Ol39_0 0 rfl) (dO.cell (Below.slT hB hon) dI 0 Om Ol39_0 1 rfl) (dO.cell (Below.slT hB hon) dI 0 Om Ol39_0 2 rfl) (dO.cell (Below.slT hB hon) dI 0 Om Ol39_0 3 rfl)) <| Zy (dp eJ rfl fun aK bk aw C A => ?_)
 have bl := ZO aw hB
 have bm := dh.neB (b := aK) hpo (Nat.le_of_eq aw.symm)
 clear aw
 replace hB := Ze hB C
 replace d := C.at d
 replace f := C.at f
 replace a := C.at a
 replace g := C.at g
 replace hpo := C.ow hpo
 replace r := C.at r
 replace t := C.mapT t
 replace j := C.at j
 replace hrv := C.ow hrv
 replace hLO := LO.ext C hLO
 replace A : At bk aK #[wv 0 0, wv 0 1, wv 0 2, wv 0 3] 49 := A
 refine Zi rfl <| Zy (df rfl rfl db rfl A rfl rfl fun ce D bn => ?_)
 replace hB := Zg hB D bl
 replace d := At.grownAt d A D Dd
 replace f := At.grownAt f A D Dd
 replace a := At.grownAt a A D Dd
 replace g := At.grownAt g A D Dd
 replace hpo := dh.grownAtNe hpo bm D
 replace r := At.grownAt r A D Dd
 replace t := dQ.grownAt t A D
 replace j := At.grownAt j A D Dd
 replace hrv := dh.grownAt hrv A D Dd
 replace hLO := LO.grownAt hLO A D Dd
 replace A := bn
 refine cT <| Zr <| Zv (da rfl db rfl A) <| ZC (vs := [.agg #[_, _, _, _]]) ur (md (S.on.getD o 0) _) rfl fun ak cf B E => ?_
 have bo := (Below.size hB)
 replace hB := Ze hB B
 replace d := B.at d
 replace f := B.at f
 replace a := B.at a
 replace g := B.at g
 replace hpo := B.ow hpo
 replace r := B.at r
 replace t := B.mapT t
 replace j := B.at j
 replace hrv := B.ow hrv
 replace hLO := LO.ext B hLO
 replace A := B.at A
 replace E := dh.mono E bo
 refine Zv (dB (v := ak) rfl E.sl dw) <| Zw (.int .i64 0) rfl <| cT <| c9 ?_
 refine dy (σ := (Nat) × (Value) × (List Value)) [17, 65, 66, 67, 68, 69, 70, 71, 72, 73] (fun (k, rv2, V) => [(65, .int .i64 (k : Int))]) (fun sg W => match sg with | (k, rv2, V) => (Below w.heap.size w W) ∧ (At W ad _ 24) ∧ (At W G _ 29) ∧ (At W ae _ 77) ∧ (At W H _ 22) ∧ (dh gr 4 49 W w.heap.size vp _) ∧ (At W K _ 108) ∧ (dh eb 1 3 W w.heap.size ak _) ∧ (dQ ma Value.bool W aj (fq ((rN l o (ef (S.on.getD o 0)) (jR S l o) k).map jV))) ∧ (At W J #[.int .i64 (l.length : Int), rv2] 77) ∧ (dh encV 1 80 W w.heap.size rv2 V) ∧ (LO 3 w.heap.size W V (gQ (rN l o (ef (S.on.getD o 0)) (jR S l o) k))) ∧ (k ≤ (ef (S.on.getD o 0)).length) ∧ (True)) (fun (k, rv2, V) => (ef (S.on.getD o 0)).length - k) ((0, rv, vs)) ⟨rfl, trivial⟩ ⟨hB, d, f, a, g, hpo, r, E, t, j, hrv, hLO, (Nat.zero_le _), trivial⟩ ?_
 clear hB d f a g hpo r t j hrv hLO A E
 rintro ⟨k, rv2, V⟩ cg ch ⟨hB, d, f, a, g, hpo, r, E, t, j, hrv2, hLO2, hk, _⟩ ci bp
 refine Zr <| Zv (dP rfl rfl) <| cT <| cY fun cj bq => ZQ rfl (fun br => ?_) fun br => ?_
 refine c7 <| bq _ _ <| cY fun ck bs => c9 <| Zr <| Zv (dM (v := ak) rfl E.sl rfl dw Om Ol39_0) <| Zv (dm (v := .int .i64 _) rfl dC (dO.cell E.sl eN 0 Om Ol39_0 0 rfl)) <| Zi rfl <| cT ?_
 have hls := kP (S.on.getD o 0)
 obtain ⟨p, bt, hpb, hpe⟩ := kE (s := S.on.getD o 0) (i := k) (by omega)
 have bu : 0 ≤ (ef (S.on.getD o 0)).getD k 0 ∧ ((ef (S.on.getD o 0)).getD k 0).toNat < 2 ^ S.n.toNat := by rw [hpe]; exact ⟨by omega, by rw [Int.toNat_natCast]; exact Lq hr (by omega) hpb bt⟩
 refine cZ <| Zw (.func (.func 68) #[] #[.pointer (some ⟨G, 0, none⟩), .pointer (some ⟨H, 0, none⟩), .pointer (some ⟨K, 0, none⟩), .pointer (some ⟨J, 0, none⟩)]) rfl <| Zi rfl <| Zi rfl ?_
 refine mu (dd := some 72) rfl rfl rfl (jG (q := 68) (first := #[]) (cap := #[.pointer (some ⟨G, 0, none⟩), .pointer (some ⟨H, 0, none⟩), .pointer (some ⟨K, 0, none⟩), .pointer (some ⟨J, 0, none⟩)]) (vs := #[.int .i64 _, .int .i64 _, .pointer (some ⟨G, 0, none⟩), .pointer (some ⟨H, 0, none⟩), .pointer (some ⟨K, 0, none⟩), .pointer (some ⟨J, 0, none⟩)]) rfl NU (by simp only [List.map_toArray, List.map_cons, List.map_nil, List.append_toArray, List.nil_append, List.cons_append]; rfl)) (Oc w.heap.size o ((ef (S.on.getD o 0)).getD k 0) S.n l (rN l o (ef (S.on.getD o 0)) (jR S l o) k) G H K J aj ae ad xa _ rv2 ak _ _ V (ef (S.on.getD o 0)) _ (Below.size hB) Om bu Om hlr hq (qu (tj S l o) k) (fun x hx => Ko hx) (Gw Om Om) (Below.slT hB hl) f g hpo r t a d E j hrv2 hLO2 aH bb av) (fun cl cm bv => ?_)
 obtain ⟨hBt, f, g, hpo, r, t, a, d, E, rv3, bw, j, hrv3, hLO3⟩ := bv
 replace hB := Below.trans hB hBt
 clear hrv2 hLO2
 refine cT <| bs _ _ <| cZ <| Zv (dq rfl rfl Om Om) <| Zi rfl <| cT ?_
 exact bp _ _ ((k + 1, rv3, bw)) Za ⟨rfl, trivial⟩ ⟨hB, d, f, a, g, hpo, r, E, (by exact t), j, hrv3, hLO3, Om, trivial⟩ (by show (ef (S.on.getD o 0)).length - (k + 1) < (ef (S.on.getD o 0)).length - k; omega)
 refine dt <| bj _ _ ?_
 obtain rfl : k = (ef (S.on.getD o 0)).length := by omega
 refine cZ <| Zv (dq rfl rfl Om Om) <| Zi rfl <| cT ?_
 exact bg _ _ ((o + 1, rv2, V)) Za ⟨rfl, trivial⟩ ⟨hB, d, f, a, g, hpo, r, (by exact t), j, hrv2, hLO2, Om, trivial⟩ (by show S.on.length - (o + 1) < S.on.length - o; omega)
 refine dt <| bf _ _ ?_
 obtain rfl : o = S.on.length := by omega
 refine Zr <| Zv (da rfl dE rfl j) <| Zy (df rfl rfl dE rfl a rfl (by simp only [List.all_cons, List.all_nil, dh.one hrv, Bool.and_true]; rfl) fun cn F bx => ?_)
 replace hB := Zg hB F af
 replace d := At.grownAt d a F Dd
 replace f := At.grownAt f a F Dd
 replace g := At.grownAt g a F Dd
 replace hpo := dh.grownAt hpo a F Dd
 replace r := At.grownAt r a F Dd
 replace t := dQ.grownAt t a F
 replace j := At.grownNe j (Ne.symm av) F
 replace hrv := dh.grownAt hrv a F Dd
 replace hLO := LO.grownAt hLO a F Dd
 replace a := bx
 refine Zw (.int .i64 0) rfl <| cT <| Zt <| fj rfl dE a rfl (v1 := .int .i64 0) rfl ⟨hB, ?_⟩
 rw [if_pos (Lu hr hq (by omega))]
 exact ⟨_, _, rfl, hrv, hLO⟩
end
end Go.Proofs.YteimkklmmanncaaGreat
