/-
  A row of the call's own is changed in place: one field of an element, and an append onto its own part (elements left out).
-/
import Derived.Test.YtpamgfbecgjjeaaFrame
namespace Go.Proofs.Ytpamgfbecgjjeaa
set_option linter.unusedVariables false
set_option linter.unusedSimpArgs false
open Go Go.RowKit

section
variable {P : Program} {f : Nat → Value} {w w' : World} {d : Option Nat} {ty : TypeId} {ps : String} {af : Array Edge} {g : Option (Nat × Bool)} {x y : Operand}
variable {t : TypeId} {v u : Value} {T e : TypeId} {K : Value → World → Prop} {sz by_ N : Nat}
variable {α : Type} {enc : α → List Value} {l : List α}

theorem flat_setF (he : ∀ a, (enc a).length = sz) {a dd : α} {k r : Nat} (hk : k < l.length) (hr : r < sz) (hu : enc a = (enc (l.getD k dd)).set r u) :
    (l.set k a).flatMap enc = (l.flatMap enc).take (k * sz + r) ++ [u] ++ (l.flatMap enc).drop (k * sz + r + 1) := by
  have hle : k * sz + sz ≤ l.length * sz := by rw [← Nat.succ_mul]; exact Nat.mul_le_mul_right _ hk
  have hfl := flat_len he l
  have e0 : l.set k (l.getD k dd) = l := by
    rw [List.getD_eq_getElem?_getD, List.getElem?_eq_getElem hk]
    simp
  have e1 := flat_set he (l.getD k dd) l k hk
  rw [e0] at e1
  rw [flat_set he a l k hk, hu]
  have hq : (l.flatMap enc).take (k * sz + r) ++ [u] ++ (l.flatMap enc).drop (k * sz + r + 1) = (l.flatMap enc).set (k * sz + r) u := by
    rw [List.set_eq_take_append_cons_drop, if_pos (by omega), List.append_assoc]; rfl
  rw [hq]
  have hA : ((l.flatMap enc).take (k * sz)).length = k * sz := by rw [List.length_take]; omega
  have hB : (enc (l.getD k dd)).length = sz := he _
  generalize hA' : (l.flatMap enc).take (k * sz) = A at *
  generalize hC' : (l.flatMap enc).drop (k * sz + sz) = C at *
  rw [e1, List.append_assoc, List.append_assoc, List.set_append, if_neg (by omega), hA, show k * sz + r - k * sz = r by omega, List.set_append, if_pos (by omega)]

/-- One cell of an element of a row of the call's own is written. -/
theorem Y_storeF {a dd : α} {j : Int} {r : Nat} (hx : evF f x = .pointer (some ⟨slB v, slO v + j.toNat * sz + r, none⟩)) (hy : evF f y = u) (hT : scalarB P t = true) (he : ∀ a, (enc a).length = sz)
    (h1 : u.oneCell' = true) (hr : r < sz) (hu : enc a = (enc (l.getD j.toNat dd)).set r u) (ho : OwT enc sz e w N v l) (h0 : 0 ≤ j) (hj : j < l.length)
    (hK : ∀ w', w.grownBy w' v.ownBlock → OwT enc sz e w' N v (l.set j.toNat a) → K undef w') : Yd P ⟨d, .store t x y, ty, ps, af, g⟩ f w K := by
  obtain ⟨hl, hor⟩ := ho
  rcases hor with ⟨_, h⟩ | ⟨q, cap, cur, rfl, hg, hh, hnc, hcm, hcs, ht⟩
  · omega
  have hle : l.length * sz ≤ cap * sz := Nat.mul_le_mul_right _ hnc
  have hjs : j.toNat * sz + sz ≤ l.length * sz := by rw [← Nat.succ_mul]; exact Nat.mul_le_mul_right _ (by omega)
  have hst := run_storeCells_at P q (j.toNat * sz + r) e [u] 0 cur w hh (by simp; omega) (fun v h => by simp at h; subst h; exact h1)
  rw [Nat.add_zero] at hst
  have hw := own_write (N := N) (e := e) (o := j.toNat * sz + r) (new := [u]) hl hg hh hnc hcm hcs ht (by simp; omega)
  have hgr : ∀ r, w.grownBy (w.setRow q r) (some q) := fun r => ⟨rfl, rfl, rfl, by simp, fun k _ hk => setRow_other w q k r (fun e => hk (by rw [e]))⟩
  refine .skip (w' := w.setRow q (cur.toList.take (j.toNat * sz + r) ++ [u] ++ cur.toList.drop (j.toNat * sz + r + 1)).toArray) ?_ (hK _ (hgr _) ?_)
  · have h2 := congrFun (scalarB_spec hT).2 w
    have hcs1 : u.cells = #[u] := by cases u <;> first | rfl | simp [Value.oneCell'] at h1
    have hcs2 : (storeVar t ⟨q, j.toNat * sz + r, none⟩ u).run P w = .ok () (w.setRow q (cur.toList.take (j.toNat * sz + r) ++ [u] ++ cur.toList.drop (j.toNat * sz + r + 1)).toArray) := by
      simp only [List.length_singleton] at hst
      simp [storeVar, h2, hcs1, hst]
    have hx' : evF f x = .pointer (some ⟨q, j.toNat * sz + r, none⟩) := by rw [hx]; simp [slB, slO]
    simp [execOp, hx', hy, Instr.storeAt, Instr.sureAddr, hcs2]
  · unfold OwT
    rw [List.length_set, flat_setF he (by omega) hr hu]
    simpa using hw

theorem r_subW8 {t2 : TypeId} {m n : Nat} {b : Int} (hx : evF f x = .int .u8 (m : Int)) (hy : evF f y = .int .u8 b) (hb : b = (n : Int)) (h : n ≤ m) (hm : m < 256) :
    (execOp (evF f) ⟨d, .binOp .sub t x y t2, ty, ps, af, g⟩).run P w = .ok (.value (.int .u8 ((m - n : Nat) : Int))) w := by
  subst hb
  rw [r_sub hx hy, show (m : Int) - (n : Int) = ((m - n : Nat) : Int) by omega, wrap_nat (show m - n < topN .u8 by simp only [topN]; omega)]

/-- 's[l:]' and 's[:h]', of a slice whose form is known. -/
theorem r_sliceLoF {w0 : World} {n : Nat} {xs : List Value} {i : Int} {ki : IntKind} {xi : Operand} (hx : evF f x = v) (hs : Sl w0 sz v n xs) (hT : elemI P t = some (e, sz, by_)) (hi : evF f xi = .int ki i) (h0 : 0 ≤ i) (h1 : i ≤ n) :
    (execOp (evF f) ⟨d, .slice t x (some xi) none none, ty, ps, af, g⟩).run P w = .ok (.value (slOf sz v i.toNat n (slC v))) w := by
  obtain ⟨hv, hn, _, _⟩ := hs.eqv
  unfold elemI at hT
  cases hu : P.underlying t with
  | none => simp [hu] at hT
  | some desc =>
    cases desc <;> simp [hu] at hT
    obtain ⟨i', hi', rfl, rfl, rfl⟩ := hT
    unfold slOf
    rw [hv] at hx
    generalize slA v = A at *
    generalize slC v = C at *
    simp [execOp, hx, hi, Instr.sliceAt, Instr.slice, run_underlying hu, Instr.sliceBounds, Instr.sliceBound, asIntOf, sizeOf, typeInfo, hi', h0, h1]
theorem r_sliceHiF {w0 : World} {n : Nat} {xs : List Value} {j : Int} {kj : IntKind} {xj : Operand} (hx : evF f x = v) (hs : Sl w0 sz v n xs) (hT : elemI P t = some (e, sz, by_)) (hj : evF f xj = .int kj j) (h0 : 0 ≤ j) (h1 : j ≤ slC v) :
    (execOp (evF f) ⟨d, .slice t x none (some xj) none, ty, ps, af, g⟩).run P w = .ok (.value (slOf sz v 0 j.toNat (slC v))) w := by
  obtain ⟨hv, hn, _, _⟩ := hs.eqv
  unfold elemI at hT
  cases hu : P.underlying t with
  | none => simp [hu] at hT
  | some desc =>
    cases desc <;> simp [hu] at hT
    obtain ⟨i', hi', rfl, rfl, rfl⟩ := hT
    unfold slOf
    rw [hv] at hx
    generalize slA v = A at *
    generalize slC v = C at *
    have hC : j ≤ (C : Int) := h1
    simp [execOp, hx, hj, Instr.sliceAt, Instr.slice, run_underlying hu, Instr.sliceBounds, Instr.sliceBound, asIntOf, sizeOf, typeInfo, hi', h0, hC]

/-- 'append(s[:i], s[j:]...)', s a row of the call's own: what lies between is left out, in place. -/
theorem Y_appendIn {i j : Nat} (he : ∀ a, (enc a).length = sz) (hone : (l.flatMap enc).all Value.oneCell' = true) (hx : evF f x = slOf sz v 0 i (slC v)) (hy : evF f y = slOf sz v j l.length (slC v)) (hT : elemI P t = some (e, sz, by_))
    (ho : OwT enc sz e w N v l) (hij : i ≤ j) (hj : j ≤ l.length) (hi : i < l.length)
    (hK : ∀ v' w', w.grownBy w' v.ownBlock → OwT enc sz e w' N v' (l.take i ++ l.drop j) → v'.ownBlock = v.ownBlock → K v' w') : Yd P ⟨d, .call ⟨.builtin .append, #[x, y], #[t, t]⟩, ty, ps, af, g⟩ f w K := by
  unfold elemI at hT
  cases hun : P.underlying t with
  | none => simp [hun] at hT
  | some desc =>
    cases desc <;> simp [hun] at hT
    rename_i e'
    obtain ⟨i', hi', rfl, h1, rfl⟩ := hT
    subst h1
    have ho0 := ho
    obtain ⟨hl, hor⟩ := ho
    rcases hor with ⟨_, h⟩ | ⟨q, cap, cur, rfl, hg, hh, hnc, hcm, hcs, ht⟩
    · omega
    have hle : l.length * i'.size ≤ cap * i'.size := Nat.mul_le_mul_right _ hnc
    have hfl := flat_len he (l.drop j)
    have hft := flat_len he (l.take i)
    have hll := flat_len he l
    have hxe : evF f x = .slice (some ⟨q, 0, none⟩) i cap := by
      rw [hx]
      have hc0 : ¬ cap = 0 := by omega
      simp [slOf, slA, slC, hc0, Addr.add]
    obtain ⟨a, hye, hac⟩ : ∃ a : Addr, evF f y = .slice (some a) (l.length - j) (cap - j) ∧ (j < l.length → a = ⟨q, j * i'.size, none⟩) := by
      rw [hy]
      by_cases e : cap = j
      · exact ⟨⟨q, 0, none⟩, by simp [slOf, slA, slC, e], fun h => by omega⟩
      · exact ⟨⟨q, j * i'.size, none⟩, by
          show Value.slice (if cap = j then some ⟨q, 0, none⟩ else (some (⟨q, 0, none⟩ : Addr)).map (·.add (j * i'.size))) (l.length - j) (cap - j) = _
          rw [if_neg e, Option.map_some, addr_add, Nat.zero_add], fun _ => rfl⟩
    have hnews : ∀ k u, ((l.drop j).flatMap enc)[k]? = some u → w.cell? (a.add k) = some u := fun k u hu => by
      have hlt : k < ((l.drop j).flatMap enc).length := (List.getElem?_eq_some_iff.1 hu).1
      have hjl : j < l.length := Classical.byContradiction fun hn => by
        rw [List.drop_eq_nil_of_le (by omega)] at hlt
        simp at hlt
      rw [hac hjl, addr_add]
      have hs := ho0.sl
      have hc := Sl.cell hs (j * i'.size + k) u (by rw [← List.getElem?_drop, ← flat_drop he]; exact hu)
      simpa [slB, slO] using hc
    have hone2 : ∀ u ∈ (l.drop j).flatMap enc, u.oneCell' = true := fun u hu => by
      rw [flat_drop he] at hu
      exact List.all_eq_true.1 hone u (List.mem_of_mem_drop hu)
    have hmul : (i + (l.length - j)) * i'.size ≤ l.length * i'.size := Nat.mul_le_mul_right _ (by omega)
    rw [Nat.add_mul] at hmul
    have hdl : ((l.drop j).flatMap enc).length = (l.length - j) * i'.size := by rw [hfl, List.length_drop]
    have hr := run_append_room (P := P) w t ty e' i' hun hi' q i cap cur hh a (l.length - j) (cap - j) ((l.drop j).flatMap enc) hdl hnews hone2 (by omega) (by rw [hdl, hcs]; omega)
    refine .val (v := .slice (some ⟨q, 0, none⟩) (i + (l.length - j)) cap) (w' := w.setRow q (cur.toList.take (i * i'.size) ++ (l.drop j).flatMap enc ++ cur.toList.drop (i * i'.size + ((l.drop j).flatMap enc).length)).toArray) ?_
      (hK _ _ ⟨rfl, rfl, rfl, by simp, fun k _ hk => setRow_other w q k _ (fun e => hk (by rw [e]; rfl))⟩ ?_ rfl)
    · simp [execOp, resolve, invoke, builtin, hxe, hye, hr]
    · have hlen2 : (l.take i ++ l.drop j).length = i + (l.length - j) := by rw [List.length_append, List.length_take, List.length_drop]; omega
      unfold OwT
      rw [hlen2]
      refine ⟨by rw [flat_len he, hlen2], .inr ⟨q, cap, _, rfl, hg, setRow_heap w q cur _ e' (0, 0) hh, by omega, hcm, by simp only [List.size_toArray, List.length_append, List.length_take, List.length_drop, Array.length_toList, hdl]; omega, ?_⟩⟩
      rw [List.flatMap_append, flat_take he, ← ht, List.take_take]
      have e1 : min (i * i'.size) (l.length * i'.size) = i * i'.size := Nat.min_eq_left (by omega)
      have e2 : (cur.toList.take (i * i'.size)).length = i * i'.size := by rw [List.length_take, Array.length_toList]; omega
      rw [e1]
      have e3 : (i + (l.length - j)) * i'.size = (cur.toList.take (i * i'.size) ++ (l.drop j).flatMap enc).length := by rw [List.length_append, e2, hdl, Nat.add_mul]
      rw [e3]
      exact List.take_left
end

end Go.Proofs.Ytpamgfbecgjjeaa
