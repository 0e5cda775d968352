/-
  Parts of slices, and appends onto a slice that has no room.
-/
import Derived.Test.YtnkaebjaeaecmaaDoorMaps
namespace Go.Proofs.YtnkaebjaeaecmaaDoor
set_option linter.unusedVariables false
set_option linter.unusedSimpArgs false
open Go Go.RowKit

/-- The part of a slice from l to h, with room to m. -/
def slOf (sz : Nat) (v : Value) (l h m : Nat) : Value := .slice (if m = l then slA v else (slA v).map (·.add (l * sz))) (h - l) (m - l)

section
variable {P : Program} {f : Nat → Value} {w : World} {d : Option Nat} {ty : TypeId} {ps : String} {af : Array Edge} {g : Option (Nat × Bool)} {x y : Operand}
variable {t : TypeId} {v u : Value} {T e : TypeId} {K : Value → World → Prop} {n sz by_ N l h m : Nat} {xs ys : List Value}

theorem Sl.eqv (k : Sl w sz v n xs) : v = .slice (slA v) n (slC v) ∧ n ≤ slC v ∧ (slA v = none → slC v = 0) ∧ ∀ a', slA v = some a' → 0 < slC v → a' = ⟨slB v, slO v, none⟩ := by
  obtain ⟨a, hv, h1, h2, h3⟩ := k.form
  generalize hc : slC v = c at *
  subst hv
  exact ⟨rfl, h1, h2, h3⟩

theorem Sl.part (k : Sl w sz v n xs) (h1 : l ≤ h) (h2 : h ≤ n) (h3 : h ≤ m) (h4 : m ≤ slC v) : Sl w sz (slOf sz v l h m) (h - l) ((xs.drop (l * sz)).take ((h - l) * sz)) := by
  obtain ⟨hv, hn, h0, ha⟩ := k.eqv
  have hC : slC (slOf sz v l h m) = m - l := rfl
  have hle : h * sz ≤ n * sz := Nat.mul_le_mul_right _ h2
  have hle2 : l * sz ≤ h * sz := Nat.mul_le_mul_right _ h1
  have hsub : (h - l) * sz = h * sz - l * sz := Nat.sub_mul _ _ _
  have hlen := k.len
  refine ⟨⟨_, rfl, by rw [hC]; omega, fun hnone => ?_, fun a' ha' hpos => ?_⟩, ?_, ?_⟩
  · rw [hC]
    by_cases e : m = l
    · omega
    · rw [if_neg e, Option.map_eq_none_iff] at hnone
      have := h0 hnone
      omega
  · have hB : ∀ a'', (if m = l then slA v else (slA v).map (·.add (l * sz))) = some a'' → slB (slOf sz v l h m) = a''.block ∧ slO (slOf sz v l h m) = a''.off := fun a'' h => by
      unfold slOf
      rw [h]
      exact ⟨rfl, rfl⟩
    obtain ⟨e1, e2⟩ := hB a' ha'
    rw [e1, e2]
    rw [hC] at hpos
    split at ha'
    · rw [ha a' ha' (by omega)]
    · obtain ⟨a0, h5, rfl⟩ := Option.map_eq_some_iff.1 ha'
      rw [ha a0 h5 (by omega), addr_add]
  · rw [List.length_take, List.length_drop, hlen]
    omega
  · intro j u hu
    rw [List.getElem?_take] at hu
    split at hu
    · rename_i hj
      rw [List.getElem?_drop] at hu
      have hc := k.cell _ u hu
      have hne : ¬ m = l := by
        intro e
        have : h - l = 0 := by omega
        rw [this, Nat.zero_mul] at hj
        omega
      have hn0 : slA v ≠ none := fun e => by
        have := h0 e
        have h9 : h - l = 0 := by omega
        rw [h9, Nat.zero_mul] at hj
        omega
      obtain ⟨a0, ha0⟩ := Option.ne_none_iff_exists'.1 hn0
      have hs : slOf sz v l h m = .slice (some (a0.add (l * sz))) (h - l) (m - l) := by unfold slOf; rw [if_neg hne, ha0]; rfl
      rw [hs]
      have hpos : 0 < slC v := Nat.pos_of_ne_zero fun e => by
        have h9 : h - l = 0 := by omega
        rw [h9, Nat.zero_mul] at hj
        omega
      rw [ha a0 ha0 hpos, addr_add]
      show w.cell? ⟨slB v, slO v + l * sz + j, none⟩ = some u
      rw [Nat.add_assoc]
      exact hc
    · cases hu

theorem flat_drop {α : Type} {enc : α → List Value} (he : ∀ a, (enc a).length = sz) : ∀ (L : List α) (q : Nat), (L.drop q).flatMap enc = (L.flatMap enc).drop (q * sz)
  | [], q => by simp
  | a :: L, 0 => by simp
  | a :: L, q + 1 => by
    rw [List.drop_succ_cons, flat_drop he L q, List.flatMap_cons, show (q + 1) * sz = (enc a).length + q * sz from by rw [he, Nat.add_mul]; omega, List.drop_length_add_append]
theorem flat_take {α : Type} {enc : α → List Value} (he : ∀ a, (enc a).length = sz) : ∀ (L : List α) (q : Nat), (L.take q).flatMap enc = (L.flatMap enc).take (q * sz)
  | [], q => by simp
  | a :: L, 0 => by simp
  | a :: L, q + 1 => by
    rw [List.take_succ_cons, List.flatMap_cons, flat_take he L q, List.flatMap_cons, show (q + 1) * sz = (enc a).length + q * sz from by rw [he, Nat.add_mul]; omega, List.take_length_add_append]
theorem SlT.part {α : Type} {enc : α → List Value} {L : List α} (he : ∀ a, (enc a).length = sz) (k : SlT enc sz w v L) (h1 : l ≤ h) (h2 : h ≤ L.length) (h3 : h ≤ m) (h4 : m ≤ slC v) : SlT enc sz w (slOf sz v l h m) ((L.drop l).take (h - l)) := by
  have hp := Sl.part k h1 h2 h3 h4
  unfold SlT
  rw [flat_take he, flat_drop he, List.length_take, List.length_drop, Nat.min_eq_left (by omega)]
  exact hp

/-- 's[:h]'. -/
theorem r_sliceHi {j : Int} {kj : IntKind} {xj : Operand} (hx : evF f x = v) (hs : Sl w sz v n xs) (hT : elemI P t = some (e, sz, by_)) (hj : evF f xj = .int kj j) (h0 : 0 ≤ j) (h1 : j ≤ slC v) :
    (execOp (evF f) ⟨d, .slice t x none (some xj) none, ty, ps, af, g⟩).run P w = .ok (.value (slOf sz v 0 j.toNat (slC v))) w := by
  obtain ⟨hv, hn, _, _⟩ := hs.eqv
  unfold elemI at hT
  cases hu : P.underlying t with
  | none => simp [hu] at hT
  | some desc =>
    cases desc <;> simp [hu] at hT
    obtain ⟨i', hi', rfl, rfl, rfl⟩ := hT
    unfold slOf
    rw [hv] at hx
    generalize slA v = A at *
    generalize slC v = C at *
    have hC : j ≤ (C : Int) := h1
    simp [execOp, hx, hj, Instr.sliceAt, Instr.slice, run_underlying hu, Instr.sliceBounds, Instr.sliceBound, asIntOf, sizeOf, typeInfo, hi', h0, hC]

theorem own_lit1 {α : Type} {enc : α → List Value} {b : Nat} {c : Array Value} {a : α} (k : At w b c T) (hc : c.toList = enc a) (hs : c.size = sz) (hN : N ≤ b) : OwT enc sz T w N (.slice (some ⟨b, 0, none⟩) 1 1) [a] :=
  ⟨by simp [← hc, hs], .inr ⟨b, 1, c, rfl, hN, k, Nat.le_refl _, by decide, by rw [hs, Nat.one_mul], by
    show c.toList.take (1 * sz) = _
    rw [Nat.one_mul, ← hs, ← Array.length_toList, List.take_length, hc]; simp⟩⟩
end

section
variable {α β : Type} {enc : α → Value} {encV : β → Value} {w w' : World} {b it : Nat} {l : List (α × β)} {seen : List α}
variable {α' β' : Type} {enc' : α' → Value} {encV' : β' → Value} {b' it' : Nat} {l' : List (α' × β')} {seen' : List α'}
variable {γ : Type} {encE : γ → List Value} {sz N : Nat} {T : TypeId} {v : Value} {L : List γ} {a : Nat} {c : Array Value}
theorem MapT.grownAt (k : MapT enc encV w b l) (h : At w a c T) (hG : w.grownBy w' (some a)) : MapT enc encV w' b l := k.grown hG (fun e => At.ne_map h k (Option.some.inj e).symm)
theorem MapT.grownOw (k : MapT enc encV w b l) (h : OwT encE sz T w N v L) (hG : w.grownBy w' v.ownBlock) : MapT enc encV w' b l := k.grown hG (own_ne_map h k)
theorem MapT.grownNe (k : MapT enc encV w b l) (hne : b ≠ b') (hG : w.grownBy w' (some b')) : MapT enc encV w' b l := k.grown hG (fun e => hne (Option.some.inj e))
theorem IterT.grownAt (k : IterT enc encV w it b l seen) (h : At w a c T) (hG : w.grownBy w' (some a)) : IterT enc encV w' it b l seen :=
  k.grown hG (fun e => At.ne_map h k.map (Option.some.inj e).symm) (fun e => At.ne_iter h k (Option.some.inj e).symm)
theorem IterT.grownOw (k : IterT enc encV w it b l seen) (h : OwT encE sz T w N v L) (hG : w.grownBy w' v.ownBlock) : IterT enc encV w' it b l seen := k.grown hG (own_ne_map h k.map) (own_ne_iter h k)
end

end Go.Proofs.YtnkaebjaeaecmaaDoor
