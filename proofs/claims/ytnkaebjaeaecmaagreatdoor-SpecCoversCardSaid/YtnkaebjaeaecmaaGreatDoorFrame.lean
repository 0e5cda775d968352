/-
  Parts of arrays that are written, rows that are apart from one another, what a slice's value is.
-/
import Derived.Test.YtnkaebjaeaecmaaGreatDoorSlice
import Derived.Maps.AppendAt
namespace Go.Proofs.YtnkaebjaeaecmaaGreatDoor
set_option linter.unusedVariables false
set_option linter.unusedSimpArgs false
open Go Go.RowKit

section
variable {P : Program} {f : Nat → Value} {w w' : World} {d : Option Nat} {ty : TypeId} {ps : String} {af : Array Edge} {g : Option (Nat × Bool)} {x y : Operand}
variable {t : TypeId} {b o : Nat} {v u : Value} {c nw : Array Value} {T e : TypeId} {K : Value → World → Prop} {n sz by_ N k : Nat} {xs ys : List Value}

/-! ### Literals of more elements, and of none -/
theorem foldl_putO (off : Nat) (l : List Value) : ∀ (k : Nat) (cs : Array Value), off + k + l.length ≤ cs.size →
    (l.zipIdx k).foldl (fun cs (p : Value × Nat) => cs.setIfInBounds (off + p.2) p.1) cs = (cs.toList.take (off + k) ++ l ++ cs.toList.drop (off + k + l.length)).toArray := by
  induction l with
  | nil => intro k cs _; simp
  | cons u r ih =>
    intro k cs h
    simp only [List.length_cons] at h
    rw [List.zipIdx_cons, List.foldl_cons, ih (k + 1) _ (by simp; omega)]
    have := list_seg_step cs.toList (off + k) u r (by simpa using h)
    simp only [Array.toList_setIfInBounds]
    rw [show off + (k + 1) = off + k + 1 from rfl, this]
    rfl
theorem fill_step (sz i : Nat) (u : Value) (rest : List (Nat × Value)) (cs : Array Value) (hu : u.cells.size = sz) (hc : i * sz + sz ≤ cs.size) :
    Instr.fill (fun i => some (i * sz, sz)) cs ((i, u) :: rest) = Instr.fill (fun i => some (i * sz, sz)) (cs.toList.take (i * sz) ++ u.cells.toList ++ cs.toList.drop (i * sz + sz)).toArray rest := by
  have h := foldl_putO (i * sz) u.cells.toList 0 cs (by simp [hu]; omega)
  have hn : ¬ cs.size < i * sz + sz := by omega
  simp only [Instr.fill, hu, ne_eq, not_true_eq_false, decide_false, gt_iff_lt, hn, Bool.or_self, Bool.false_eq_true, if_false]
  rw [← Array.foldl_toList, Array.toList_zipIdx, h]
  simp [hu]
/-- Rows that are not one. -/
def Apart (v v' : Value) : Prop := ∀ b, v.ownBlock = some b → v'.ownBlock = some b → False
theorem Apart.symm {v v' : Value} (h : Apart v v') : Apart v' v := fun b h1 h2 => h b h2 h1
theorem Apart.nilL {v : Value} : Apart (.slice none 0 0) v := fun b h => by cases h
theorem Apart.kept {v v' : Value} (h : Apart v v') : v'.ownBlock = none ∨ v'.ownBlock ≠ v.ownBlock := by
  cases hv : v'.ownBlock with
  | none => exact .inl rfl
  | some b => exact .inr fun e => h b e.symm hv
/-- Behind an append onto v. -/
theorem Apart.app {α : Type} {enc : α → List Value} {v v1 v2 : Value} {l : List α} (h : Apart v v2) (hob : v1.ownBlock = v.ownBlock ∨ v1.ownBlock = some w.heap.size) (k : OwT enc sz T w N v2 l) : Apart v1 v2 := fun b h1 h2 => by
  rcases hob with e | e
  · exact h b (e ▸ h1) h2
  · rw [e] at h1
    cases h1
    have := (World.ownsRow.lt k _ h2).2
    omega
section
variable {α β : Type} {enc : α → List Value} {encB : β → List Value} {l : List α} {l' : List β} {v' : Value} {N' sz' : Nat} {T' : TypeId}
theorem OwT.lt2 (k : OwT enc sz T w N v l) : ∀ j, v.ownBlock = some j → j < w.heap.size := fun j hj => (World.ownsRow.lt k j hj).2
/-- What is new is apart from what was there. -/
theorem Apart.new {M : Nat} (h : ∀ j, v.ownBlock = some j → j < M) (k : OwT enc sz T w M v' l) : Apart v v' := fun b h1 h2 => by
  have h3 := (World.ownsRow.lt k b h2).1
  have h4 := h b h1
  omega
theorem OwT.grownAp (k : OwT enc sz T w N v l) (h : Apart v' v) (hG : w.grownBy w' v'.ownBlock) : OwT enc sz T w' N v l := World.ownsRow.kept k hG h.kept
theorem SlT.one (k : SlT enc sz w v l) : v.oneCell' = true := by
  obtain ⟨a, h, _⟩ := k.form
  rw [h]; rfl
theorem OwT.one (k : OwT enc sz T w N v l) : v.oneCell' = true := k.sl.one
theorem SlT.cells (k : SlT enc sz w v l) : v.cells = #[v] := by
  obtain ⟨a, h, _⟩ := k.form
  rw [h]; rfl
end

/-- 'append(s, y...)', s a row of the call's own (or nil), and where the new row lies. -/
theorem Y_appendA {m : Nat} {v2 : Value} (hx : evF f x = v) (hy : evF f y = v2) (hT : elemI P t = some (e, sz, by_)) (hz : (zeroI P e).map (fun z => z.cells.size) = some sz) (hsz : 0 < sz)
    (ho : w.ownsRow N e sz v n xs) (hs : Sl w sz v2 m ys) (h10 : ys.all Value.oneCell' = true) (hN : N ≤ w.heap.size) (hb : (n + m) * by_ ≤ 140737488355328) (hm : n + m ≤ 9223372036854775807)
    (hK : ∀ v' w', w.grownBy w' v.ownBlock → w'.ownsRow N e sz v' (n + m) (xs ++ ys) → (v'.ownBlock = v.ownBlock ∨ v'.ownBlock = some w.heap.size) → K v' w') : Yd P ⟨d, .call ⟨.builtin .append, #[x, y], #[t, t]⟩, ty, ps, af, g⟩ f w K := by
  have h1 : ∀ u ∈ ys, u.oneCell' = true := fun u h => List.all_eq_true.1 h10 u h
  obtain ⟨z, hz, hzs⟩ := Option.map_eq_some_iff.1 hz
  unfold zeroI at hz
  obtain ⟨i, hi, hzz⟩ := Option.bind_eq_some_iff.1 hz
  unfold elemI at hT
  cases hun : P.underlying t with
  | none => simp [hun] at hT
  | some desc =>
    cases desc <;> simp [hun] at hT
    rename_i e'
    obtain ⟨i', hi', rfl, h3, rfl⟩ := hT
    obtain rfl : i' = i := by rw [hi] at hi'; exact (Option.some.inj hi').symm
    by_cases hm0 : m = 0
    · subst hm0
      have hys : ys = [] := List.eq_nil_of_length_eq_zero (by simpa using hs.len)
      subst hys
      have hrun : (Builtin.append_ #[t, t] ty #[v, v2]).run P w = .ok v w := by
        obtain ⟨a2, hv2, _⟩ := hs.form
        generalize slC v2 = c2 at hv2
        subst hv2
        rcases ho.2 with ⟨rfl, rfl⟩ | ⟨q, cap, cur, rfl, hg, hh, hnc, hcm, hcs, ht⟩
        · simp [Builtin.append_, run_underlying hun, sizeOf, typeInfo, hi, Builtin.lenOf, Builtin.firstCells]
          cases a2 <;> simp [loadCells, loadCellsFrom]
        · cases a2 <;> simp [Builtin.append_, run_underlying hun, sizeOf, typeInfo, hi, Builtin.lenOf, Builtin.firstCells, loadCells, loadCellsFrom, hnc, storeCells]
      refine .val (v := v) (w' := w) ?_ (hK v w (World.grownBy.refl w _) (by simpa using ho) (.inl rfl))
      simp [execOp, resolve, invoke, builtin, hx, hy, hrun]
    · have hv2 := hs.eqn (by omega)
      have hcell := hs.cell
      generalize slB v2 = B at *
      generalize slO v2 = O at *
      generalize slC v2 = C at *
      subst hv2
      obtain ⟨v', w', hr, h4, h5, _, h6⟩ := run_append_own_at (P := P) (w := w) N t ty e' i' z sz i'.bytes hun hi hzz h3 rfl hzs hsz v n xs ho ⟨B, O, none⟩ m C ys hs.len
        (fun j u hu => by rw [addr_add]; exact hcell j u hu) h1 (by simpa [maxLen] using hm) hb hN
      refine .val (v := v') (w' := w') ?_ (hK v' w' h5 h4 h6)
      simp [execOp, resolve, invoke, builtin, hx, hy, hr]
end

/-! ### Two rows of the call's own that are written -/
/-- All old blocks are as they were, but for two. -/
structure Gr2 (r1 r2 : Option Nat) (w w' : World) : Prop where
  os : w'.os = w.os
  tape : w'.tape = w.tape
  output : w'.output = w.output
  size : w.heap.size ≤ w'.heap.size
  block : ∀ k, k < w.heap.size → some k ≠ r1 → some k ≠ r2 → w'.heap[k]? = w.heap[k]?
section
variable {r1 r2 : Option Nat} {a w w' : World}
theorem Gr2.refl : Gr2 r1 r2 w w := ⟨rfl, rfl, rfl, Nat.le_refl _, fun _ _ _ _ => rfl⟩
theorem Gr2.ext (h : Gr2 r1 r2 a w) (k : Ext w w') : Gr2 r1 r2 a w' :=
  ⟨(Below.os k).trans h.os, (Below.tape k).trans h.tape, (Below.output k).trans h.output, Nat.le_trans h.size (Below.size k), fun j hj q1 q2 => (Below.block k j (Nat.lt_of_lt_of_le hj h.size)).trans (h.block j hj q1 q2)⟩
theorem Gr2.one (h : Gr2 r1 r2 a w) (k : w.grownBy w' r1) : Gr2 r1 r2 a w' :=
  ⟨k.os.trans h.os, k.tape.trans h.tape, k.output.trans h.output, Nat.le_trans h.size k.size, fun j hj q1 q2 => (k.block j (Nat.lt_of_lt_of_le hj h.size) q1).trans (h.block j hj q1 q2)⟩
theorem Gr2.two (h : Gr2 r1 r2 a w) (k : w.grownBy w' r2) : Gr2 r1 r2 a w' :=
  ⟨k.os.trans h.os, k.tape.trans h.tape, k.output.trans h.output, Nat.le_trans h.size k.size, fun j hj q1 q2 => (k.block j (Nat.lt_of_lt_of_le hj h.size) q2).trans (h.block j hj q1 q2)⟩
theorem At.gr2 {b : Nat} {c : Array Value} {T : TypeId} (k : At w b c T) (h : Gr2 r1 r2 w w') (n1 : some b ≠ r1) (n2 : some b ≠ r2) : At w' b c T := by
  unfold At at *
  rw [h.block b (lt_of_block k) n1 n2]
  exact k
theorem below_gr2 {N : Nat} (h : Go.RowKit.Below N a w) (k : Gr2 r1 r2 w w') (hN : N ≤ a.heap.size) (h1 : ∀ j, r1 = some j → N ≤ j) (h2 : ∀ j, r2 = some j → N ≤ j) : Go.RowKit.Below N a w' :=
  ⟨k.os.trans h.os, k.tape.trans h.tape, k.output.trans h.output, Nat.le_trans h.size k.size, fun j hj => (k.block j (by have := h.size; omega) (fun e => by have := h1 j e.symm; omega) (fun e => by have := h2 j e.symm; omega)).trans (h.block j hj)⟩
end

end Go.Proofs.YtnkaebjaeaecmaaGreatDoor
