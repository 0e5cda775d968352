/-
  Parts of arrays that are written, rows that are apart from one another, what a slice's value is.
-/
import Derived.Test.YtnkaebjaeaecmaaDoorSlice
import Derived.Maps.AppendAt
namespace Go.Proofs.YtnkaebjaeaecmaaDoor
set_option linter.unusedVariables false
set_option linter.unusedSimpArgs false
open Go Go.RowKit

section
variable {P : Program} {f : Nat → Value} {w w' : World} {d : Option Nat} {ty : TypeId} {ps : String} {af : Array Edge} {g : Option (Nat × Bool)} {x y : Operand}
variable {t : TypeId} {b o : Nat} {v u : Value} {c nw : Array Value} {T e : TypeId} {K : Value → World → Prop} {n sz by_ N k : Nat} {xs ys : List Value}

/-! ### Literals of more elements, and of none -/
theorem foldl_putO (off : Nat) (l : List Value) : ∀ (k : Nat) (cs : Array Value), off + k + l.length ≤ cs.size →
    (l.zipIdx k).foldl (fun cs (p : Value × Nat) => cs.setIfInBounds (off + p.2) p.1) cs = (cs.toList.take (off + k) ++ l ++ cs.toList.drop (off + k + l.length)).toArray := by
  induction l with
  | nil => intro k cs _; simp
  | cons u r ih =>
    intro k cs h
    simp only [List.length_cons] at h
    rw [List.zipIdx_cons, List.foldl_cons, ih (k + 1) _ (by simp; omega)]
    have := list_seg_step cs.toList (off + k) u r (by simpa using h)
    simp only [Array.toList_setIfInBounds]
    rw [show off + (k + 1) = off + k + 1 from rfl, this]
    rfl
theorem fill_step (sz i : Nat) (u : Value) (rest : List (Nat × Value)) (cs : Array Value) (hu : u.cells.size = sz) (hc : i * sz + sz ≤ cs.size) :
    Instr.fill (fun i => some (i * sz, sz)) cs ((i, u) :: rest) = Instr.fill (fun i => some (i * sz, sz)) (cs.toList.take (i * sz) ++ u.cells.toList ++ cs.toList.drop (i * sz + sz)).toArray rest := by
  have h := foldl_putO (i * sz) u.cells.toList 0 cs (by simp [hu]; omega)
  have hn : ¬ cs.size < i * sz + sz := by omega
  simp only [Instr.fill, hu, ne_eq, not_true_eq_false, decide_false, gt_iff_lt, hn, Bool.or_self, Bool.false_eq_true, if_false]
  rw [← Array.foldl_toList, Array.toList_zipIdx, h]
  simp [hu]
/-- Rows that are not one. -/
def Apart (v v' : Value) : Prop := ∀ b, v.ownBlock = some b → v'.ownBlock = some b → False
theorem Apart.symm {v v' : Value} (h : Apart v v') : Apart v' v := fun b h1 h2 => h b h2 h1
theorem Apart.kept {v v' : Value} (h : Apart v v') : v'.ownBlock = none ∨ v'.ownBlock ≠ v.ownBlock := by
  cases hv : v'.ownBlock with
  | none => exact .inl rfl
  | some b => exact .inr fun e => h b e.symm hv
section
variable {α β : Type} {enc : α → List Value} {encB : β → List Value} {l : List α} {l' : List β} {v' : Value} {N' sz' : Nat} {T' : TypeId}
/-- What is new is apart from what was there. -/
theorem Apart.new {M : Nat} (h : ∀ j, v.ownBlock = some j → j < M) (k : OwT enc sz T w M v' l) : Apart v v' := fun b h1 h2 => by
  have h3 := (World.ownsRow.lt k b h2).1
  have h4 := h b h1
  omega
theorem SlT.one (k : SlT enc sz w v l) : v.oneCell' = true := by
  obtain ⟨a, h, _⟩ := k.form
  rw [h]; rfl
theorem OwT.one (k : OwT enc sz T w N v l) : v.oneCell' = true := k.sl.one
theorem SlT.cells (k : SlT enc sz w v l) : v.cells = #[v] := by
  obtain ⟨a, h, _⟩ := k.form
  rw [h]; rfl
end

end

end Go.Proofs.YtnkaebjaeaecmaaDoor
