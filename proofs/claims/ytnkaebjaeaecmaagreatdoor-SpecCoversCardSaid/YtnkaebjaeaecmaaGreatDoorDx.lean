/-
  What a deed with memory of its own leaves as it was. No program in it.
-/
import Derived.Test.YtnkaebjaeaecmaaGreatDoorLow
namespace Go.Proofs.YtnkaebjaeaecmaaGreatDoor
set_option linter.unusedVariables false
set_option linter.unusedSimpArgs false
open Go Go.RowKit

/-! ### What a deed leaves as it was -/
/-- All old blocks are as they were, but for those of xs and those of type Tn, from block N on. -/
structure Dx (Tn : TypeId) (N : Nat) (xs : List Nat) (w w' : World) : Prop where
  os : w'.os = w.os
  tape : w'.tape = w.tape
  output : w'.output = w.output
  size : w.heap.size ≤ w'.heap.size
  block : ∀ k, k < w.heap.size → (k < N ∨ (k ∉ xs ∧ ∀ c fr, w.heap[k]? ≠ some (.cells c Tn fr))) → w'.heap[k]? = w.heap[k]?

section
variable {Tn T : TypeId} {N : Nat} {xs : List Nat} {w w' w'' : World}
theorem Dx.refl : Dx Tn N xs w w := ⟨rfl, rfl, rfl, Nat.le_refl _, fun _ _ _ => rfl⟩
theorem Dx.trans (h : Dx Tn N xs w w') (k : Dx Tn N xs w' w'') : Dx Tn N xs w w'' := by
  refine ⟨k.os.trans h.os, k.tape.trans h.tape, k.output.trans h.output, Nat.le_trans h.size k.size, fun j hj hc => ?_⟩
  have e := h.block j hj hc
  rw [k.block j (Nat.lt_of_lt_of_le hj h.size) (hc.imp id fun ⟨a, b⟩ => ⟨a, fun c fr => by rw [e]; exact b c fr⟩), e]
theorem Dx.ext (h : Ext w w') : Dx Tn N xs w w' := ⟨Below.os h, Below.tape h, Below.output h, Below.size h, fun k hk _ => Below.block h k hk⟩
theorem Dx.grown {b : Nat} (h : w.grownBy w' (some b)) (hb : b ∈ xs) (hN : N ≤ b) : Dx Tn N xs w w' := by
  refine ⟨h.os, h.tape, h.output, h.size, fun k hk hc => h.block k hk fun e => ?_⟩
  cases e
  rcases hc with hc | ⟨hc, _⟩
  · omega
  · exact hc hb
theorem Dx.row {α : Type} {enc : α → List Value} {sz : Nat} {v : Value} {l : List α} (k : OwT enc sz Tn w N v l) (h : w.grownBy w' v.ownBlock) : Dx Tn N xs w w' := by
  refine ⟨h.os, h.tape, h.output, h.size, fun j hj hc => h.block j hj fun e => ?_⟩
  obtain ⟨_, h2 | ⟨g, cap, cur, h3, hg, hh, _⟩⟩ := k
  · rw [h2.1] at e; cases e
  · rw [h3] at e
    obtain rfl : j = g := Option.some.inj e
    rcases hc with hc | ⟨_, hc⟩
    · omega
    · exact hc _ _ hh
theorem Dx.mono {ys : List Nat} (h : Dx Tn N xs w w') (hs : ∀ x, x ∈ xs → x ∈ ys) : Dx Tn N ys w w' := ⟨h.os, h.tape, h.output, h.size, fun k hk hc => h.block k hk (hc.imp id fun ⟨a, b⟩ => ⟨fun q => a (hs k q), b⟩)⟩
/-- A block that was not there at first is no loss. -/
theorem Dx.new {b : Nat} (h : Dx Tn N xs w w') (hb : w.heap.size ≤ b) (k : Dx Tn N (b :: xs) w' w'') : Dx Tn N xs w w'' := by
  refine ⟨k.os.trans h.os, k.tape.trans h.tape, k.output.trans h.output, Nat.le_trans h.size k.size, fun j hj hc => ?_⟩
  have e := h.block j hj hc
  rw [k.block j (Nat.lt_of_lt_of_le hj h.size) (hc.imp id fun ⟨a, q⟩ => ⟨fun m => (List.mem_cons.1 m).elim (fun e => by omega) a, fun c fr => by rw [e]; exact q c fr⟩), e]
theorem Below.dx {B : Nat} {w0 : World} (hB : Go.RowKit.Below B w0 w) (hN : B ≤ N) (hs : B ≤ w0.heap.size) (h : Dx Tn N xs w w') : Go.RowKit.Below B w0 w' :=
  ⟨h.os.trans hB.os, h.tape.trans hB.tape, h.output.trans hB.output, Nat.le_trans hB.size h.size, fun k hk => (h.block k (by have := hB.size; omega) (.inl (by omega))).trans (hB.block k hk)⟩
end

section
variable {Tn T : TypeId} {N : Nat} {xs : List Nat} {w w' w'' : World}
theorem Dx.below (h : Go.RowKit.Below w.heap.size w w') : Dx Tn N xs w w' := ⟨h.os, h.tape, h.output, h.size, fun k hk _ => h.block k hk⟩
end

end Go.Proofs.YtnkaebjaeaecmaaGreatDoor
