/-
  Rows of three and of four, as they are typed out. No program in it.
-/
import Derived.Test.YtnkaebjaeaecmaaGreatDoorFrame
namespace Go.Proofs.YtnkaebjaeaecmaaGreatDoor
set_option linter.unusedVariables false
set_option linter.unusedSimpArgs false
open Go Go.RowKit

theorem fill_4w (u0 u1 u2 u3 : Value) (z : Array Value) (h0 : u0.cells = #[u0]) (h1 : u1.cells = #[u1]) (h2 : u2.cells = #[u2]) (h3 : u3.cells = #[u3]) (hz : z.size = 4) : Instr.fill (fun i => some (i * 1, 1)) z [(0, u0), (1, u1), (2, u2), (3, u3)] = some #[u0, u1, u2, u3] := by
  rw [fill_step 1 0 u0 _ z (by rw [h0]; rfl) (by omega), fill_step 1 1 u1 _ _ (by rw [h1]; rfl) (by simp [h0]; omega), fill_step 1 2 u2 _ _ (by rw [h2]; rfl) (by simp [h0, h1]; omega), fill_step 1 3 u3 _ _ (by rw [h3]; rfl) (by simp [h0, h1, h2]; omega), Instr.fill, h0, h1, h2, h3]
  obtain ⟨l⟩ := z
  match l, hz with
  | [a, b, c, d], _ => simp
section
variable {P : Program} {f : Nat → Value} {w w' : World} {d : Option Nat} {ty : TypeId} {ps : String} {af : Array Edge} {g : Option (Nat × Bool)} {t e T : TypeId} {by_ N sz b : Nat} {K : Value → World → Prop}
theorem Y_lit4w {x0 x1 x2 x3 : Operand} {u0 u1 u2 u3 : Value} (hx0 : evF f x0 = u0) (hx1 : evF f x1 = u1) (hx2 : evF f x2 = u2) (hx3 : evF f x3 = u3) (hT : elemI P t = some (e, 1, by_)) (hz : (zeroI P e).map (fun z => z.cells.size) = some 1) (h0 : u0.cells = #[u0]) (h1 : u1.cells = #[u1]) (h2 : u2.cells = #[u2]) (h3 : u3.cells = #[u3])
    (hK : ∀ b w', b = w.heap.size → Ext w w' → At w' b #[u0, u1, u2, u3] e → K (.slice (some ⟨b, 0, none⟩) 4 4) w') : Yd P ⟨d, .buildSlice t 4 #[(0, x0), (1, x1), (2, x2), (3, x3)], ty, ps, af, g⟩ f w K := by
  obtain ⟨z, hz, hzs⟩ := Option.map_eq_some_iff.1 hz
  unfold zeroI at hz
  obtain ⟨i, hi, hzz⟩ := Option.bind_eq_some_iff.1 hz
  unfold elemI at hT
  cases hun : P.underlying t with
  | none => simp [hun] at hT
  | some desc =>
    cases desc <;> simp [hun] at hT
    rename_i e'
    obtain ⟨i', hi', rfl, q1, rfl⟩ := hT
    obtain rfl : i' = i := by rw [hi] at hi'; exact (Option.some.inj hi').symm
    refine .val (w' := w.alloc (.cells #[u0, u1, u2, u3] e')) ?_ (hK w.heap.size _ rfl (Ext.alloc w _) (at_alloc w _ _))
    have hf := fill_4w u0 u1 u2 u3 ((Array.range (4 * 1)).map (z.cells[· % z.cells.size]!)) h0 h1 h2 h3 (by simp)
    simp only [Nat.mul_one] at hf
    simp [execOp, hx0, hx1, hx2, hx3, Instr.buildSlice, run_underlying hun, sizeOf, typeInfo, hi, q1, zeroValue, hzz, newRow, hf]
end

end Go.Proofs.YtnkaebjaeaecmaaGreatDoor
