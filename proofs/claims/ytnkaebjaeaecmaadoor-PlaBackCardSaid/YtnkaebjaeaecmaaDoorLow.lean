/-
  Words: strings as lists of bytes; what stands still. No program in it.
-/
import Derived.Test.YtnkaebjaeaecmaaDoorSlice
import Derived.Laws.Strings2
import Derived.Laws.Strings3
import Derived.Laws.Concat
import Derived.Laws.BytesString
namespace Go.Proofs.YtnkaebjaeaecmaaDoor
set_option linter.unusedVariables false
set_option linter.unusedSimpArgs false
open Go Go.RowKit

def encY (n : Int) : List Value := [.int .u8 n]
theorem encY_len (n : Int) : (encY n).length = 1 := rfl
theorem flat_encY (l : List Int) : l.flatMap encY = l.map (Value.int .u8) := by
  induction l with
  | nil => rfl
  | cons a l ih => simp [List.flatMap_cons, ih, encY]
def keyW (l : List UInt8) : Value := .string ⟨l.toArray⟩
def bytesL (xs : List Int) : List UInt8 := xs.map fun n => UInt8.ofNat n.toNat
theorem fold_bytes : ∀ (ns : List Int) (s : ByteArray), ns.foldl (fun r n => r.push (UInt8.ofNat n.toNat)) s = ⟨s.data ++ (bytesL ns).toArray⟩
  | [], s => by simp [bytesL]
  | n :: ns, s => by
    rw [List.foldl_cons, fold_bytes ns]
    simp [ByteArray.push, bytesL]

section
variable {P : Program} {f : Nat → Value} {w : World} {d : Option Nat} {ty : TypeId} {ps : String} {af : Array Edge} {g : Option (Nat × Bool)} {x y : Operand} {v : Value}
theorem r_bytesStr {src dst e : TypeId} {xs : List Int} (hx : evF f x = v) (hs : SlT encY 1 w v xs) (h1 : P.underlying src = some (.slice e)) (h2 : P.underlying e = some (.int .u8)) (h3 : P.underlying dst = some .string) :
    (execOp (evF f) ⟨d, .convert src dst x, ty, ps, af, g⟩).run P w = .ok (.value (keyW (bytesL xs))) w := by
  have hsl : Sl w 1 v xs.length (xs.flatMap encY) := hs
  have hc := hsl.cell
  obtain ⟨hv, hn, h0, ha⟩ := hsl.eqv
  cases hA : slA v with
  | none =>
    have h4 := h0 hA
    have hxs : xs = [] := List.eq_nil_of_length_eq_zero (by omega)
    rw [hA] at hv
    rw [hv] at hx
    subst hxs
    have hr := run_convert_bytes_string w src dst e none 0 (slC v) h1 h2 h3
    rw [show Conv.bytesToString (.slice none 0 (slC v)) = pure (.string .empty) from rfl] at hr
    have hr2 : (convert src dst (.slice none 0 (slC v))).run P w = .ok (.string ⟨#[]⟩) w := hr
    have hx2 : evF f x = .slice none 0 (slC v) := hx
    simp [execOp, hx2, hr2, keyW, bytesL]
  | some a =>
    rw [hA] at hv
    have hl := _root_.Go.run_loadCells_list (P := P) w a (xs.map (Value.int .u8)) (fun j u hj => by
      have hj' : j < xs.length := by
        have := (List.getElem?_eq_some_iff.1 hj).1
        simpa using this
      rw [ha a hA (by omega), addr_add]
      exact hc j u (by rw [flat_encY]; exact hj))
    rw [List.length_map] at hl
    have hr := run_convert_bytes_string w src dst e (some a) xs.length (slC v) h1 h2 h3
    rw [run_bytesToString w a xs.length (slC v) xs hl, fold_bytes] at hr
    rw [hv] at hx
    simp [execOp, hx, hr, keyW]
end

/-! ### What stands still -/
section
variable {w W : World}
theorem Below.ow {α : Type} {enc : α → List Value} {sz : Nat} {T : TypeId} {N : Nat} {v : Value} {l : List α} (h : Go.RowKit.Below w.heap.size w W) (k : OwT enc sz T w N v l) : OwT enc sz T W N v l :=
  World.ownsRow.kept k (row := none) ⟨h.os, h.tape, h.output, h.size, fun j hj _ => h.block j hj⟩ (by cases v.ownBlock <;> simp)
end

end Go.Proofs.YtnkaebjaeaecmaaDoor
