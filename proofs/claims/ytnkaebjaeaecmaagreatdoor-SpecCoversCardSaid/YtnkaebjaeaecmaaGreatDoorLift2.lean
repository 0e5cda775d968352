/-
  How slices, and structs with slices, read that are arguments of the statements: slices of sets, rows, numbers, flags; specs.
-/
import Derived.Test.YtnkaebjaeaecmaaGreatDoorLift1
import Derived.Test.YtnkaebjaeaecmaaGreatDoorMulti2
import Derived.Deep.Slices
namespace Go.Proofs.YtnkaebjaeaecmaaGreatDoor
set_option linter.unusedVariables false
set_option linter.unusedSimpArgs false
open Go Go.RowKit Go.ChangeShapes Go.WideShapes Go.ChangeAt Go.Joins Go.Deep

section
variable {H : Type} {encH : TypeId × Value → H} {P : Program} {w : World} {base : Nat} {held : Bool} {r : Reach} {b0 : Nat} {t e : TypeId}

theorem el_set {u : TypeId} (ht : P.underlying t = some (.array 4 u)) (hu : P.underlying u = some (.int .u64)) (hc : P.cellsOf u = 1) {n : Nat} {cs : List Value} {y : DataW H × List MemPlace} (hl : cs.length = 4) (h : DataW.trod encH P w base (fun _ => true) held n t cs = some y) : ∃ s : Nat, cs = encS s ∧ s < 2 ^ 256 := by
  match cs, hl with
  | [c0, c1, c2, c3], _ =>
    obtain ⟨y0, y1, y2, y3, n, hx, h0, h1, h2, h3⟩ := trod_array4 ht hc h
    obtain ⟨n0, e0, _, w0⟩ := DataW.trod_int hu h0
    obtain ⟨n1, e1, _, w1⟩ := DataW.trod_int hu h1
    obtain ⟨n2, e2, _, w2⟩ := DataW.trod_int hu h2
    obtain ⟨n3, e3, _, w3⟩ := DataW.trod_int hu h3
    simp only [List.cons.injEq, and_true] at e0 e1 e2 e3
    subst e0 e1 e2 e3
    obtain ⟨k0, rfl, l0⟩ := wf_u64 w0
    obtain ⟨k1, rfl, l1⟩ := wf_u64 w1
    obtain ⟨k2, rfl, l2⟩ := wf_u64 w2
    obtain ⟨k3, rfl, l3⟩ := wf_u64 w3
    obtain ⟨s, hs, hv⟩ := set_of_words l0 l1 l2 l3
    refine ⟨s, ?_, hs⟩
    have := congrArg (fun v : Value => v.cells.toList) hv
    exact this
theorem el_cube {f0 f1 : Field} (hs : P.underlying t = some (.struct #[f0, f1])) (ho0 : f0.offset = 0) (ho1 : f1.offset = 1) (hc0 : P.cellsOf f0.type = 1) (hc1 : P.cellsOf f1.type = 1) (h0 : P.underlying f0.type = some (.int .u8)) (h1 : P.underlying f1.type = some (.int .u8))
    {n : Nat} {cs : List Value} {y : DataW H × List MemPlace} (hl : cs.length = 2) (h : DataW.trod encH P w base (fun _ => true) held n t cs = some y) : ∃ c : Cb, cs = encC c ∧ (c.m < 256 ∧ c.v < 256) := by
  match cs, hl with
  | [a, b], _ =>
    obtain ⟨y0, y1, n, hx, _, g0, g1⟩ := trod_struct2 hs h
    rw [ho0, hc0] at g0
    rw [ho1, hc1] at g1
    obtain ⟨n0, e0, _, w0⟩ := DataW.trod_int h0 g0
    obtain ⟨n1, e1, _, w1⟩ := DataW.trod_int h1 g1
    simp at e0 e1
    subst e0 e1
    obtain ⟨k0, rfl, l0⟩ := wf_u8 w0
    obtain ⟨k1, rfl, l1⟩ := wf_u8 w1
    exact ⟨⟨k0, k1⟩, rfl, l0, l1⟩
theorem el_row {f0 f1 g0 g1 : Field} (hs : P.underlying t = some (.struct #[f0, f1])) (ho0 : f0.offset = 0) (ho1 : f1.offset = 2) (hc0 : P.cellsOf f0.type = 2) (hc1 : P.cellsOf f1.type = 1) (h1 : P.underlying f1.type = some (.int .u8))
    (hs2 : P.underlying f0.type = some (.struct #[g0, g1])) (hp0 : g0.offset = 0) (hp1 : g1.offset = 1) (hd0 : P.cellsOf g0.type = 1) (hd1 : P.cellsOf g1.type = 1) (k0 : P.underlying g0.type = some (.int .u8)) (k1 : P.underlying g1.type = some (.int .u8))
    {n : Nat} {cs : List Value} {y : DataW H × List MemPlace} (hl : cs.length = 3) (h : DataW.trod encH P w base (fun _ => true) held n t cs = some y) : ∃ x : Rw, cs = encR x ∧ (x.c.m < 256 ∧ x.c.v < 256 ∧ x.o < 256) := by
  match cs, hl with
  | [a, b, c], _ =>
    obtain ⟨y0, y1, n, hx, _, q0, q1⟩ := trod_struct2 hs h
    rw [ho0, hc0] at q0
    rw [ho1, hc1] at q1
    obtain ⟨cb, e0, l0, l1⟩ := el_cube hs2 hp0 hp1 hd0 hd1 k0 k1 (by simp) q0
    obtain ⟨n1, e1, _, w1⟩ := DataW.trod_int h1 q1
    simp [encC] at e0 e1
    obtain ⟨rfl, rfl⟩ := e0
    subst e1
    obtain ⟨z, rfl, lz⟩ := wf_u8 w1
    exact ⟨⟨cb, z⟩, rfl, l0, l1, lz⟩

/-! ### Whole arguments -/
theorem open_spec {v : Value} {d : DataW H} {p : List MemPlace} {f0 f1 f2 : Field} {u eS : TypeId} (hs : P.underlying t = some (.struct #[f0, f1, f2])) (hone : oneCellFields P #[f0, f1, f2] = true) (hC : P.cellsOf t = 3) (h0 : P.underlying f0.type = some (.int .i64)) (h1 : P.underlying f1.type = some (.slice eS)) (h2 : P.underlying f2.type = some (.slice eS))
    (hc : P.cellsOf eS = 4) (hS : P.underlying eS = some (.array 4 u)) (hu : P.underlying u = some (.int .u64)) (hcu : P.cellsOf u = 1) (hv : Value.okWide P w r b0 t v) (h : DataW.Trod encH P w base (fun _ => true) held t v d p) :
    ∃ (S : Sp) (onV mayV : Value), v = .agg #[.int .i64 S.n, onV, mayV] ∧ SlT encS 4 w onV S.on ∧ SlT encS 4 w mayV S.may ∧ (-9223372036854775808 ≤ S.n ∧ S.n ≤ 9223372036854775807) ∧ (∀ s ∈ S.on, s < 2 ^ 256) ∧ ∀ s ∈ S.may, s < 2 ^ 256 := by
  obtain ⟨v0, v1, v2, y0, y1, y2, n, rfl, _, _, g0, g1, g2⟩ := open_agg3 hs hone hC hv h
  obtain ⟨z, e0, _, w0⟩ := DataW.trod_int h0 g0
  simp only [List.cons.injEq, and_true] at e0
  subst e0
  obtain ⟨l1, k1, q1⟩ := open_sl (α := Nat) h1 hc (by decide) encS_len (fun n cs y hl hh => el_set hS hu hcu hl hh) g1
  obtain ⟨l2, k2, q2⟩ := open_sl (α := Nat) h2 hc (by decide) encS_len (fun n cs y hl hh => el_set hS hu hcu hl hh) g2
  exact ⟨⟨z, l1, l2⟩, v1, v2, rfl, k1, k2, wf_i64 w0, q1, q2⟩
instance : Inhabited Rw := ⟨⟨⟨0, 0⟩, 0⟩⟩
instance : Inhabited Cb := ⟨⟨0, 0⟩⟩
end

end Go.Proofs.YtnkaebjaeaecmaaGreatDoor
