/-
  Slices of slices: a row of slice values, each of which is readable. What coverings are. No program in it.
-/
import Derived.Test.YtdbcijijhhbkaaaLift2
import Derived.Test.YtdbcijijhhbkaaaEdit
namespace Go.Proofs.Ytdbcijijhhbkaaa
set_option linter.unusedVariables false
set_option linter.unusedSimpArgs false
open Go Go.RowKit Go.ChangeShapes Go.WideShapes Go.ChangeAt Go.Joins Go.Deep

def encV (v : Value) : List Value := [v]
theorem encV_len (v : Value) : (encV v).length = 1 := rfl

/-- Slice values, whose numbers are L. -/
structure LL (w : World) (vs : List Value) (L : List (List Int)) : Prop where
  len : vs.length = L.length
  get : ∀ k, k < L.length → SlT encI 1 w (vs.getD k undef) (L.getD k [])

theorem LL.nil (w : World) : LL w [] [] := ⟨rfl, fun k hk => by cases hk⟩
theorem LL.below {w W : World} {vs : List Value} {L : List (List Int)} (h : Below w.heap.size w W) (k : LL w vs L) : LL W vs L := ⟨k.len, fun i hi => Below.slT h (k.get i hi)⟩
theorem LL.ext {w W : World} {vs : List Value} {L : List (List Int)} (h : Ext w W) (k : LL w vs L) : LL W vs L := ⟨k.len, fun i hi => Ext.slT h (k.get i hi)⟩
theorem LL.of_all {w : World} : ∀ (vs : List Value), (∀ v, v ∈ vs → ∃ l : List Int, SlT encI 1 w v l) → ∃ L, LL w vs L
  | [], _ => ⟨[], LL.nil w⟩
  | v :: vs, h => by
    obtain ⟨L, hL⟩ := LL.of_all vs (fun x hx => h x (List.mem_cons_of_mem _ hx))
    obtain ⟨l, hl⟩ := h v (List.mem_cons_self ..)
    refine ⟨l :: L, by simp [hL.len], fun k hk => ?_⟩
    cases k with
    | zero => exact hl
    | succ k => exact hL.get k (by simpa using hk)

instance : Inhabited Value := ⟨undef⟩

section
variable {H : Type} {encH : TypeId × Value → H} {P : Program} {w : World} {base : Nat} {held : Bool} {r : Reach} {b0 : Nat} {t e : TypeId}
theorem el_ints (ht : P.underlying t = some (.slice e)) (hc : P.cellsOf e = 1) (he : P.underlying e = some (.int .i64)) {n : Nat} {cs : List Value} {y : DataW H × List MemPlace} (hl : cs.length = 1) (h : DataW.trod encH P w base (fun _ => true) held n t cs = some y) : ∃ v : Value, cs = encV v ∧ ∃ l : List Int, SlT encI 1 w v l := by
  match cs, hl with
  | [c], _ =>
    obtain ⟨l, hl, _⟩ := open_sl (α := Int) (enc := encI) ht hc (by decide) encI_len (fun n cs y hl hh => el_int he hl hh) h
    exact ⟨c, rfl, l, hl⟩
theorem sl_lim {fuel : Nat} {v : Value} {x : DataW H × List MemPlace} (ht : P.underlying t = some (.slice e)) (h : DataW.trod encH P w base (fun _ => true) held fuel t [v] = some x) : slC v ≤ 9223372036854775807 := by
  rcases open_slice ht h with ⟨h0, _⟩ | ⟨a, len, cap, m, n, D, Pl, h1, hb, hl, hm, hmm, hx, hel⟩
  · simp only [List.cons.injEq, and_true] at h0
    subst h0
    exact Nat.zero_le _
  · simp only [List.cons.injEq, and_true] at h1
    subst h1
    show cap ≤ 9223372036854775807
    simpa [maxLen] using hm
theorem open_lists {fuel : Nat} {q : TypeId} {v : Value} {x : DataW H × List MemPlace} (ht : P.underlying t = some (.slice e)) (hc : P.cellsOf e = 1) (he : P.underlying e = some (.slice q)) (hcq : P.cellsOf q = 1) (hq : P.underlying q = some (.int .i64)) (h : DataW.trod encH P w base (fun _ => true) held fuel t [v] = some x) :
    ∃ (vs : List Value) (L : List (List Int)), SlT encV 1 w v vs ∧ LL w vs L ∧ vs.length ≤ 9223372036854775807 := by
  have hlim := sl_lim ht h
  obtain ⟨vs, h1, h2⟩ := open_sl (α := Value) (enc := encV) ht hc (by decide) encV_len (fun n cs y hl hh => el_ints he hcq hq hl hh) h
  obtain ⟨L, hL⟩ := LL.of_all vs h2
  exact ⟨vs, L, h1, hL, Nat.le_trans (Sl.eqv h1).2.1 hlim⟩
theorem open_matrix {v : Value} {d : DataW H} {p : List MemPlace} {f0 f1 : Field} {q : TypeId} (hs : P.underlying t = some (.struct #[f0, f1])) (ho0 : f0.offset = 0) (ho1 : f1.offset = 1) (hc0 : P.cellsOf f0.type = 1) (hc1 : P.cellsOf f1.type = 1) (hC : P.cellsOf t = 2) (h0 : P.underlying f0.type = some (.int .i64)) (h1 : P.underlying f1.type = some (.slice e))
    (hc : P.cellsOf e = 1) (he : P.underlying e = some (.slice q)) (hcq : P.cellsOf q = 1) (hq : P.underlying q = some (.int .i64)) (hv : Value.okWide P w r b0 t v) (h : DataW.Trod encH P w base (fun _ => true) held t v d p) :
    ∃ (n : Int) (rv : Value) (vs : List Value) (L : List (List Int)), v = .agg #[.int .i64 n, rv] ∧ SlT encV 1 w rv vs ∧ LL w vs L ∧ vs.length ≤ 9223372036854775807 ∧ (-9223372036854775808 ≤ n ∧ n ≤ 9223372036854775807) := by
  obtain ⟨cs, rfl, hsz⟩ := okWide_struct hs hv
  obtain ⟨fuel, hf⟩ := h
  have hl : cs.toList.length = 2 := by simpa using hsz.trans hC
  have hf2 : DataW.trod encH P w base (fun _ => true) held fuel t cs.toList = some (d, p) := hf
  generalize hcl : cs.toList = ls at hl hf2
  match ls, hl with
  | [a, b], _ =>
    obtain ⟨y0, y1, n, hx, _, g0, g1⟩ := trod_struct2 hs hf2
    rw [ho0, hc0] at g0
    rw [ho1, hc1] at g1
    obtain ⟨z, e0, _, w0⟩ := DataW.trod_int h0 g0
    simp at e0
    subst e0
    have g1' : DataW.trod encH P w base (fun _ => true) held n f1.type [b] = some y1 := by simpa using g1
    obtain ⟨vs, L, k1, k2, k3⟩ := open_lists h1 hc he hcq hq g1'
    refine ⟨z, b, vs, L, ?_, k1, k2, k3, wf_i64 w0⟩
    rw [← Array.toArray_toList (xs := cs), hcl]
end

end Go.Proofs.Ytdbcijijhhbkaaa
