/-
  One law for each operation that touches memory: variables, structs, arrays, slices.
-/
import Derived.Test.YtnkaebjaeaecmaaDoorOps
namespace Go.Proofs.YtnkaebjaeaecmaaDoor
set_option linter.unusedVariables false
set_option linter.unusedSimpArgs false
open Go Go.RowKit

/-! ### What a block holds -/

/-- Block b holds the cells c, of elements of type T; none is frozen. -/
def At (w : World) (b : Nat) (c : Array Value) (T : TypeId) : Prop := w.heap[b]? = some (.cells c T (0, 0))

section
variable {w w' : World} {b b' : Nat} {c : Array Value} {T : TypeId} {o : Nat} {v : Value}
theorem At.lt (h : At w b c T) : b < w.heap.size := lt_of_block h
theorem Ext.at (h : Ext w w') (k : At w b c T) : At w' b c T := Ext.block h k
theorem At.grown {row : Option Nat} (k : At w b c T) (h : w.grownBy w' row) (hne : some b ≠ row) : At w' b c T := by
  unfold At
  rw [h.block b k.lt hne]
  exact k
theorem At.cell (k : At w b c T) (hc : c[o]? = some v) : w.cell? ⟨b, o, none⟩ = some v := by
  rw [cell_of_row w b o c T (0, 0) k]; exact hc
theorem At.neT {T' : TypeId} {c' : Array Value} (k : At w b c T) (k' : At w b' c' T') (hT : T ≠ T') : b ≠ b' := by
  rintro rfl
  unfold At at k k'
  rw [k] at k'
  simp only [Option.some.injEq, Obj.cells.injEq] at k'
  exact hT k'.2.1
theorem Ext.grown (h : Ext w w') (row : Option Nat) : w.grownBy w' row := ⟨Below.os h, Below.tape h, Below.output h, Below.size h, fun k hk _ => Below.block h k hk⟩
theorem Ext.cell (h : Ext w w') {p : Addr} {v : Value} (k : w.cell? p = some v) : w'.cell? p = some v := by
  rw [Below.cell h (World.block_lt_of_cell? w p k)]; exact k
theorem below_grown {N : Nat} {a : World} {row : Option Nat} (h : Below N a w) (hg : w.grownBy w' row) (hN : N ≤ a.heap.size) (hr : ∀ k, row = some k → N ≤ k) : Below N a w' :=
  Below.grown h hg (Nat.le_trans hN (Below.size h)) hr
end

theorem addr_add (b o k : Nat) : (⟨b, o, none⟩ : Addr).add k = ⟨b, o + k, none⟩ := by
  unfold Addr.add
  split
  · subst_vars; rfl
  · rfl

section
variable {P : Program} {f : Nat → Value} {w : World} {d : Option Nat} {ty : TypeId} {ps : String} {af : Array Edge} {g : Option (Nat × Bool)} {x y : Operand}
variable {t : TypeId} {b o : Nat} {v : Value} {c : Array Value} {T : TypeId} {K : Value → World → Prop}

/-! ### Loads -/
theorem r_load1 (hx : evF f x = .pointer (some ⟨b, o, none⟩)) (hT : scalarB P t = true) (hc : w.cell? ⟨b, o, none⟩ = some v) :
    (execOp (evF f) ⟨d, .load t x, ty, ps, af, g⟩).run P w = .ok (.value v) w := by
  have h1 := congrFun (scalarB_spec hT).1 w
  simp [execOp, hx, Instr.loadAt, Instr.sureAddr, loadVar, h1, load, Sem.run, hc]

theorem run_loadCells_list (P : Program) (w : World) (a : Addr) : ∀ (vs : List Value) (i : Nat) (acc : Array Value), (∀ j u, vs[j]? = some u → w.cell? (a.add (i + j)) = some u) →
    (loadCellsFrom a i vs.length acc).run P w = .ok (acc ++ vs.toArray) w
  | [], i, acc, _ => by simp [loadCellsFrom]
  | u :: r, i, acc, h => by
    have h0 := h 0 u rfl
    rw [Nat.add_zero] at h0
    have ih := run_loadCells_list P w a r (i + 1) (acc.push u) (fun j v hv => by have := h (j + 1) v (by simpa using hv); rwa [show i + 1 + j = i + (j + 1) from by omega])
    simp only [List.length_cons, loadCellsFrom, Sem.run_bind, load, Sem.run, h0, Result.andThen_ok, ih]
    simp

theorem r_loadL {vs : List Value} {k : Nat} (hx : evF f x = .pointer (some ⟨b, o, none⟩)) (hT : aggN P t = some k) (hk : k = vs.length) (hc : ∀ j u, vs[j]? = some u → w.cell? ⟨b, o + j, none⟩ = some u) :
    (execOp (evF f) ⟨d, .load t x, ty, ps, af, g⟩).run P w = .ok (.value (.agg vs.toArray)) w := by
  subst hk
  have h1 := congrFun (aggN_spec hT).1 w
  have h2 := congrFun (aggN_spec hT).2 w
  have h3 := run_loadCells_list P w ⟨b, o, none⟩ vs 0 #[] (fun j u hu => by rw [addr_add, Nat.zero_add]; exact hc j u hu)
  simp [execOp, hx, Instr.loadAt, Instr.sureAddr, loadVar, h1, h2, loadCells, h3]

theorem r_loadW {k : Nat} (hx : evF f x = .pointer (some ⟨b, 0, none⟩)) (hT : aggN P t = some k) (hk : k = c.size) (hm : At w b c T) :
    (execOp (evF f) ⟨d, .load t x, ty, ps, af, g⟩).run P w = .ok (.value (.agg c)) w := by
  have h := r_loadL (P := P) (f := f) (w := w) (d := d) (ty := ty) (ps := ps) (af := af) (g := g) (x := x) (t := t) (vs := c.toList) hx hT (by simpa using hk)
    (fun j u hu => by rw [Nat.zero_add]; exact hm.cell (by simpa using hu))
  simpa using h

theorem r_load2 {v0 v1 : Value} (hx : evF f x = .pointer (some ⟨b, o, none⟩)) (hT : aggN P t = some 2) (h0 : w.cell? ⟨b, o, none⟩ = some v0) (h1 : w.cell? ⟨b, o + 1, none⟩ = some v1) :
    (execOp (evF f) ⟨d, .load t x, ty, ps, af, g⟩).run P w = .ok (.value (.agg #[v0, v1])) w :=
  r_loadL (vs := [v0, v1]) hx hT rfl (fun j u hu => by
    match j, hu with
    | 0, hu => simp at hu; subst hu; exact h0
    | 1, hu => simp at hu; subst hu; exact h1)
theorem r_load3 {v0 v1 v2 : Value} (hx : evF f x = .pointer (some ⟨b, o, none⟩)) (hT : aggN P t = some 3) (h0 : w.cell? ⟨b, o, none⟩ = some v0) (h1 : w.cell? ⟨b, o + 1, none⟩ = some v1) (h2 : w.cell? ⟨b, o + 2, none⟩ = some v2) :
    (execOp (evF f) ⟨d, .load t x, ty, ps, af, g⟩).run P w = .ok (.value (.agg #[v0, v1, v2])) w :=
  r_loadL (vs := [v0, v1, v2]) hx hT rfl (fun j u hu => by
    match j, hu with
    | 0, hu => simp at hu; subst hu; exact h0
    | 1, hu => simp at hu; subst hu; exact h1
    | 2, hu => simp at hu; subst hu; exact h2)
theorem r_load4 {v0 v1 v2 v3 : Value} (hx : evF f x = .pointer (some ⟨b, o, none⟩)) (hT : aggN P t = some 4) (h0 : w.cell? ⟨b, o, none⟩ = some v0) (h1 : w.cell? ⟨b, o + 1, none⟩ = some v1) (h2 : w.cell? ⟨b, o + 2, none⟩ = some v2) (h3 : w.cell? ⟨b, o + 3, none⟩ = some v3) :
    (execOp (evF f) ⟨d, .load t x, ty, ps, af, g⟩).run P w = .ok (.value (.agg #[v0, v1, v2, v3])) w :=
  r_loadL (vs := [v0, v1, v2, v3]) hx hT rfl (fun j u hu => by
    match j, hu with
    | 0, hu => simp at hu; subst hu; exact h0
    | 1, hu => simp at hu; subst hu; exact h1
    | 2, hu => simp at hu; subst hu; exact h2
    | 3, hu => simp at hu; subst hu; exact h3)

/-! ### New variables -/
theorem at_alloc (w : World) (c : Array Value) (T : TypeId) : At (w.alloc (.cells c T)) w.heap.size c T := heap_alloc_new w _

theorem Y_alloc {z : Value} (hz : zeroI P t = some z) (hc : z.cells = c)
    (hK : ∀ b w', b = w.heap.size → Ext w w' → At w' b c t → K (.pointer (some ⟨b, 0, none⟩)) w') : Yd P ⟨d, .alloc t, ty, ps, af, g⟩ f w K := by
  subst hc
  unfold zeroI at hz
  obtain ⟨i, hi, hzz⟩ := Option.bind_eq_some_iff.1 hz
  refine .val (w' := w.alloc (.cells z.cells t)) ?_ (hK w.heap.size _ rfl (Ext.alloc w _) (at_alloc w _ _))
  simp [execOp, Instr.alloc, zeroValue, typeInfo, hi, hzz, newVar, newRow]

theorem Y_box (hx : evF f x = v) (hc : v.cells = c)
    (hK : ∀ b w', b = w.heap.size → Ext w w' → At w' b c t → K (.pointer (some ⟨b, 0, none⟩)) w') : Yd P ⟨d, .box t x, ty, ps, af, g⟩ f w K := by
  subst hx hc
  refine .val (w' := w.alloc (.cells (evF f x).cells t)) ?_ (hK w.heap.size _ rfl (Ext.alloc w _) (at_alloc w _ _))
  simp [execOp, Instr.box, newVar, newRow]

/-! ### Stores -/
theorem grownBy_setCell (w : World) (b o : Nat) (v : Value) : w.grownBy (w.setCell ⟨b, o, none⟩ v) (some b) :=
  ⟨rfl, rfl, rfl, by simp [World.setCell], fun k _ hne => Below.heap_setCell _ _ _ _ (by intro e; exact hne (by rw [e]))⟩

theorem run_store1 (P : Program) (hv : v.oneCell' = true) (hm : At w b c T) (ho : o < c.size) :
    (store ⟨b, o, none⟩ v).run P w = .ok () (w.setCell ⟨b, o, none⟩ v) := by
  have hc : w.cell? ⟨b, o, none⟩ = some c[o] := hm.cell (by simp [ho])
  have hf : w.frozen? ⟨b, o, none⟩ = false := frozen_of_row w b o c T hm
  cases v <;> first | (simp [Value.oneCell'] at hv; done) | simp [store, Sem.run, hc, hf]

theorem at_setCell (hm : At w b c T) (v : Value) : At (w.setCell ⟨b, o, none⟩ v) b (c.setIfInBounds o v) T := heap_setCell_same w b o c T v hm

/-- One cell is written. -/
theorem Y_store1 (hx : evF f x = .pointer (some ⟨b, o, none⟩)) (hy : evF f y = v) (hT : scalarB P t = true) (hv : v.oneCell' = true) (hm : At w b c T) (ho : o < c.size)
    (hK : ∀ w', w.grownBy w' (some b) → At w' b (c.setIfInBounds o v) T → K undef w') : Yd P ⟨d, .store t x y, ty, ps, af, g⟩ f w K := by
  refine .skip (w' := w.setCell ⟨b, o, none⟩ v) ?_ (hK _ (grownBy_setCell w b o v) (at_setCell hm v))
  have h2 := congrFun (scalarB_spec hT).2 w
  have hcs : v.cells = #[v] := by cases v <;> first | rfl | simp [Value.oneCell'] at hv
  have hs := run_store1 P hv hm ho
  have ha : (⟨b, o, none⟩ : Addr).add 0 = ⟨b, o, none⟩ := rfl
  simp [execOp, hx, hy, Instr.storeAt, Instr.sureAddr, storeVar, h2, hcs, storeCells, ha, hs]

/-- A whole variable is written. -/
theorem Y_storeW {k : Nat} {c' : Array Value} (hx : evF f x = .pointer (some ⟨b, 0, none⟩)) (hy : evF f y = .agg c') (hT : aggN P t = some k) (hk : k = c'.size) (hm : At w b c T) (hs0 : k = c.size) (hv0 : c'.toList.all Value.oneCell' = true)
    (hK : ∀ w', w.grownBy w' (some b) → At w' b c' T → K undef w') : Yd P ⟨d, .store t x y, ty, ps, af, g⟩ f w K := by
  subst hk
  have hs : c'.size = c.size := hs0
  have h2 := congrFun (aggN_spec hT).2 w
  have hv : ∀ v ∈ c'.toList, v.oneCell' = true := fun v h => List.all_eq_true.1 hv0 v h
  have hst := run_storeCells_at P b 0 T c'.toList 0 c w hm (by simp [hs]) hv
  have e : (c.toList.take (0 + 0) ++ c'.toList ++ c.toList.drop (0 + 0 + c'.toList.length)).toArray = c' := by
    have h0 : c.toList.drop c'.toList.length = [] := List.drop_of_length_le (by simp [hs])
    simp only [Nat.add_zero, Nat.zero_add, List.take_zero, List.nil_append, h0, List.append_nil, Array.toArray_toList]
  rw [e] at hst
  refine .skip (w' := w.setRow b c') ?_ (hK _ ⟨rfl, rfl, rfl, by simp, fun j _ hj => setRow_other w b j _ (fun e => hj (by rw [e]))⟩ (setRow_heap w b c c' T (0, 0) hm))
  simp [execOp, hx, hy, Instr.storeAt, Instr.sureAddr, storeVar, h2, Value.cells, hst]

/-! ### Places in structs and arrays -/
theorem r_fieldAddr {k q : Nat} (hx : evF f x = .pointer (some ⟨b, o, none⟩)) (hT : fieldO P t k = some q) :
    (execOp (evF f) ⟨d, .fieldAddr t x k, ty, ps, af, g⟩).run P w = .ok (.value (.pointer (some ⟨b, o + q, none⟩))) w := by
  unfold fieldO at hT
  cases hu : P.underlying t with
  | none => simp [hu] at hT
  | some desc =>
    cases desc <;> simp only [hu, reduceCtorEq] at hT
    obtain ⟨fd, hfd, hz⟩ := Option.bind_eq_some_iff.1 hT
    split at hz
    case isFalse => cases hz
    rename_i hany
    obtain rfl := Option.some.inj hz
    cases hi : P.info? fd.type with
    | none => simp [hi] at hany
    | some i =>
    simp only [hi, Option.any_some, bne_iff_ne, ne_eq] at hany
    have hn := hany
    simp [execOp, hx, Instr.fieldAt, run_underlying hu, hfd, Instr.sureAddr, fieldPlace, sizeOf, typeInfo, hi, hn, addr_add]

theorem r_idxA {n sz : Nat} {j : Int} {k : IntKind} (hx : evF f x = .pointer (some ⟨b, o, none⟩)) (hy : evF f y = .int k j) (hT : arrI P t = some (n, sz)) (h0 : 0 ≤ j) (h1 : j < n) :
    (execOp (evF f) ⟨d, .indexAddr t x y, ty, ps, af, g⟩).run P w = .ok (.value (.pointer (some ⟨b, o + j.toNat * sz, none⟩))) w := by
  unfold arrI at hT
  cases hu : P.underlying t with
  | none => simp [hu] at hT
  | some desc =>
    cases desc <;> simp [hu] at hT
    obtain ⟨i, hi, rfl, rfl⟩ := hT
    simp [execOp, hx, hy, Instr.indexAt, run_underlying hu, asIntOf, Instr.sureAddr, h0, h1, sizeOf, typeInfo, hi, addr_add]

/-! ### Slices -/
def slA (v : Value) : Option Addr := match v with | .slice a _ _ => a | _ => none
def slB (v : Value) : Nat := match v with | .slice (some a) _ _ => a.block | _ => 0
def slO (v : Value) : Nat := match v with | .slice (some a) _ _ => a.off | _ => 0
def slC (v : Value) : Nat := match v with | .slice _ _ c => c | _ => 0
end

/-- A slice of n elements of sz cells each, which hold xs. -/
structure Sl (w : World) (sz : Nat) (v : Value) (n : Nat) (xs : List Value) : Prop where
  form : ∃ a, v = .slice a n (slC v) ∧ n ≤ slC v ∧ (a = none → slC v = 0) ∧ ∀ a', a = some a' → 0 < slC v → a' = ⟨slB v, slO v, none⟩
  len : xs.length = n * sz
  cell : ∀ j u, xs[j]? = some u → w.cell? ⟨slB v, slO v + j, none⟩ = some u

section
variable {w w' : World} {sz n : Nat} {v : Value} {xs : List Value}

theorem Sl.nil (w : World) (sz : Nat) : Sl w sz (.slice none 0 0) 0 [] := ⟨⟨none, rfl, Nat.le_refl _, fun _ => rfl, fun _ h _ => by cases h⟩, by simp, fun j u h => by simp at h⟩

theorem Ext.sl (h : Ext w w') (k : Sl w sz v n xs) : Sl w' sz v n xs := ⟨k.form, k.len, fun j u hu => h.cell (k.cell j u hu)⟩

theorem Sl.eqn (k : Sl w sz v n xs) (hn : 0 < n) : v = .slice (some ⟨slB v, slO v, none⟩) n (slC v) := by
  obtain ⟨a, e, h1, h2, h3⟩ := k.form
  cases a with
  | none => have := h2 rfl; omega
  | some a' =>
    rw [h3 a' rfl (by omega)] at e
    exact e

theorem Sl.of_own {N : Nat} {T : TypeId} (h : w.ownsRow N T sz v n xs) : Sl w sz v n xs := by
  obtain ⟨hl, h⟩ := h
  rcases h with ⟨rfl, rfl⟩ | ⟨g, cap, cur, rfl, hg, hh, hnc, hcm, hcs, ht⟩
  · have : xs = [] := List.eq_nil_of_length_eq_zero (by simpa using hl)
    subst this
    exact Sl.nil w sz
  · refine ⟨⟨some ⟨g, 0, none⟩, rfl, hnc, fun h => (by cases h), fun a' h _ => by cases h; rfl⟩, hl, fun j u hu => ?_⟩
    have h1 : w.cell? ⟨g, 0 + j, none⟩ = some u := by
      rw [Nat.zero_add, cell_of_row w g j cur T (0, 0) hh]
      rw [← ht, List.getElem?_take] at hu
      split at hu
      · simpa using hu
      · cases hu
    exact h1

theorem Ext.own {N : Nat} {T : TypeId} (h : Ext w w') (k : w.ownsRow N T sz v n xs) : w'.ownsRow N T sz v n xs := k.kept (h.grown none) (by cases v.ownBlock <;> simp)

theorem own_neT {N b : Nat} {T T' : TypeId} {c : Array Value} (k : w.ownsRow N T sz v n xs) (hm : At w b c T') (hT : T' ≠ T) : some b ≠ v.ownBlock := by
  intro e
  rcases k.2 with ⟨rfl, rfl⟩ | ⟨g, cap, cur, rfl, hg, hh, _⟩
  · simp [Value.ownBlock] at e
  · simp [Value.ownBlock] at e
    subst e
    unfold At at hm
    rw [hm] at hh
    simp only [Option.some.injEq, Obj.cells.injEq] at hh
    exact hT hh.2.1

theorem own_own_neT {N N' : Nat} {T T' : TypeId} {sz' n' : Nat} {v' : Value} {xs' : List Value} (k : w.ownsRow N T sz v n xs) (k' : w.ownsRow N' T' sz' v' n' xs') (hT : T' ≠ T) : v'.ownBlock = none ∨ v'.ownBlock ≠ v.ownBlock := by
  rcases k'.2 with ⟨rfl, rfl⟩ | ⟨g, cap, cur, rfl, hg, hh, _⟩
  · exact .inl rfl
  · exact .inr (own_neT k (b := g) (c := cur) (T' := T') hh hT)

end

section
variable {P : Program} {f : Nat → Value} {w : World} {d : Option Nat} {ty : TypeId} {ps : String} {af : Array Edge} {g : Option (Nat × Bool)} {x y : Operand}
variable {t : TypeId} {b o : Nat} {v u : Value} {c : Array Value} {T e : TypeId} {K : Value → World → Prop} {n sz by_ : Nat} {xs ys : List Value}

theorem r_idxS {j : Int} {k : IntKind} {w0 : World} (hx : evF f x = v) (hs : Sl w0 sz v n xs) (hy : evF f y = .int k j) (hT : elemI P t = some (e, sz, by_)) (h0 : 0 ≤ j) (h1 : j < n) :
    (execOp (evF f) ⟨d, .indexAddr t x y, ty, ps, af, g⟩).run P w = .ok (.value (.pointer (some ⟨slB v, slO v + j.toNat * sz, none⟩))) w := by
  unfold elemI at hT
  have hv := hs.eqn (by omega)
  cases hu : P.underlying t with
  | none => simp [hu] at hT
  | some desc =>
    cases desc <;> simp [hu] at hT
    obtain ⟨i, hi, rfl, rfl, rfl⟩ := hT
    generalize slB v = B at *
    generalize slO v = O at *
    generalize slC v = C at *
    subst hv
    simp [execOp, hx, hy, Instr.indexAt, run_underlying hu, asIntOf, h0, h1, sizeOf, typeInfo, hi, addr_add]

theorem r_lenS {w0 : World} {k : TypeId} {by2 : Nat × Nat} (hx : evF f x = v) (hs : Sl w0 sz v n xs) (hT : elemI P t = some (k, by2)) :
    (execOp (evF f) ⟨d, .call ⟨.builtin .len, #[x], #[t]⟩, ty, ps, af, g⟩).run P w = .ok (.value (.int .i64 (n : Int))) w := by
  unfold elemI at hT
  obtain ⟨a, hv, _⟩ := hs.form
  cases hu : P.underlying t with
  | none => simp [hu] at hT
  | some desc =>
    cases desc <;> simp [hu] at hT
    generalize slC v = C at *
    subst hv
    simp [execOp, resolve, invoke, builtin, hx, Builtin.len_, run_underlying hu, goInt]

theorem foldl_put (l : List Value) : ∀ (k : Nat) (cs : Array Value), k + l.length ≤ cs.size →
    (l.zipIdx k).foldl (fun cs (p : Value × Nat) => cs.setIfInBounds (0 + p.2) p.1) cs = (cs.toList.take k ++ l ++ cs.toList.drop (k + l.length)).toArray := by
  induction l with
  | nil => intro k cs _; simp
  | cons u r ih =>
    intro k cs h
    simp only [List.length_cons] at h
    rw [List.zipIdx_cons, List.foldl_cons, ih (k + 1) _ (by simp; omega)]
    have := list_seg_step cs.toList k u r (by simpa using h)
    simp only [Nat.zero_add, Array.toList_setIfInBounds]
    rw [this]
    rfl

theorem fill_one (u : Value) (z : Array Value) (sz : Nat) (hu : u.cells.size = sz) (hz : z.size = sz) : Instr.fill (fun i => some (i * sz, sz)) z [(0, u)] = some u.cells := by
  have h := foldl_put u.cells.toList 0 z (by simp [hu, hz])
  have e0 : z.toList.drop (0 + u.cells.toList.length) = [] := List.drop_of_length_le (by simp [hu, hz])
  rw [e0] at h
  simp only [List.take_zero, List.nil_append, List.append_nil, Array.toArray_toList] at h
  simp only [Instr.fill, hu, Nat.zero_mul, Nat.zero_add, hz, ne_eq, not_true_eq_false, decide_false, Nat.lt_irrefl, gt_iff_lt, Bool.or_self, Bool.false_eq_true, if_false]
  rw [← Array.foldl_toList, Array.toList_zipIdx]
  simp only [Nat.zero_add] at h
  rw [h]

/-- A literal of one element. -/
theorem Y_lit1 (hx : evF f x = u) (hT : elemI P t = some (e, sz, by_)) (hz : (zeroI P e).map (fun z => z.cells.size) = some sz) (hu : u.cells.size = sz) (hsz : 0 < sz) (hsz2 : sz ≤ 100)
    (hK : ∀ b w', b = w.heap.size → Ext w w' → At w' b u.cells e → K (.slice (some ⟨b, 0, none⟩) 1 1) w') : Yd P ⟨d, .buildSlice t 1 #[(0, x)], ty, ps, af, g⟩ f w K := by
  obtain ⟨z, hz, hzs⟩ := Option.map_eq_some_iff.1 hz
  unfold zeroI at hz
  obtain ⟨i, hi, hzz⟩ := Option.bind_eq_some_iff.1 hz
  unfold elemI at hT
  cases hun : P.underlying t with
  | none => simp [hun] at hT
  | some desc =>
    cases desc <;> simp [hun] at hT
    rename_i e'
    obtain ⟨i', hi', rfl, h1, rfl⟩ := hT
    obtain rfl : i' = i := by rw [hi] at hi'; exact (Option.some.inj hi').symm
    refine .val (w' := w.alloc (.cells u.cells e')) ?_ (hK w.heap.size _ rfl (Ext.alloc w _) (at_alloc w _ _))
    have hbig : ¬ 16777216 < sz := by omega
    have hne : ¬ sz = 0 := by omega
    have hf := fill_one u ((Array.range sz).map (z.cells[· % z.cells.size]!)) sz hu (by simp)
    simp [execOp, hx, Instr.buildSlice, run_underlying hun, sizeOf, typeInfo, hi, h1, zeroValue, hzz, hne, hbig, newRow, hf]

/-- 'append(s, y...)', s a row of the call's own (or nil). -/
theorem Y_append {N m : Nat} {v2 : Value} (hx : evF f x = v) (hy : evF f y = v2) (hT : elemI P t = some (e, sz, by_)) (hz : (zeroI P e).map (fun z => z.cells.size) = some sz) (hsz : 0 < sz)
    (ho : w.ownsRow N e sz v n xs) (hs : Sl w sz v2 m ys) (h10 : ys.all Value.oneCell' = true) (hN : N ≤ w.heap.size) (hb : (n + m) * by_ ≤ 140737488355328) (hm : n + m ≤ 9223372036854775807)
    (hK : ∀ v' w', w.grownBy w' v.ownBlock → w'.ownsRow N e sz v' (n + m) (xs ++ ys) → K v' w') : Yd P ⟨d, .call ⟨.builtin .append, #[x, y], #[t, t]⟩, ty, ps, af, g⟩ f w K := by
  have h1 : ∀ u ∈ ys, u.oneCell' = true := fun u h => List.all_eq_true.1 h10 u h
  obtain ⟨z, hz, hzs⟩ := Option.map_eq_some_iff.1 hz
  unfold zeroI at hz
  obtain ⟨i, hi, hzz⟩ := Option.bind_eq_some_iff.1 hz
  unfold elemI at hT
  cases hun : P.underlying t with
  | none => simp [hun] at hT
  | some desc =>
    cases desc <;> simp [hun] at hT
    rename_i e'
    obtain ⟨i', hi', rfl, h3, rfl⟩ := hT
    obtain rfl : i' = i := by rw [hi] at hi'; exact (Option.some.inj hi').symm
    by_cases hm0 : m = 0
    · subst hm0
      have hys : ys = [] := List.eq_nil_of_length_eq_zero (by simpa using hs.len)
      subst hys
      have hrun : (Builtin.append_ #[t, t] ty #[v, v2]).run P w = .ok v w := by
        obtain ⟨a2, hv2, _⟩ := hs.form
        generalize slC v2 = c2 at hv2
        subst hv2
        rcases ho.2 with ⟨rfl, rfl⟩ | ⟨q, cap, cur, rfl, hg, hh, hnc, hcm, hcs, ht⟩
        · simp [Builtin.append_, run_underlying hun, sizeOf, typeInfo, hi, Builtin.lenOf, Builtin.firstCells]
          cases a2 <;> simp [loadCells, loadCellsFrom]
        · cases a2 <;> simp [Builtin.append_, run_underlying hun, sizeOf, typeInfo, hi, Builtin.lenOf, Builtin.firstCells, loadCells, loadCellsFrom, hnc, storeCells]
      refine .val (v := v) (w' := w) ?_ (hK v w (World.grownBy.refl w _) (by simpa using ho))
      simp [execOp, resolve, invoke, builtin, hx, hy, hrun]
    · have hv2 := hs.eqn (by omega)
      have hcell := hs.cell
      generalize slB v2 = B at *
      generalize slO v2 = O at *
      generalize slC v2 = C at *
      subst hv2
      obtain ⟨v', w', hr, h4, h5, _⟩ := run_append_own (P := P) w N t ty e' i' z sz i'.bytes hun hi hzz h3 rfl hzs hsz v n xs ho ⟨B, O, none⟩ m C ys hs.len
        (fun j u hu => by rw [addr_add]; exact hcell j u hu) h1 (by simpa [maxLen] using hm) hb hN
      refine .val (v := v') (w' := w') ?_ (hK v' w' h5 h4)
      simp [execOp, resolve, invoke, builtin, hx, hy, hr]
end

/-! ### Readings of the call's arguments, later on -/
theorem Below.slI {w W : World} {sz n : Nat} {v : Value} {xs : List Value} (h : Below w.heap.size w W) (k : Sl w sz v n xs) : Sl W sz v n xs :=
  ⟨k.form, k.len, fun j u hu => by have hc := k.cell j u hu; rw [Below.cell h (World.block_lt_of_cell? w _ hc)]; exact hc⟩
theorem Below.atI {w W : World} {b : Nat} {c : Array Value} {T : TypeId} (h : Below w.heap.size w W) (k : At w b c T) : At W b c T := by
  unfold At; rw [Below.block h b k.lt]; exact k

theorem sl_lit1 {w : World} {b sz : Nat} {c : Array Value} {T : TypeId} (k : At w b c T) (hs : c.size = sz) : Sl w sz (.slice (some ⟨b, 0, none⟩) 1 1) 1 c.toList :=
  ⟨⟨some ⟨b, 0, none⟩, rfl, Nat.le_refl _, fun h => (by cases h), fun a' h _ => by cases h; rfl⟩, by simp [hs], fun j u hu => by
    show w.cell? ⟨b, 0 + j, none⟩ = some u
    rw [Nat.zero_add]
    exact k.cell (by simpa using hu)⟩

/-! ### Elements, encoded -/
theorem flat_get {α : Type} {enc : α → List Value} {sz : Nat} (he : ∀ a, (enc a).length = sz) : ∀ (l : List α) (k r : Nat) (d : α), k < l.length → r < sz → (l.flatMap enc)[k * sz + r]? = (enc (l.getD k d))[r]?
  | [], k, r, d, h, _ => by simp at h
  | a :: l, 0, r, d, _, hr => by
    rw [List.flatMap_cons, Nat.zero_mul, Nat.zero_add, List.getElem?_append_left (by rw [he]; exact hr)]
    rfl
  | a :: l, k + 1, r, d, h, hr => by
    have h1 : sz ≤ (k + 1) * sz + r := by rw [Nat.add_mul]; omega
    rw [List.flatMap_cons, List.getElem?_append_right (by rw [he]; exact h1), he]
    have e : (k + 1) * sz + r - sz = k * sz + r := by rw [Nat.add_mul]; omega
    rw [e, flat_get he l k r d (by simpa using h) hr]
    simp

theorem flat_len {α : Type} {enc : α → List Value} {sz : Nat} (he : ∀ a, (enc a).length = sz) (l : List α) : (l.flatMap enc).length = l.length * sz := by
  induction l with
  | nil => simp
  | cons a l ih => rw [List.flatMap_cons, List.length_append, ih, he, List.length_cons, Nat.add_mul]; omega

/-- A slice whose elements, encoded, are l. -/
def SlT {α : Type} (enc : α → List Value) (sz : Nat) (w : World) (v : Value) (l : List α) : Prop := Sl w sz v l.length (l.flatMap enc)
/-- A row of the call's own, from block N on, whose elements, encoded, are l. -/
def OwT {α : Type} (enc : α → List Value) (sz : Nat) (T : TypeId) (w : World) (N : Nat) (v : Value) (l : List α) : Prop := w.ownsRow N T sz v l.length (l.flatMap enc)

section
variable {α : Type} {enc : α → List Value} {sz : Nat} {T : TypeId} {w w' : World} {N : Nat} {v : Value} {l : List α}

theorem OwT.sl (h : OwT enc sz T w N v l) : SlT enc sz w v l := Sl.of_own h
theorem SlT.nil : SlT enc sz w (.slice none 0 0) [] := Sl.nil w sz
theorem OwT.nil : OwT enc sz T w N (.slice none 0 0) [] := World.ownsRow_nil w N T sz
theorem Ext.slT (h : Ext w w') (k : SlT enc sz w v l) : SlT enc sz w' v l := Ext.sl h k
theorem Ext.ow (h : Ext w w') (k : OwT enc sz T w N v l) : OwT enc sz T w' N v l := Ext.own h k
theorem Below.slT {W : World} (h : Below w.heap.size w W) (k : SlT enc sz w v l) : SlT enc sz W v l := Below.slI h k
theorem OwT.mono {N' : Nat} (k : OwT enc sz T w N v l) (h : N' ≤ N) : OwT enc sz T w N' v l := by
  refine ⟨k.1, ?_⟩
  rcases k.2 with h2 | ⟨g, cap, cur, h3, hg, r⟩
  · exact .inl h2
  · exact .inr ⟨g, cap, cur, h3, Nat.le_trans h hg, r⟩

theorem OwT.lt (k : OwT enc sz T w N v l) : ∀ j, v.ownBlock = some j → N ≤ j := fun j hj => (World.ownsRow.lt k j hj).1

theorem SlT.cell (hs : SlT enc sz w v l) (he : ∀ a, (enc a).length = sz) (d : α) {j : Int} (h0 : 0 ≤ j) (h1 : j < l.length) (r : Nat) {u : Value} (hu : (enc (l.getD j.toNat d))[r]? = some u) :
    w.cell? ⟨slB v, slO v + j.toNat * sz + r, none⟩ = some u := by
  have hr : r < sz := by
    have := (List.getElem?_eq_some_iff.1 hu).1
    rwa [he] at this
  have h := Sl.cell hs (j.toNat * sz + r) u (by rw [flat_get he l j.toNat r d (by omega) hr]; exact hu)
  rwa [← Nat.add_assoc] at h

/-- Behind an append of one. -/
theorem OwT.snoc {x : α} {n m : Nat} {xs ys : List Value} (hn : n = l.length) (hm : m = 1) (hx : xs = l.flatMap enc) (hy : ys = enc x) (h : w.ownsRow N T sz v (n + m) (xs ++ ys)) : OwT enc sz T w N v (l ++ [x]) := by
  subst hn hm hx hy
  unfold OwT
  rw [List.length_append, List.flatMap_append]
  simpa using h

theorem OwT.app {l2 : List α} {n m : Nat} {xs ys : List Value} (hn : n = l.length) (hm : m = l2.length) (hx : xs = l.flatMap enc) (hy : ys = l2.flatMap enc) (h : w.ownsRow N T sz v (n + m) (xs ++ ys)) : OwT enc sz T w N v (l ++ l2) := by
  subst hn hm hx hy
  unfold OwT
  rw [List.length_append, List.flatMap_append]
  exact h

theorem OwT.grownAt {b : Nat} {c : Array Value} {T' : TypeId} (k : OwT enc sz T w N v l) (hm : At w b c T') (hG : w.grownBy w' (some b)) (hT : T' ≠ T) : OwT enc sz T w' N v l :=
  World.ownsRow.kept k hG (.inr (fun e => own_neT k hm hT e.symm))
theorem At.grownOw {b : Nat} {c : Array Value} {T' : TypeId} (hm : At w b c T') (k : OwT enc sz T w N v l) (hG : w.grownBy w' v.ownBlock) (hT : T' ≠ T) : At w' b c T' :=
  hm.grown hG (own_neT k hm hT)
theorem OwT.grownOw {β : Type} {enc' : β → List Value} {sz' : Nat} {T' : TypeId} {N' : Nat} {v' : Value} {l' : List β} (k' : OwT enc' sz' T' w N' v' l') (k : OwT enc sz T w N v l) (hG : w.grownBy w' v.ownBlock) (hT : T' ≠ T) : OwT enc' sz' T' w' N' v' l' :=
  World.ownsRow.kept k' hG (own_own_neT k k' hT)
theorem At.grownAt {b b' : Nat} {c c' : Array Value} {T' : TypeId} (hm : At w b c T) (hm' : At w b' c' T') (hG : w.grownBy w' (some b')) (hT : T ≠ T') : At w' b c T :=
  hm.grown hG (fun e => At.neT hm hm' hT (Option.some.inj e))
theorem At.grownNe {b b' : Nat} {c : Array Value} (hm : At w b c T) (hne : b ≠ b') (hG : w.grownBy w' (some b')) : At w' b c T :=
  hm.grown hG (fun e => hne (Option.some.inj e))
end

/-! ### Functions: in and out -/
def frameOf (vs : List Value) (k : Nat) : Nat → Value :=
  match vs with
  | [] => fun _ => undef
  | v :: r => upd (frameOf r (k + 1)) k v

def RetIs (P : Program) (f : Nat → Value) (w : World) (rs : Array ResultVar) (v : Value) : Prop :=
  ∀ (tmps : Array Value) (fn : Func), (∀ t, tmps.getD t undef = f t) → fn.results = rs → (results fn tmps).run P w = .ok v w

def bodyQ (P : Program) (rs : Array ResultVar) (Post : Value → World → Prop) : Exit → (Nat → Value) → World → Prop
  | .ret, f, w | .normal, f, w => ∃ v, RetIs P f w rs v ∧ Post v w
  | _, _, _ => False

theorem frameOf_get (vs : List Value) : ∀ (k t : Nat), k ≤ t → frameOf vs k t = vs.getD (t - k) undef := by
  induction vs with
  | nil => intro k t _; rfl
  | cons v r ih =>
    intro k t h
    by_cases e : t = k
    · subst e; rw [frameOf, upd_same]; simp
    · rw [frameOf, upd_ne _ _ e, ih (k + 1) t (by omega)]
      have e2 : t - k = (t - (k + 1)) + 1 := by omega
      rw [e2]; simp

/-- What a call does, whatever it does to what was there. -/
structure FnG (P : Program) (g : Nat) (vs : Array Value) (w : World) (Post : Value → World → Prop) : Prop where
  out : Calls P g vs w fun e w' => ∃ v, e = .returned v ∧ Post v w'

theorem FnG_intro {P : Program} {g : Nat} {fn : Func} {c : Code} {n : Nat} {vs : List Value} {w : World} {Post : Value → World → Prop} (hf : P.funcs[g]? = some fn) (hb : fn.body = some c) (hn : fn.ntmps = n) (hv : vs.length ≤ n)
    (h : WC P n c (bodyQ P fn.results Post) (frameOf vs 0) w) : FnG P g vs.toArray w Post := by
  refine ⟨?_⟩
  refine calls_of_wp hf hb ?_
  subst hn
  have hr : Rep fn.ntmps (frameOf vs 0) { tmps := vs.toArray ++ Array.replicate (fn.ntmps - vs.toArray.size) undef, defers := [] } := by
    refine ⟨rfl, by simp; omega, fun t => ?_⟩
    rw [frameOf_get vs 0 t (Nat.zero_le _), Nat.sub_zero]
    simp only [Array.getD_eq_getD_getElem?, Array.getElem?_append, List.size_toArray, List.getElem?_toArray, Array.getElem?_replicate, List.getD]
    split
    · rfl
    · rename_i hge
      rw [List.getElem?_eq_none (by omega)]
      split <;> rfl
  refine Code.wp_mono (fun e a w' hq => ?_) (h.out _ hr)
  obtain ⟨f', hr', hq⟩ := hq
  cases e with
  | ret =>
    obtain ⟨v, h1, h2⟩ := hq
    exact ⟨hr'.defers, v, h1 _ fn hr'.get rfl, v, rfl, h2⟩
  | normal =>
    obtain ⟨v, h1, h2⟩ := hq
    exact ⟨hr'.defers, v, h1 _ fn hr'.get rfl, v, rfl, h2⟩
  | exit id => exact hq.elim
  | goto l => exact hq.elim
  | panic c => exact hq.elim
  | outgrown => exact hq.elim

theorem Fn_intro {P : Program} {g : Nat} {fn : Func} {c : Code} {n : Nat} {vs : List Value} {w : World} {Post : Value → World → Prop} (hf : P.funcs[g]? = some fn) (hb : fn.body = some c) (hn : fn.ntmps = n) (hv : vs.length ≤ n)
    (h : WC P n c (bodyQ P fn.results fun v w' => Ext w w' ∧ Post v w') (frameOf vs 0) w) : Fn P g vs.toArray w Post := ⟨(FnG_intro hf hb hn hv h).out⟩

section
variable {P : Program} {f : Nat → Value} {w : World} {t u s r : Nat} {v v1 v2 v3 : Value} {Post : Value → World → Prop} {T T' T2 T2' : TypeId} {b : Nat} {c : Array Value}

theorem ret_t (h : f t = v) (hp : Post v w) : bodyQ P #[.tmp t] Post .ret f w := by
  refine ⟨v, fun tmps fn ht hr => ?_, hp⟩
  rw [← h, ← ht t]; simp [results, hr]
theorem ret_tt (h : f t = v) (h1 : f u = v1) (hp : Post (.tuple #[v, v1]) w) : bodyQ P #[.tmp t, .tmp u] Post .ret f w := by
  refine ⟨_, fun tmps fn ht hr => ?_, hp⟩
  rw [← h, ← h1, ← ht t, ← ht u]; simp [results, hr]
theorem run_loadVarW (hT : aggN P T = some c.size) (hm : At w b c T') : (loadVar T ⟨b, 0, none⟩).run P w = .ok (.agg c) w := by
  have h1 := congrFun (aggN_spec hT).1 w
  have h2 := congrFun (aggN_spec hT).2 w
  have h3 := run_loadCells_list P w ⟨b, 0, none⟩ c.toList 0 #[] (fun j u hu => by rw [addr_add]; simp only [Nat.zero_add]; exact hm.cell (by simpa using hu))
  rw [Array.length_toList] at h3
  simp [loadVar, h1, h2, loadCells, h3]

theorem ret_c {k : Nat} (h : f t = .pointer (some ⟨b, 0, none⟩)) (hT : aggN P T = some k) (hm : At w b c T') (hk : k = c.size) (hp : Post (.agg c) w) : bodyQ P #[.cell t T] Post .ret f w := by
  refine ⟨_, fun tmps fn ht hr => ?_, hp⟩
  have e := ht t
  rw [h] at e
  have hl := run_loadVarW (hk ▸ hT) hm
  simp only [Array.getD_eq_getD_getElem?] at e
  simp [results, hr, e, asAddr, hl]
theorem ret_ct {k : Nat} (h : f t = .pointer (some ⟨b, 0, none⟩)) (hT : aggN P T = some k) (hm : At w b c T') (hk : k = c.size) (h1 : f u = v1) (hp : Post (.tuple #[.agg c, v1]) w) : bodyQ P #[.cell t T, .tmp u] Post .ret f w := by
  refine ⟨_, fun tmps fn ht hr => ?_, hp⟩
  have e := ht t
  have e1 := ht u
  rw [h] at e
  rw [h1] at e1
  have hl := run_loadVarW (hk ▸ hT) hm
  simp only [Array.getD_eq_getD_getElem?] at e e1
  simp [results, hr, e, e1, asAddr, hl]
theorem ret_ctt {k : Nat} (h : f t = .pointer (some ⟨b, 0, none⟩)) (hT : aggN P T = some k) (hm : At w b c T') (hk : k = c.size) (h1 : f u = v1) (h2 : f s = v2) (hp : Post (.tuple #[.agg c, v1, v2]) w) : bodyQ P #[.cell t T, .tmp u, .tmp s] Post .ret f w := by
  refine ⟨_, fun tmps fn ht hr => ?_, hp⟩
  have e := ht t
  have e1 := ht u
  have e2 := ht s
  rw [h] at e
  rw [h1] at e1
  rw [h2] at e2
  have hl := run_loadVarW (hk ▸ hT) hm
  simp only [Array.getD_eq_getD_getElem?] at e e1 e2
  simp [results, hr, e, e1, e2, asAddr, hl]
end

end Go.Proofs.YtnkaebjaeaecmaaDoor
