/-
  Parts of arrays that are written, rows that are apart from one another, what a slice's value is.
-/
import Derived.Test.YtnkaebjaeaecmaaDoorSlice
import Derived.Maps.AppendAt
namespace Go.Proofs.YtnkaebjaeaecmaaDoor
set_option linter.unusedVariables false
set_option linter.unusedSimpArgs false
open Go Go.RowKit

section
variable {P : Program} {f : Nat → Value} {w w' : World} {d : Option Nat} {ty : TypeId} {ps : String} {af : Array Edge} {g : Option (Nat × Bool)} {x y : Operand}
variable {t : TypeId} {b o : Nat} {v u : Value} {c nw : Array Value} {T e : TypeId} {K : Value → World → Prop} {n sz by_ N k : Nat} {xs ys : List Value}

/-- Some cells of a variable are written. -/
theorem Y_storeP (hx : evF f x = .pointer (some ⟨b, o, none⟩)) (hy : evF f y = .agg nw) (hT : aggN P t = some k) (hk : k = nw.size) (hm : At w b c T) (hs0 : o + k ≤ c.size) (hv0 : nw.toList.all Value.oneCell' = true)
    (hK : ∀ w', w.grownBy w' (some b) → At w' b (c.toList.take o ++ nw.toList ++ c.toList.drop (o + nw.toList.length)).toArray T → K undef w') : Yd P ⟨d, .store t x y, ty, ps, af, g⟩ f w K := by
  subst hk
  have h2 := congrFun (aggN_spec hT).2 w
  have hst := run_storeCells_at P b o T nw.toList 0 c w hm (by simp; omega) (fun v h => List.all_eq_true.1 hv0 v h)
  rw [Nat.add_zero] at hst
  refine .skip (w' := w.setRow b (c.toList.take o ++ nw.toList ++ c.toList.drop (o + nw.toList.length)).toArray) ?_ (hK _ ⟨rfl, rfl, rfl, by simp, fun j _ hj => setRow_other w b j _ (fun e => hj (by rw [e]))⟩ (setRow_heap w b c _ T (0, 0) hm))
  simp [execOp, hx, hy, Instr.storeAt, Instr.sureAddr, storeVar, h2, Value.cells, hst]

theorem thenQ_exit {K : (Nat → Value) → World → Prop} {Q : Exit → (Nat → Value) → World → Prop} {F : Nat → Value} {W : World} {id : Nat} (h : Q (.exit id) F W) : thenQ K Q (.exit id) F W := h
theorem blockQ_exit {Q : Exit → (Nat → Value) → World → Prop} {F : Nat → Value} {W : World} {id : Nat} (h : Q .normal F W) : blockQ id Q (.exit id) F W := by
  simp only [blockQ, if_true]; exact h

/-! ### Literals of more elements, and of none -/
theorem foldl_putO (off : Nat) (l : List Value) : ∀ (k : Nat) (cs : Array Value), off + k + l.length ≤ cs.size →
    (l.zipIdx k).foldl (fun cs (p : Value × Nat) => cs.setIfInBounds (off + p.2) p.1) cs = (cs.toList.take (off + k) ++ l ++ cs.toList.drop (off + k + l.length)).toArray := by
  induction l with
  | nil => intro k cs _; simp
  | cons u r ih =>
    intro k cs h
    simp only [List.length_cons] at h
    rw [List.zipIdx_cons, List.foldl_cons, ih (k + 1) _ (by simp; omega)]
    have := list_seg_step cs.toList (off + k) u r (by simpa using h)
    simp only [Array.toList_setIfInBounds]
    rw [show off + (k + 1) = off + k + 1 from rfl, this]
    rfl
theorem fill_step (sz i : Nat) (u : Value) (rest : List (Nat × Value)) (cs : Array Value) (hu : u.cells.size = sz) (hc : i * sz + sz ≤ cs.size) :
    Instr.fill (fun i => some (i * sz, sz)) cs ((i, u) :: rest) = Instr.fill (fun i => some (i * sz, sz)) (cs.toList.take (i * sz) ++ u.cells.toList ++ cs.toList.drop (i * sz + sz)).toArray rest := by
  have h := foldl_putO (i * sz) u.cells.toList 0 cs (by simp [hu]; omega)
  have hn : ¬ cs.size < i * sz + sz := by omega
  simp only [Instr.fill, hu, ne_eq, not_true_eq_false, decide_false, gt_iff_lt, hn, Bool.or_self, Bool.false_eq_true, if_false]
  rw [← Array.foldl_toList, Array.toList_zipIdx, h]
  simp [hu]
theorem fill_two (u0 u1 : Value) (z : Array Value) (sz : Nat) (hu0 : u0.cells.size = sz) (hu1 : u1.cells.size = sz) (hz : z.size = 2 * sz) : Instr.fill (fun i => some (i * sz, sz)) z [(0, u0), (1, u1)] = some (u0.cells ++ u1.cells) := by
  rw [fill_step sz 0 u0 _ z hu0 (by omega), fill_step sz 1 u1 _ _ hu1 (by simp [hu0]; omega), Instr.fill]
  congr 1
  apply Array.ext'
  simp only [Nat.zero_mul, List.take_zero, List.nil_append, Nat.zero_add, Nat.one_mul, List.toList_toArray, Array.toList_append]
  have h0 : u0.cells.toList.length = sz := by simp [hu0]
  rw [List.take_append_of_le_length (by omega), List.take_of_length_le (by omega), List.drop_eq_nil_of_le (by simp [hu0, hz]; omega), List.append_nil]
/-- A literal of two elements. -/
theorem Y_lit2 {x0 x1 : Operand} {u0 u1 : Value} (hx0 : evF f x0 = u0) (hx1 : evF f x1 = u1) (hT : elemI P t = some (e, sz, by_)) (hz : (zeroI P e).map (fun z => z.cells.size) = some sz) (hu0 : u0.cells.size = sz) (hu1 : u1.cells.size = sz) (hsz : 0 < sz) (hsz2 : sz ≤ 100)
    (hK : ∀ b w', b = w.heap.size → Ext w w' → At w' b (u0.cells ++ u1.cells) e → K (.slice (some ⟨b, 0, none⟩) 2 2) w') : Yd P ⟨d, .buildSlice t 2 #[(0, x0), (1, x1)], ty, ps, af, g⟩ f w K := by
  obtain ⟨z, hz, hzs⟩ := Option.map_eq_some_iff.1 hz
  unfold zeroI at hz
  obtain ⟨i, hi, hzz⟩ := Option.bind_eq_some_iff.1 hz
  unfold elemI at hT
  cases hun : P.underlying t with
  | none => simp [hun] at hT
  | some desc =>
    cases desc <;> simp [hun] at hT
    rename_i e'
    obtain ⟨i', hi', rfl, h1, rfl⟩ := hT
    obtain rfl : i' = i := by rw [hi] at hi'; exact (Option.some.inj hi').symm
    refine .val (w' := w.alloc (.cells (u0.cells ++ u1.cells) e')) ?_ (hK w.heap.size _ rfl (Ext.alloc w _) (at_alloc w _ _))
    have hbig : ¬ 16777216 < 2 * sz := by omega
    have hne : ¬ sz = 0 := by omega
    have hf := fill_two u0 u1 ((Array.range (2 * sz)).map (z.cells[· % z.cells.size]!)) sz hu0 hu1 (by simp)
    simp [execOp, hx0, hx1, Instr.buildSlice, run_underlying hun, sizeOf, typeInfo, hi, h1, zeroValue, hzz, hne, hbig, newRow, hf]
    intro h
    omega
theorem own_lit2 {α : Type} {enc : α → List Value} {b : Nat} {u0 u1 : Value} {a0 a1 : α} (k : At w b (u0.cells ++ u1.cells) T) (h0 : u0.cells.toList = enc a0) (h1 : u1.cells.toList = enc a1) (hs0 : u0.cells.size = sz) (hs1 : u1.cells.size = sz) (hN : N ≤ b) : OwT enc sz T w N (.slice (some ⟨b, 0, none⟩) 2 2) [a0, a1] :=
  ⟨by simp [← h0, ← h1, hs0, hs1]; omega, .inr ⟨b, 2, _, rfl, hN, k, Nat.le_refl _, by decide, by simp [hs0, hs1]; omega, by
    rw [List.take_of_length_le (by simp [hs0, hs1]; omega)]
    simp [h0, h1]⟩⟩
/-- A literal of no element: not nil, without room. -/
theorem Y_lit0 (hT : elemI P t = some (e, sz, by_))
    (hK : ∀ b w', b = w.heap.size → Ext w w' → At w' b #[] e → K (.slice (some ⟨b, 0, none⟩) 0 0) w') : Yd P ⟨d, .buildSlice t 0 #[], ty, ps, af, g⟩ f w K := by
  unfold elemI at hT
  cases hun : P.underlying t with
  | none => simp [hun] at hT
  | some desc =>
    cases desc <;> simp [hun] at hT
    rename_i e'
    obtain ⟨i', hi', rfl, h1, rfl⟩ := hT
    refine .val (w' := w.alloc (.cells #[] e')) ?_ (hK w.heap.size _ rfl (Ext.alloc w _) (at_alloc w _ _))
    simp [execOp, Instr.buildSlice, run_underlying hun, sizeOf, typeInfo, hi', newRow, Instr.fill]
    have e0 : Array.range 0 = #[] := by simp [Array.range]
    rw [e0, List.map_toArray]
    rfl
theorem own_lit0 {α : Type} {enc : α → List Value} {b : Nat} (k : At w b #[] T) (hN : N ≤ b) : OwT enc sz T w N (.slice (some ⟨b, 0, none⟩) 0 0) ([] : List α) :=
  ⟨by simp, .inr ⟨b, 0, _, rfl, hN, k, Nat.le_refl _, Nat.zero_le _, by simp, by simp⟩⟩

/-- Rows that are not one. -/
def Apart (v v' : Value) : Prop := ∀ b, v.ownBlock = some b → v'.ownBlock = some b → False
theorem Apart.symm {v v' : Value} (h : Apart v v') : Apart v' v := fun b h1 h2 => h b h2 h1
theorem Apart.nilL {v : Value} : Apart (.slice none 0 0) v := fun b h => by cases h
theorem Apart.nilR {v : Value} : Apart v (.slice none 0 0) := fun b _ h => by cases h
theorem Apart.kept {v v' : Value} (h : Apart v v') : v'.ownBlock = none ∨ v'.ownBlock ≠ v.ownBlock := by
  cases hv : v'.ownBlock with
  | none => exact .inl rfl
  | some b => exact .inr fun e => h b e.symm hv
/-- Behind an append onto v. -/
theorem Apart.app {α : Type} {enc : α → List Value} {v v1 v2 : Value} {l : List α} (h : Apart v v2) (hob : v1.ownBlock = v.ownBlock ∨ v1.ownBlock = some w.heap.size) (k : OwT enc sz T w N v2 l) : Apart v1 v2 := fun b h1 h2 => by
  rcases hob with e | e
  · exact h b (e ▸ h1) h2
  · rw [e] at h1
    cases h1
    have := (World.ownsRow.lt k _ h2).2
    omega
section
variable {α β : Type} {enc : α → List Value} {encB : β → List Value} {l : List α} {l' : List β} {v' : Value} {N' sz' : Nat} {T' : TypeId}
theorem OwT.lt2 (k : OwT enc sz T w N v l) : ∀ j, v.ownBlock = some j → j < w.heap.size := fun j hj => (World.ownsRow.lt k j hj).2
/-- What is new is apart from what was there. -/
theorem Apart.new {M : Nat} (h : ∀ j, v.ownBlock = some j → j < M) (k : OwT enc sz T w M v' l) : Apart v v' := fun b h1 h2 => by
  have h3 := (World.ownsRow.lt k b h2).1
  have h4 := h b h1
  omega
theorem OwT.grownAp (k : OwT enc sz T w N v l) (h : Apart v' v) (hG : w.grownBy w' v'.ownBlock) : OwT enc sz T w' N v l := World.ownsRow.kept k hG h.kept
/-- A readable slice that has nothing, or lies elsewhere. -/
def SlFar {α : Type} (v : Value) (l : List α) (b : Nat) : Prop := l = [] ∨ slB v ≠ b
theorem SlT.far {b : Nat} (k : SlT enc sz w v l) (hb : w.heap.size ≤ b) (hsz : 0 < sz := by decide) (he : ∀ a, (enc a).length = sz := by intro a; rfl) : SlFar v l b := by
  cases l with
  | nil => exact .inl rfl
  | cons a r =>
    right
    have h0 : ∃ u, ((a :: r).flatMap enc)[0]? = some u := by
      rw [List.flatMap_cons]
      have := he a
      cases hc : enc a with
      | nil => rw [hc] at this; simp at this; omega
      | cons u q => exact ⟨u, rfl⟩
    obtain ⟨u, hu⟩ := h0
    have hc := Sl.cell k 0 u hu
    have := World.block_lt_of_cell? w _ hc
    have h2 : slB v < w.heap.size := this
    omega
theorem SlT.grownFar {b : Nat} (k : SlT enc sz w v l) (h : SlFar v l b) (hG : w.grownBy w' (some b)) : SlT enc sz w' v l := by
  refine ⟨k.form, k.len, fun j u hu => ?_⟩
  rcases h with rfl | h
  · simp at hu
  · have hc := Sl.cell k j u hu
    have hlt := World.block_lt_of_cell? w _ hc
    have e := hG.block (slB v) hlt (fun e => h (Option.some.inj e))
    rw [← hc]
    unfold World.cell?
    simp only [e]
theorem SlT.one (k : SlT enc sz w v l) : v.oneCell' = true := by
  obtain ⟨a, h, _⟩ := k.form
  rw [h]; rfl
theorem OwT.one (k : OwT enc sz T w N v l) : v.oneCell' = true := k.sl.one
theorem SlT.cells (k : SlT enc sz w v l) : v.cells = #[v] := by
  obtain ⟨a, h, _⟩ := k.form
  rw [h]; rfl
end

/-- 'append(s, y...)', s a row of the call's own (or nil), and where the new row lies. -/
theorem Y_appendA {m : Nat} {v2 : Value} (hx : evF f x = v) (hy : evF f y = v2) (hT : elemI P t = some (e, sz, by_)) (hz : (zeroI P e).map (fun z => z.cells.size) = some sz) (hsz : 0 < sz)
    (ho : w.ownsRow N e sz v n xs) (hs : Sl w sz v2 m ys) (h10 : ys.all Value.oneCell' = true) (hN : N ≤ w.heap.size) (hb : (n + m) * by_ ≤ 140737488355328) (hm : n + m ≤ 9223372036854775807)
    (hK : ∀ v' w', w.grownBy w' v.ownBlock → w'.ownsRow N e sz v' (n + m) (xs ++ ys) → (v'.ownBlock = v.ownBlock ∨ v'.ownBlock = some w.heap.size) → K v' w') : Yd P ⟨d, .call ⟨.builtin .append, #[x, y], #[t, t]⟩, ty, ps, af, g⟩ f w K := by
  have h1 : ∀ u ∈ ys, u.oneCell' = true := fun u h => List.all_eq_true.1 h10 u h
  obtain ⟨z, hz, hzs⟩ := Option.map_eq_some_iff.1 hz
  unfold zeroI at hz
  obtain ⟨i, hi, hzz⟩ := Option.bind_eq_some_iff.1 hz
  unfold elemI at hT
  cases hun : P.underlying t with
  | none => simp [hun] at hT
  | some desc =>
    cases desc <;> simp [hun] at hT
    rename_i e'
    obtain ⟨i', hi', rfl, h3, rfl⟩ := hT
    obtain rfl : i' = i := by rw [hi] at hi'; exact (Option.some.inj hi').symm
    by_cases hm0 : m = 0
    · subst hm0
      have hys : ys = [] := List.eq_nil_of_length_eq_zero (by simpa using hs.len)
      subst hys
      have hrun : (Builtin.append_ #[t, t] ty #[v, v2]).run P w = .ok v w := by
        obtain ⟨a2, hv2, _⟩ := hs.form
        generalize slC v2 = c2 at hv2
        subst hv2
        rcases ho.2 with ⟨rfl, rfl⟩ | ⟨q, cap, cur, rfl, hg, hh, hnc, hcm, hcs, ht⟩
        · simp [Builtin.append_, run_underlying hun, sizeOf, typeInfo, hi, Builtin.lenOf, Builtin.firstCells]
          cases a2 <;> simp [loadCells, loadCellsFrom]
        · cases a2 <;> simp [Builtin.append_, run_underlying hun, sizeOf, typeInfo, hi, Builtin.lenOf, Builtin.firstCells, loadCells, loadCellsFrom, hnc, storeCells]
      refine .val (v := v) (w' := w) ?_ (hK v w (World.grownBy.refl w _) (by simpa using ho) (.inl rfl))
      simp [execOp, resolve, invoke, builtin, hx, hy, hrun]
    · have hv2 := hs.eqn (by omega)
      have hcell := hs.cell
      generalize slB v2 = B at *
      generalize slO v2 = O at *
      generalize slC v2 = C at *
      subst hv2
      obtain ⟨v', w', hr, h4, h5, _, h6⟩ := run_append_own_at (P := P) (w := w) N t ty e' i' z sz i'.bytes hun hi hzz h3 rfl hzs hsz v n xs ho ⟨B, O, none⟩ m C ys hs.len
        (fun j u hu => by rw [addr_add]; exact hcell j u hu) h1 (by simpa [maxLen] using hm) hb hN
      refine .val (v := v') (w' := w') ?_ (hK v' w' h5 h4 h6)
      simp [execOp, resolve, invoke, builtin, hx, hy, hr]
end

end Go.Proofs.YtnkaebjaeaecmaaDoor
