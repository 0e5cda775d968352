/-
  Maps of the call's own: what a map's block holds, as a list of keys and values; one law for each operation on maps; ranges over a map in any order.
-/
import Derived.Test.YtnkaebjaeaecmaaDoorMore
import Derived.Maps.RangeRun
import Derived.MapKept
namespace Go.Proofs.YtnkaebjaeaecmaaDoor
set_option linter.unusedVariables false
set_option linter.unusedSimpArgs false
open Go Go.RowKit
open Go.ChangeMaps (setBlock)

/-! ### Lists of keys and values -/
section
variable {α β : Type} [DecidableEq α]
end

/-! ### The keys' type -/
/-! ### What a map's block holds -/
def ents {α β : Type} (enc : α → Value) (encV : β → Value) (f : α → Nat) (l : List (α × β)) : List MapEntry := l.map fun p => ⟨enc p.1, encV p.2, f p.1⟩

/-- Block b is a map with these keys and values; f tells when a key was born. -/
structure MapF {α β : Type} (enc : α → Value) (encV : β → Value) (w : World) (b : Nat) (l : List (α × β)) (f : α → Nat) (clock : Nat) : Prop where
  heap : w.heap[b]? = some (.map (ents enc encV f l).toArray clock)
  born : ∀ p ∈ l, f p.1 < clock
  inj : ∀ p ∈ l, ∀ q ∈ l, f p.1 = f q.1 → p.1 = q.1
  nodup : (l.map (·.1)).Nodup
def MapT {α β : Type} (enc : α → Value) (encV : β → Value) (w : World) (b : Nat) (l : List (α × β)) : Prop := ∃ f clock, MapF enc encV w b l f clock

/-- A range over it has given out the keys 'seen', the last one first. -/
structure IterT {α β : Type} (enc : α → Value) (encV : β → Value) (w : World) (it b : Nat) (l : List (α × β)) (seen : List α) : Prop where
  out : ∃ f clock since c0 sn, MapF enc encV w b l f clock ∧ w.heap[it]? = some (.mapIter (some b) since sn c0) ∧ since ≤ c0 ∧ since ≤ clock ∧ (∀ p ∈ l, f p.1 < since) ∧ sn.toList = (seen.map f).reverse ∧ (seen = [] ∨ c0 = clock)
  sub : ∀ k ∈ seen, k ∈ l.map (·.1)
  nodup : seen.Nodup

section
variable {α β : Type} {enc : α → Value} {encV : β → Value} {w w' : World} {b it : Nat} {l : List (α × β)} {f : α → Nat} {clock : Nat} {seen : List α}

theorem MapF.lt (h : MapF enc encV w b l f clock) : b < w.heap.size := lt_of_block h.heap
theorem MapT.lt (h : MapT enc encV w b l) : b < w.heap.size := by obtain ⟨f, c, h⟩ := h; exact h.lt
theorem MapF.moved (h : MapF enc encV w b l f clock) (e : w'.heap[b]? = w.heap[b]?) : MapF enc encV w' b l f clock := ⟨by rw [e]; exact h.heap, h.born, h.inj, h.nodup⟩
theorem MapT.moved (h : MapT enc encV w b l) (e : w'.heap[b]? = w.heap[b]?) : MapT enc encV w' b l := by
  obtain ⟨f, c, h⟩ := h; exact ⟨f, c, h.moved e⟩
theorem MapT.grown {row : Option Nat} (k : MapT enc encV w b l) (h : w.grownBy w' row) (hne : some b ≠ row) : MapT enc encV w' b l := k.moved (h.block b k.lt hne)
theorem IterT.map (h : IterT enc encV w it b l seen) : MapT enc encV w b l := by
  obtain ⟨f, c, _, _, _, h, _⟩ := h.out; exact ⟨f, c, h⟩
theorem IterT.lt (h : IterT enc encV w it b l seen) : it < w.heap.size := by
  obtain ⟨_, _, _, _, _, _, h, _⟩ := h.out; exact lt_of_block h
theorem IterT.ltB (h : IterT enc encV w it b l seen) : b < w.heap.size := h.map.lt
theorem IterT.moved (h : IterT enc encV w it b l seen) (e : w'.heap[b]? = w.heap[b]?) (e2 : w'.heap[it]? = w.heap[it]?) : IterT enc encV w' it b l seen := by
  obtain ⟨f, c, s, c0, sn, h1, h2, r⟩ := h.out
  exact ⟨⟨f, c, s, c0, sn, h1.moved e, by rw [e2]; exact h2, r⟩, h.sub, h.nodup⟩
theorem IterT.grown {row : Option Nat} (k : IterT enc encV w it b l seen) (h : w.grownBy w' row) (hne : some b ≠ row) (hne2 : some it ≠ row) : IterT enc encV w' it b l seen :=
  k.moved (h.block b k.ltB hne) (h.block it k.lt hne2)
theorem MapT.nodup (h : MapT enc encV w b l) : (l.map (·.1)).Nodup := by obtain ⟨f, c, h⟩ := h; exact h.nodup
/-! #### blocks of other kinds are others -/
theorem At.ne_map {c : Array Value} {T : TypeId} {a : Nat} (h : At w a c T) (k : MapT enc encV w b l) : a ≠ b := by
  rintro rfl
  obtain ⟨f, c, k⟩ := k
  unfold At at h
  rw [k.heap] at h
  cases h
theorem At.ne_iter {c : Array Value} {T : TypeId} {a : Nat} (h : At w a c T) (k : IterT enc encV w it b l seen) : a ≠ it := by
  rintro rfl
  obtain ⟨_, _, _, _, _, _, h2, _⟩ := k.out
  unfold At at h
  rw [h2] at h
  cases h
theorem own_ne_map {N sz n : Nat} {T : TypeId} {v : Value} {xs : List Value} (h : w.ownsRow N T sz v n xs) (k : MapT enc encV w b l) : some b ≠ v.ownBlock := by
  intro e
  rcases h.2 with ⟨rfl, rfl⟩ | ⟨g, cap, cur, rfl, hg, hh, _⟩
  · simp [Value.ownBlock] at e
  · simp [Value.ownBlock] at e
    exact At.ne_map (T := T) (c := cur) (a := g) hh k e.symm
theorem own_ne_iter {N sz n : Nat} {T : TypeId} {v : Value} {xs : List Value} (h : w.ownsRow N T sz v n xs) (k : IterT enc encV w it b l seen) : some it ≠ v.ownBlock := by
  intro e
  rcases h.2 with ⟨rfl, rfl⟩ | ⟨g, cap, cur, rfl, hg, hh, _⟩
  · simp [Value.ownBlock] at e
  · simp [Value.ownBlock] at e
    exact At.ne_iter (T := T) (c := cur) (a := g) hh k e.symm
theorem IterT.ne_map {β' : Type} {α' : Type} {enc' : α' → Value} {encV' : β' → Value} {l' : List (α' × β')} {b' : Nat} (h : IterT enc encV w it b l seen) (k : MapT enc' encV' w b' l') : it ≠ b' := by
  rintro rfl
  obtain ⟨_, _, _, _, _, _, h2, _⟩ := h.out
  obtain ⟨f, c, k⟩ := k
  rw [k.heap] at h2
  cases h2

end

/-! ### One law for each operation -/
section
variable {α β : Type} [DecidableEq α] {enc : α → Value} {encV : β → Value} {S : Value → Prop}
variable {P : Program} {fr : Nat → Value} {w w' : World} {d : Option Nat} {ty : TypeId} {ps : String} {af : Array Edge} {g : Option (Nat × Bool)} {x y z : Operand}
variable {t kt et : TypeId} {b it : Nat} {l : List (α × β)} {K : Value → World → Prop} {k : α} {v : β}

/-! ### Ranges -/
end

theorem r_ext1_0 {P : Program} {f : Nat → Value} {w : World} {d : Option Nat} {ty : TypeId} {ps : String} {af : Array Edge} {g : Option (Nat × Bool)} {x : Operand} {v0 : Value} (h : evF f x = .tuple #[v0]) :
    (execOp (evF f) ⟨d, .extract x 0, ty, ps, af, g⟩).run P w = .ok (.value v0) w := by simp [execOp, h, Instr.extract]

/-! ### Keys -/
end Go.Proofs.YtnkaebjaeaecmaaDoor
