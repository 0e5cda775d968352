/-
  Maps of the call's own: what a map's block holds, as a list of keys and values; one law for each operation on maps; ranges over a map in any order.
-/
import Derived.Test.YtnkaebjaeaecmaaDoorMore
import Derived.Maps.RangeRun
import Derived.MapKept
namespace Go.Proofs.YtnkaebjaeaecmaaDoor
set_option linter.unusedVariables false
set_option linter.unusedSimpArgs false
open Go Go.RowKit
open Go.ChangeMaps (setBlock)

/-! ### Lists of keys and values -/
section
variable {α β : Type} [DecidableEq α]
def getL : List (α × β) → α → Option β
  | [], _ => none
  | (a, b) :: r, k => if a = k then some b else getL r k
def putL (l : List (α × β)) (k : α) (v : β) : List (α × β) := if k ∈ l.map (·.1) then l.map (fun p => if p.1 = k then (k, v) else p) else l ++ [(k, v)]
/-- A set of keys, with one key more. -/
def insK (l : List α) (k : α) : List α := if k ∈ l then l else l ++ [k]
def allT (l : List α) : List (α × Bool) := l.map fun a => (a, true)

theorem getL_none {l : List (α × β)} {k : α} : getL l k = none ↔ k ∉ l.map (·.1) := by
  induction l with
  | nil => simp [getL]
  | cons p r ih =>
    obtain ⟨a, b⟩ := p
    simp only [getL, List.map_cons, List.mem_cons, not_or]
    by_cases e : a = k
    · subst e; simp
    · simp only [if_neg e, ih]
      exact ⟨fun h => ⟨fun h2 => e h2.symm, h⟩, fun h => h.2⟩
theorem getL_some {l : List (α × β)} {k : α} {v : β} (hn : (l.map (·.1)).Nodup) : getL l k = some v ↔ (k, v) ∈ l := by
  induction l with
  | nil => simp [getL]
  | cons p r ih =>
    obtain ⟨a, b⟩ := p
    rw [List.map_cons, List.nodup_cons] at hn
    simp only [getL, List.mem_cons, Prod.mk.injEq]
    by_cases e : a = k
    · subst e
      simp only [if_true, Option.some.injEq, true_and]
      constructor
      · intro h; exact .inl h.symm
      · rintro (h | h)
        · exact h.symm
        · exact absurd (List.mem_map_of_mem (f := (·.1)) h) hn.1
    · rw [if_neg e, ih hn.2]
      constructor
      · intro h; exact .inr h
      · rintro (⟨h, _⟩ | h)
        · exact absurd h.symm e
        · exact h
theorem keys_putL (l : List (α × β)) (k : α) (v : β) : (putL l k v).map (·.1) = insK (l.map (·.1)) k := by
  unfold putL insK
  split
  · rw [List.map_map]
    refine List.map_congr_left fun p _ => ?_
    simp only [Function.comp]
    split
    · rename_i h; exact h.symm
    · rfl
  · simp
theorem allT_keys {α : Type} (l : List α) : (allT l).map (·.1) = l := by
  unfold allT
  rw [List.map_map]
  exact List.map_id l
theorem nodup_idx {γ : Type} {l : List γ} (hn : l.Nodup) {i j : Nat} {a : γ} (hi : l[i]? = some a) (hj : l[j]? = some a) : i = j := by
  have h := List.pairwise_iff_getElem.1 hn
  obtain ⟨hi', h1⟩ := List.getElem?_eq_some_iff.1 hi
  obtain ⟨hj', h2⟩ := List.getElem?_eq_some_iff.1 hj
  rcases Nat.lt_trichotomy i j with hlt | rfl | hlt
  · exact absurd (h1.trans h2.symm) (h i j hi' hj' hlt)
  · rfl
  · exact absurd (h2.trans h1.symm) (h j i hj' hi' hlt)
theorem allT_put (l : List α) (k : α) : putL (allT l) k true = allT (insK l k) := by
  unfold putL insK
  rw [allT_keys]
  split
  · unfold allT
    rw [List.map_map]
    refine List.map_congr_left fun a _ => ?_
    simp only [Function.comp]
    split
    · rename_i h; rw [h]
    · rfl
  · simp [allT]
theorem allT_get (l : List α) (k : α) : (getL (allT l) k).getD false = decide (k ∈ l) := by
  induction l with
  | nil => rfl
  | cons a r ih =>
    unfold allT at *
    simp only [List.map_cons, getL, List.mem_cons]
    by_cases e : a = k
    · subst e; simp
    · rw [if_neg e, ih, Bool.eq_iff_iff]
      simp only [decide_eq_true_eq]
      exact ⟨fun h => .inr h, fun h => h.resolve_left (fun h2 => e h2.symm)⟩
theorem mem_insK {l : List α} {k a : α} : a ∈ insK l k ↔ a ∈ l ∨ a = k := by
  unfold insK
  split
  · rename_i h
    exact ⟨.inl, fun h2 => h2.elim id fun e => e ▸ h⟩
  · simp
theorem nodup_insK {l : List α} (h : l.Nodup) (k : α) : (insK l k).Nodup := by
  unfold insK
  split
  · exact h
  · rename_i hk
    rw [List.nodup_append]
    exact ⟨h, by simp, fun a ha b hb => by simp at hb; subst hb; exact fun e => hk (e ▸ ha)⟩
theorem insK_len (l : List α) (k : α) : (insK l k).length ≤ l.length + 1 := by
  unfold insK
  split <;> simp
end

/-! ### The keys' type -/
/-- Values of S are keys of type k: they may be looked up, and are found where they are the same. -/
structure KeyOk (P : Program) (k : TypeId) (S : Value → Prop) : Prop where
  check : ∀ (w : World) (em : Bool) {v : Value}, S v → (Instr.checkKey em 10000 k v).run P w = .ok () w
  find : ∀ (w : World) {x : Value}, S x → ∀ es : List MapEntry, (∀ e ∈ es, S e.key) →
    ((Instr.findKey k x es).run P w = .ok none w ∧ ∀ e ∈ es, e.key ≠ x) ∨ ∃ j e, (Instr.findKey k x es).run P w = .ok (some (j, e.val)) w ∧ es[j]? = some e ∧ e.key = x
  stays : ∀ (w : World) {v : Value}, S v → (Instr.keyThatStays v v).run P w = .ok v w


theorem findAsking_spec {P : Program} {k : TypeId} {S : Value → Prop} (hE : ∀ (w : World) {a b : Value}, S a → S b → ∃ r, (Op.equal k a b).run P w = .ok r w ∧ (r = true ↔ a = b)) (w : World) {x : Value} (hx : S x) :
    ∀ (es : List MapEntry) (i : Nat), (∀ e ∈ es, S e.key) →
    ((Instr.findAsking k x es i).run P w = .ok none w ∧ ∀ e ∈ es, e.key ≠ x) ∨ ∃ j e, (Instr.findAsking k x es i).run P w = .ok (some (i + j, e.val)) w ∧ es[j]? = some e ∧ e.key = x
  | [], i, _ => .inl ⟨by simp [Instr.findAsking], by simp⟩
  | e :: es, i, h => by
    obtain ⟨r, h1, h2⟩ := hE w hx (h e (by simp))
    cases r with
    | true =>
      refine .inr ⟨0, e, ?_, rfl, (h2.1 rfl).symm⟩
      simp [Instr.findAsking, h1]
    | false =>
      have hne : e.key ≠ x := fun h => by have := h2.2 h.symm; cases this
      rcases findAsking_spec hE w hx es (i + 1) (fun e he => h e (by simp [he])) with ⟨g1, g2⟩ | ⟨j, e', g1, g2, g3⟩
      · refine .inl ⟨?_, fun e' he' => ?_⟩
        · simp [Instr.findAsking, h1, g1]
        · rcases List.mem_cons.1 he' with rfl | he'
          · exact hne
          · exact g2 e' he'
      · refine .inr ⟨j + 1, e', ?_, by simpa using g2, g3⟩
        simp [Instr.findAsking, h1, g1]
        omega

theorem findNow_spec' {desc : TypeDesc} {S : Value → Prop} (hN : ∀ a b, S a → S b → Instr.sameNow desc a b = none ∨ ∃ r, Instr.sameNow desc a b = some r ∧ (r = true ↔ a = b)) {x : Value} (hx : S x) :
    ∀ (es : List MapEntry) (i : Nat), (∀ e ∈ es, S e.key) → Instr.findNow desc x es i = none ∨ (Instr.findNow desc x es i = some none ∧ ∀ e ∈ es, e.key ≠ x) ∨ ∃ j e, Instr.findNow desc x es i = some (some (i + j, e.val)) ∧ es[j]? = some e ∧ e.key = x
  | [], i, _ => .inr (.inl ⟨rfl, by simp⟩)
  | e :: es, i, h => by
    rcases hN x e.key hx (h e (by simp)) with h1 | ⟨r, h1, h2⟩
    · left; simp [Instr.findNow, h1]
    · cases r with
      | true => exact .inr (.inr ⟨0, e, by simp [Instr.findNow, h1], rfl, (h2.1 rfl).symm⟩)
      | false =>
        have hne : e.key ≠ x := fun h => by have := h2.2 h.symm; cases this
        rcases findNow_spec' hN hx es (i + 1) (fun e he => h e (by simp [he])) with g | ⟨g1, g2⟩ | ⟨j, e', g1, g2, g3⟩
        · left; simp [Instr.findNow, h1, g]
        · refine .inr (.inl ⟨by simp [Instr.findNow, h1, g1], fun e' he' => ?_⟩)
          rcases List.mem_cons.1 he' with rfl | he'
          · exact hne
          · exact g2 e' he'
        · refine .inr (.inr ⟨j + 1, e', ?_, by simpa using g2, g3⟩)
          simp [Instr.findNow, h1, g1]
          omega

theorem keyOk_of {P : Program} {k : TypeId} {desc : TypeDesc} {S : Value → Prop} (hu : P.underlying k = some desc)
    (hE : ∀ (w : World) {a b : Value}, S a → S b → ∃ r, (Op.equal k a b).run P w = .ok r w ∧ (r = true ↔ a = b))
    (hN : ∀ a b, S a → S b → Instr.sameNow desc a b = none ∨ ∃ r, Instr.sameNow desc a b = some r ∧ (r = true ↔ a = b))
    (hC : ∀ (w : World) (em : Bool) {v : Value}, S v → (Instr.checkKey em 10000 k v).run P w = .ok () w)
    (hS : ∀ v, S v → Instr.sameBits 10000 v v = true) : KeyOk P k S := by
  refine ⟨hC, fun w x hx es hes => ?_, fun w v hv => by simp [Instr.keyThatStays, hS v hv]⟩
  rcases findNow_spec' hN hx es 0 hes with g | ⟨g1, g2⟩ | ⟨j, e', g1, g2, g3⟩
  · rcases findAsking_spec hE w hx es 0 hes with ⟨h1, h2⟩ | ⟨j, e, h1, h2, h3⟩
    · exact .inl ⟨by simp [Instr.findKey, run_underlying hu, g, h1], h2⟩
    · exact .inr ⟨j, e, by simpa [Instr.findKey, run_underlying hu, g] using h1, h2, h3⟩
  · exact .inl ⟨by simp [Instr.findKey, run_underlying hu, g1], g2⟩
  · exact .inr ⟨j, e', by simp [Instr.findKey, run_underlying hu, g1], g2, g3⟩

/-! ### What a map's block holds -/
def ents {α β : Type} (enc : α → Value) (encV : β → Value) (f : α → Nat) (l : List (α × β)) : List MapEntry := l.map fun p => ⟨enc p.1, encV p.2, f p.1⟩

/-- Block b is a map with these keys and values; f tells when a key was born. -/
structure MapF {α β : Type} (enc : α → Value) (encV : β → Value) (w : World) (b : Nat) (l : List (α × β)) (f : α → Nat) (clock : Nat) : Prop where
  heap : w.heap[b]? = some (.map (ents enc encV f l).toArray clock)
  born : ∀ p ∈ l, f p.1 < clock
  inj : ∀ p ∈ l, ∀ q ∈ l, f p.1 = f q.1 → p.1 = q.1
  nodup : (l.map (·.1)).Nodup
def MapT {α β : Type} (enc : α → Value) (encV : β → Value) (w : World) (b : Nat) (l : List (α × β)) : Prop := ∃ f clock, MapF enc encV w b l f clock

/-- A range over it has given out the keys 'seen', the last one first. -/
structure IterT {α β : Type} (enc : α → Value) (encV : β → Value) (w : World) (it b : Nat) (l : List (α × β)) (seen : List α) : Prop where
  out : ∃ f clock since c0 sn, MapF enc encV w b l f clock ∧ w.heap[it]? = some (.mapIter (some b) since sn c0) ∧ since ≤ c0 ∧ since ≤ clock ∧ (∀ p ∈ l, f p.1 < since) ∧ sn.toList = (seen.map f).reverse ∧ (seen = [] ∨ c0 = clock)
  sub : ∀ k ∈ seen, k ∈ l.map (·.1)
  nodup : seen.Nodup

section
variable {α β : Type} {enc : α → Value} {encV : β → Value} {w w' : World} {b it : Nat} {l : List (α × β)} {f : α → Nat} {clock : Nat} {seen : List α}

theorem MapF.lt (h : MapF enc encV w b l f clock) : b < w.heap.size := lt_of_block h.heap
theorem MapT.lt (h : MapT enc encV w b l) : b < w.heap.size := by obtain ⟨f, c, h⟩ := h; exact h.lt
theorem MapF.moved (h : MapF enc encV w b l f clock) (e : w'.heap[b]? = w.heap[b]?) : MapF enc encV w' b l f clock := ⟨by rw [e]; exact h.heap, h.born, h.inj, h.nodup⟩
theorem MapT.moved (h : MapT enc encV w b l) (e : w'.heap[b]? = w.heap[b]?) : MapT enc encV w' b l := by
  obtain ⟨f, c, h⟩ := h; exact ⟨f, c, h.moved e⟩
theorem Ext.mapT (h : Ext w w') (k : MapT enc encV w b l) : MapT enc encV w' b l := k.moved (Below.block h b k.lt)
theorem MapT.grown {row : Option Nat} (k : MapT enc encV w b l) (h : w.grownBy w' row) (hne : some b ≠ row) : MapT enc encV w' b l := k.moved (h.block b k.lt hne)
theorem IterT.map (h : IterT enc encV w it b l seen) : MapT enc encV w b l := by
  obtain ⟨f, c, _, _, _, h, _⟩ := h.out; exact ⟨f, c, h⟩
theorem IterT.lt (h : IterT enc encV w it b l seen) : it < w.heap.size := by
  obtain ⟨_, _, _, _, _, _, h, _⟩ := h.out; exact lt_of_block h
theorem IterT.ltB (h : IterT enc encV w it b l seen) : b < w.heap.size := h.map.lt
theorem IterT.moved (h : IterT enc encV w it b l seen) (e : w'.heap[b]? = w.heap[b]?) (e2 : w'.heap[it]? = w.heap[it]?) : IterT enc encV w' it b l seen := by
  obtain ⟨f, c, s, c0, sn, h1, h2, r⟩ := h.out
  exact ⟨⟨f, c, s, c0, sn, h1.moved e, by rw [e2]; exact h2, r⟩, h.sub, h.nodup⟩
theorem Ext.iterT (h : Ext w w') (k : IterT enc encV w it b l seen) : IterT enc encV w' it b l seen := k.moved (Below.block h b k.ltB) (Below.block h it k.lt)
theorem IterT.grown {row : Option Nat} (k : IterT enc encV w it b l seen) (h : w.grownBy w' row) (hne : some b ≠ row) (hne2 : some it ≠ row) : IterT enc encV w' it b l seen :=
  k.moved (h.block b k.ltB hne) (h.block it k.lt hne2)
theorem MapT.nodup (h : MapT enc encV w b l) : (l.map (·.1)).Nodup := by obtain ⟨f, c, h⟩ := h; exact h.nodup
theorem IterT.ne (h : IterT enc encV w it b l seen) : it ≠ b := by
  obtain ⟨f, c, s, c0, sn, h1, h2, _⟩ := h.out
  rintro rfl
  rw [h1.heap] at h2
  cases h2

/-! #### blocks of other kinds are others -/
theorem At.ne_map {c : Array Value} {T : TypeId} {a : Nat} (h : At w a c T) (k : MapT enc encV w b l) : a ≠ b := by
  rintro rfl
  obtain ⟨f, c, k⟩ := k
  unfold At at h
  rw [k.heap] at h
  cases h
theorem At.ne_iter {c : Array Value} {T : TypeId} {a : Nat} (h : At w a c T) (k : IterT enc encV w it b l seen) : a ≠ it := by
  rintro rfl
  obtain ⟨_, _, _, _, _, _, h2, _⟩ := k.out
  unfold At at h
  rw [h2] at h
  cases h
theorem own_ne_map {N sz n : Nat} {T : TypeId} {v : Value} {xs : List Value} (h : w.ownsRow N T sz v n xs) (k : MapT enc encV w b l) : some b ≠ v.ownBlock := by
  intro e
  rcases h.2 with ⟨rfl, rfl⟩ | ⟨g, cap, cur, rfl, hg, hh, _⟩
  · simp [Value.ownBlock] at e
  · simp [Value.ownBlock] at e
    exact At.ne_map (T := T) (c := cur) (a := g) hh k e.symm
theorem own_ne_iter {N sz n : Nat} {T : TypeId} {v : Value} {xs : List Value} (h : w.ownsRow N T sz v n xs) (k : IterT enc encV w it b l seen) : some it ≠ v.ownBlock := by
  intro e
  rcases h.2 with ⟨rfl, rfl⟩ | ⟨g, cap, cur, rfl, hg, hh, _⟩
  · simp [Value.ownBlock] at e
  · simp [Value.ownBlock] at e
    exact At.ne_iter (T := T) (c := cur) (a := g) hh k e.symm
theorem IterT.ne_map {β' : Type} {α' : Type} {enc' : α' → Value} {encV' : β' → Value} {l' : List (α' × β')} {b' : Nat} (h : IterT enc encV w it b l seen) (k : MapT enc' encV' w b' l') : it ≠ b' := by
  rintro rfl
  obtain ⟨_, _, _, _, _, _, h2, _⟩ := h.out
  obtain ⟨f, c, k⟩ := k
  rw [k.heap] at h2
  cases h2

theorem grownBy_setBlock {o : Obj} (w : World) (b : Nat) : w.grownBy (setBlock w b o) (some b) :=
  ⟨rfl, rfl, rfl, by simp [setBlock], fun i _ hi => by
    show (w.heap.setIfInBounds b o)[i]? = w.heap[i]?
    rw [Array.getElem?_setIfInBounds_ne (fun e => hi (by rw [e]))]⟩
theorem heap_setBlock_self {o : Obj} (h : b < w.heap.size) : (setBlock w b o).heap[b]? = some o := by
  show (w.heap.setIfInBounds b o)[b]? = _
  simp [h]
end

/-! ### One law for each operation -/
section
variable {α β : Type} [DecidableEq α] {enc : α → Value} {encV : β → Value} {S : Value → Prop}
variable {P : Program} {fr : Nat → Value} {w w' : World} {d : Option Nat} {ty : TypeId} {ps : String} {af : Array Edge} {g : Option (Nat × Bool)} {x y z : Operand}
variable {t kt et : TypeId} {b it : Nat} {l : List (α × β)} {K : Value → World → Prop} {k : α} {v : β}

theorem ents_get {α β : Type} {enc : α → Value} {encV : β → Value} {l : List (α × β)} {f : α → Nat} {j : Nat} : (ents enc encV f l)[j]? = (l[j]?).map fun p => ⟨enc p.1, encV p.2, f p.1⟩ := by simp [ents]

theorem isMap_spec (h : isMap P t = some (kt, et)) : P.underlying t = some (.map kt et) := by
  unfold isMap at h
  cases hu : P.underlying t with
  | none => simp [hu] at h
  | some desc =>
    cases desc <;> simp [hu] at h
    obtain ⟨rfl, rfl⟩ := h
    rfl

/-- Where a key is. -/
theorem find_map (KO : KeyOk P kt S) (hS : ∀ a, S (enc a)) (hi : ∀ a a', enc a = enc a' → a = a') {f : α → Nat} (hn : (l.map (·.1)).Nodup) (w : World) (k : α) :
    ((Instr.findKey kt (enc k) (ents enc encV f l)).run P w = .ok none w ∧ k ∉ l.map (·.1)) ∨ ∃ j v, (Instr.findKey kt (enc k) (ents enc encV f l)).run P w = .ok (some (j, encV v)) w ∧ l[j]? = some (k, v) ∧ getL l k = some v := by
  rcases KO.find w (hS k) (ents enc encV f l) (fun e he => by simp [ents] at he; obtain ⟨a, _, _, rfl⟩ := he; exact hS _) with ⟨h1, h2⟩ | ⟨j, e, h1, h2, h3⟩
  · refine .inl ⟨h1, fun hk => ?_⟩
    obtain ⟨p, hp, rfl⟩ := List.mem_map.1 hk
    exact h2 ⟨enc p.1, encV p.2, f p.1⟩ (List.mem_map.2 ⟨p, hp, rfl⟩) rfl
  · rw [ents_get] at h2
    obtain ⟨p, hp, rfl⟩ := Option.map_eq_some_iff.1 h2
    obtain ⟨a, v⟩ := p
    obtain rfl := hi _ _ h3
    exact .inr ⟨j, v, h1, hp, (getL_some hn).2 (List.mem_of_getElem? hp)⟩

theorem Y_makeMap {α β : Type} {enc : α → Value} {encV : β → Value} (hK : ∀ b w', b = w.heap.size → Ext w w' → MapT enc encV w' b ([] : List (α × β)) → K (.map (some b)) w') : Yd P ⟨d, .makeMap t none, ty, ps, af, g⟩ fr w K := by
  refine .val (w' := w.alloc (.map #[] 0)) ?_ (hK w.heap.size _ rfl (Ext.alloc w _) ⟨fun _ => 0, 0, ⟨heap_alloc_new w _, by simp, by simp, by simp⟩⟩)
  simp [execOp, Instr.makeMap, newObj, Sem.run]

theorem r_lookup {z0 : Value} {v0 : β} (hx : evF fr x = .map (some b)) (hy : evF fr y = enc k) (hT : isMap P t = some (kt, et)) (KO : KeyOk P kt S) (hS : ∀ a, S (enc a)) (hi : ∀ a a', enc a = enc a' → a = a')
    (hz : zeroI P et = some z0) (hz0 : z0 = encV v0) (hm : MapT enc encV w b l) :
    (execOp (evF fr) ⟨d, .lookup t x y false, ty, ps, af, g⟩).run P w = .ok (.value (encV ((getL l k).getD v0))) w := by
  subst hz0
  obtain ⟨f, clock, hm⟩ := hm
  unfold zeroI at hz
  obtain ⟨i, hi2, hzz⟩ := Option.bind_eq_some_iff.1 hz
  rcases find_map (P := P) (kt := kt) (encV := encV) KO hS hi (f := f) hm.nodup w k with ⟨h1, h2⟩ | ⟨j, v, h1, h2, h3⟩
  · rw [getL_none.2 h2]
    simp [execOp, hx, hy, Instr.lookup, run_underlying (isMap_spec hT), getObj, Sem.run, hm.heap, Result.andThen, KO.check w _ (hS k), h1, zeroValue, typeInfo, hi2, hzz]
  · rw [h3]
    simp [execOp, hx, hy, Instr.lookup, run_underlying (isMap_spec hT), getObj, Sem.run, hm.heap, Result.andThen, KO.check w _ (hS k), h1]

theorem r_lenM {α β : Type} {enc : α → Value} {encV : β → Value} {l : List (α × β)} (hx : evF fr x = .map (some b)) (hT : isMap P t = some (kt, et)) (hm : MapT enc encV w b l) :
    (execOp (evF fr) ⟨d, .call ⟨.builtin .len, #[x], #[t]⟩, ty, ps, af, g⟩).run P w = .ok (.value (.int .i64 (l.length : Int))) w := by
  obtain ⟨f, clock, hm⟩ := hm
  simp [execOp, resolve, invoke, builtin, hx, Builtin.len_, run_underlying (isMap_spec hT), getObj, Sem.run, hm.heap, goInt, Result.andThen, ents]

theorem ents_put_new {f : α → Nat} {clock : Nat} (hk : k ∉ l.map (·.1)) : (ents enc encV f l).toArray.push ⟨enc k, encV v, clock⟩ = (ents enc encV (fun a => if a = k then clock else f a) (putL l k v)).toArray := by
  have e1 : ∀ p ∈ l, p.1 ≠ k := fun p hp e => hk (e ▸ List.mem_map_of_mem (f := (·.1)) hp)
  unfold putL
  rw [if_neg hk]
  unfold ents
  rw [List.map_append]
  simp only [List.push_toArray, List.map_cons, List.map_nil, if_true]
  congr 2
  refine List.map_congr_left fun p hp => ?_
  rw [if_neg (e1 p hp)]

theorem ents_put_old {f : α → Nat} {j : Nat} {v0 : β} (hj : l[j]? = some (k, v0)) (hn : (l.map (·.1)).Nodup) (F : MapEntry → MapEntry) (hF : F ⟨enc k, encV v0, f k⟩ = ⟨enc k, encV v, f k⟩) :
    (ents enc encV f l).toArray.modify j F = (ents enc encV f (putL l k v)).toArray := by
  have hk : k ∈ l.map (·.1) := List.mem_map.2 ⟨_, List.mem_of_getElem? hj, rfl⟩
  unfold putL
  rw [if_pos hk]
  apply Array.ext'
  rw [Array.toList_modify]
  refine List.ext_getElem? fun i => ?_
  rw [List.getElem?_modify]
  simp only [ents_get, List.getElem?_map]
  by_cases e : j = i
  · subst e
    simp [hj, hF]
  · simp only [e, if_false]
    cases hi : l[i]? with
    | none => simp
    | some p =>
      have hne : p.1 ≠ k := fun hpk => by
        have h1 : (l.map (·.1))[i]? = some k := by rw [List.getElem?_map, hi]; simp [hpk]
        have h2 : (l.map (·.1))[j]? = some k := by rw [List.getElem?_map, hj]; rfl
        exact e (nodup_idx hn h2 h1)
      simp [hne]

theorem MapF.put_new {f : α → Nat} {clock : Nat} (hm : MapF enc encV w b l f clock) (hk : k ∉ l.map (·.1)) (v : β) :
    MapF enc encV (setBlock w b (.map ((ents enc encV f l).toArray.push ⟨enc k, encV v, clock⟩) (clock + 1))) b (putL l k v) (fun a => if a = k then clock else f a) (clock + 1) := by
  have e1 : ∀ p ∈ l, p.1 ≠ k := fun p hp e => hk (e ▸ List.mem_map_of_mem (f := (·.1)) hp)
  have hmem : ∀ p ∈ putL l k v, p ∈ l ∨ p = (k, v) := fun p hp => by
    unfold putL at hp
    rw [if_neg hk] at hp
    simpa using hp
  have hb2 : ∀ p ∈ putL l k v, (p ∈ l ∧ (if p.1 = k then clock else f p.1) = f p.1 ∧ f p.1 < clock) ∨ (p = (k, v) ∧ (if p.1 = k then clock else f p.1) = clock) := fun p hp => by
    rcases hmem p hp with h | h
    · exact .inl ⟨h, by rw [if_neg (e1 p h)], hm.born p h⟩
    · subst h; exact .inr ⟨rfl, by simp⟩
  refine ⟨?_, fun p hp => ?_, fun p hp q hq e => ?_, ?_⟩
  · rw [heap_setBlock_self hm.lt, ents_put_new hk]
  · rcases hb2 p hp with ⟨_, h1, h2⟩ | ⟨_, h1⟩ <;> simp only [h1] <;> omega
  · replace e : (if p.1 = k then clock else f p.1) = (if q.1 = k then clock else f q.1) := e
    rcases hb2 p hp with ⟨hp', h1, h2⟩ | ⟨rfl, h1⟩ <;> rcases hb2 q hq with ⟨hq', h3, h4⟩ | ⟨rfl, h3⟩
    · rw [h1, h3] at e; exact hm.inj p hp' q hq' e
    · rw [h1, h3] at e; omega
    · rw [h1, h3] at e; omega
    · rfl
  · rw [keys_putL]; exact nodup_insK hm.nodup k

theorem MapF.put_old {f : α → Nat} {clock j : Nat} {v0 : β} (hm : MapF enc encV w b l f clock) (hj : l[j]? = some (k, v0)) (F : MapEntry → MapEntry) (hF : F ⟨enc k, encV v0, f k⟩ = ⟨enc k, encV v, f k⟩) :
    MapF enc encV (setBlock w b (.map ((ents enc encV f l).toArray.modify j F) clock)) b (putL l k v) f clock := by
  have hk : k ∈ l.map (·.1) := List.mem_map.2 ⟨_, List.mem_of_getElem? hj, rfl⟩
  have hkeys : (putL l k v).map (·.1) = l.map (·.1) := by rw [keys_putL, insK, if_pos hk]
  have hmem : ∀ p ∈ putL l k v, ∃ q ∈ l, q.1 = p.1 := fun p hp => by
    have : p.1 ∈ (putL l k v).map (·.1) := List.mem_map_of_mem hp
    rw [hkeys] at this
    obtain ⟨q, hq, e⟩ := List.mem_map.1 this
    exact ⟨q, hq, e⟩
  refine ⟨?_, fun p hp => ?_, fun p hp q hq e => ?_, ?_⟩
  · rw [heap_setBlock_self hm.lt, ents_put_old hj hm.nodup F hF]
  · obtain ⟨q, hq, e⟩ := hmem p hp; rw [← e]; exact hm.born q hq
  · obtain ⟨p', hp', e1⟩ := hmem p hp
    obtain ⟨q', hq', e2⟩ := hmem q hq
    rw [← e1, ← e2] at e ⊢
    exact hm.inj p' hp' q' hq' e
  · rw [hkeys]; exact hm.nodup

/-- 'm[k] = v'. -/
theorem Y_mapUpdate (hx : evF fr x = .map (some b)) (hy : evF fr y = enc k) (hz : evF fr z = encV v) (hT : isMap P t = some (kt, et)) (KO : KeyOk P kt S) (hS : ∀ a, S (enc a)) (hi : ∀ a a', enc a = enc a' → a = a') (hm : MapT enc encV w b l)
    (hK : ∀ w', w.grownBy w' (some b) → MapT enc encV w' b (putL l k v) → K undef w') : Yd P ⟨d, .mapUpdate t x y z, ty, ps, af, g⟩ fr w K := by
  obtain ⟨f, clock, hm⟩ := hm
  rcases find_map (P := P) (kt := kt) (encV := encV) KO hS hi (f := f) hm.nodup w k with ⟨h1, h2⟩ | ⟨j, v0, h1, h2, h3⟩
  · refine .skip ?_ (hK _ (grownBy_setBlock w b) ⟨_, _, hm.put_new h2 v⟩)
    have hg := fun o => MapKept.run_setObj_map (P := P) o hm.heap
    simp only [execOp, hx, hy, hz, Instr.mapUpdate, Sem.run_bind, run_underlying (isMap_spec hT), Result.andThen_ok, MapKept.run_getObj_map hm.heap, KO.check w _ (hS k), h1, hg]
    rfl
  · have hF := hm.put_old h2 (v := v) (fun e => ⟨enc k, encV v, e.born⟩) rfl
    refine .skip ?_ (hK _ (grownBy_setBlock w b) ⟨_, _, hF⟩)
    have hg := fun o => MapKept.run_setObj_map (P := P) o hm.heap
    have hkey : (((ents enc encV f l).toArray[j]?).map (·.key)).getD (enc k) = enc k := by simp [ents_get, h2]
    simp only [execOp, hx, hy, hz, Instr.mapUpdate, Sem.run_bind, run_underlying (isMap_spec hT), Result.andThen_ok, MapKept.run_getObj_map hm.heap, KO.check w _ (hS k), h1, hkey, KO.stays w (hS k), hg]
    rfl

/-- Between an entry's place and what is stored in it: the entry of k has this stamp. -/
structure MapP (enc : α → Value) (encV : β → Value) (w : World) (b : Nat) (l : List (α × β)) (k : α) (stamp : Nat) : Prop where
  out : ∃ (l2 : List (α × β)) (f : α → Nat) (clock j : Nat) (v0 : β), MapF enc encV w b l2 f clock ∧ l2[j]? = some (k, v0) ∧ f k = stamp ∧ ∀ v, putL l2 k v = putL l k v

theorem Ext.mapP {st : Nat} (h : Ext w w') (m : MapP enc encV w b l k st) : MapP enc encV w' b l k st := by
  obtain ⟨l2, f, c, j, v0, h1, r⟩ := m.out
  exact ⟨⟨l2, f, c, j, v0, h1.moved (Below.block h b h1.lt), r⟩⟩

theorem putL_put (l : List (α × β)) (k : α) (v v' : β) : putL (putL l k v) k v' = putL l k v' := by
  have hk : k ∈ (putL l k v).map (·.1) := by rw [keys_putL, mem_insK]; exact .inr rfl
  rw [putL, if_pos hk]
  unfold putL
  split
  · rw [List.map_map]
    refine List.map_congr_left fun p _ => ?_
    simp only [Function.comp]
    by_cases e : p.1 = k <;> simp [e]
  · rename_i h
    have e1 : ∀ p ∈ l, p.1 ≠ k := fun p hp e => h (e ▸ List.mem_map_of_mem (f := (·.1)) hp)
    rw [List.map_append]
    simp only [List.map_cons, List.map_nil, if_true]
    congr 1
    conv => rhs; rw [← List.map_id l]
    refine List.map_congr_left fun p hp => ?_
    simp [e1 p hp]

theorem Y_mapEntry {z0 : Value} {v0 : β} (hx : evF fr x = .map (some b)) (hy : evF fr y = enc k) (hT : isMap P t = some (kt, et)) (KO : KeyOk P kt S) (hS : ∀ a, S (enc a)) (hi : ∀ a a', enc a = enc a' → a = a')
    (hz : zeroI P et = some z0) (hz0 : z0 = encV v0) (hm : MapT enc encV w b l)
    (hK : ∀ st w', w.grownBy w' (some b) → MapP enc encV w' b l k st → K (.tuple #[encV ((getL l k).getD v0), .int .i64 (st : Int)]) w') : Yd P ⟨d, .mapEntry t x y, ty, ps, af, g⟩ fr w K := by
  subst hz0
  obtain ⟨f, clock, hm⟩ := hm
  unfold zeroI at hz
  obtain ⟨i, hi2, hzz⟩ := Option.bind_eq_some_iff.1 hz
  have hg := fun o => MapKept.run_setObj_map (P := P) o hm.heap
  rcases find_map (P := P) (kt := kt) (encV := encV) KO hS hi (f := f) hm.nodup w k with ⟨h1, h2⟩ | ⟨j, v, h1, h2, h3⟩
  · have hm2 := hm.put_new h2 v0
    have hj : (putL l k v0)[l.length]? = some (k, v0) := by unfold putL; rw [if_neg h2]; simp
    have := hK clock _ (grownBy_setBlock w b) ⟨⟨putL l k v0, _, _, l.length, v0, hm2, hj, by simp, fun v => putL_put l k v0 v⟩⟩
    rw [getL_none.2 h2] at this
    refine .val ?_ this
    simp only [execOp, hx, hy, Instr.mapEntry, Sem.run_bind, run_underlying (isMap_spec hT), Result.andThen_ok, MapKept.run_getObj_map hm.heap, KO.check w _ (hS k), h1, zeroValue, typeInfo]
    simp [hi2, hzz, hg, goInt, setBlock]
  · have hm2 := hm.put_old h2 (v := v) (fun e => ⟨enc k, e.val, e.born⟩) rfl
    have hl2 : putL l k v = l := by
      have hk : k ∈ l.map (·.1) := List.mem_map.2 ⟨_, List.mem_of_getElem? h2, rfl⟩
      unfold putL
      rw [if_pos hk]
      conv => rhs; rw [← List.map_id l]
      refine List.map_congr_left fun p hp => ?_
      by_cases e : p.1 = k
      · obtain ⟨a, u⟩ := p
        obtain rfl : a = k := e
        have := (getL_some hm.nodup).2 hp
        rw [h3] at this
        cases this
        simp
      · simp [e]
    rw [hl2] at hm2
    have := hK (f k) _ (grownBy_setBlock w b) ⟨⟨l, _, _, j, v, hm2, h2, rfl, fun v => rfl⟩⟩
    rw [h3] at this
    refine .val ?_ this
    have hkey : (((ents enc encV f l).toArray[j]?).map (·.key)).getD (enc k) = enc k := by simp [ents_get, h2]
    have hborn : (((ents enc encV f l).toArray[j]?).map (fun x => ((x.born : Nat) : Int))).getD 0 = (f k : Int) := by simp [ents_get, h2]
    simp only [execOp, hx, hy, Instr.mapEntry, Sem.run_bind, run_underlying (isMap_spec hT), Result.andThen_ok, MapKept.run_getObj_map hm.heap, KO.check w _ (hS k), h1, hkey, hborn, KO.stays w (hS k), hg]
    rfl

theorem Y_entryStore {st : Nat} (hx : evF fr x = .map (some b)) (hy : evF fr y = .int .i64 (st : Int)) (hz : evF fr z = encV v) (hm : MapP enc encV w b l k st)
    (hK : ∀ w', w.grownBy w' (some b) → MapT enc encV w' b (putL l k v) → K undef w') : Yd P ⟨d, .entryStore t x y z, ty, ps, af, g⟩ fr w K := by
  obtain ⟨l2, f, clock, j, v0, hm2, hj, rfl, hp⟩ := hm.out
  have hg := fun o => MapKept.run_setObj_map (P := P) o hm2.heap
  have hF := hm2.put_old hj (v := v) (fun e => { e with val := encV v }) rfl
  rw [hp] at hF
  refine .skip ?_ (hK _ (grownBy_setBlock w b) ⟨_, _, hF⟩)
  have hfind : (ents enc encV f l2).toArray.findIdx? (fun e => (e.born : Int) == (f k : Int)) = some j := by
    rw [Array.findIdx?_eq_some_iff_getElem]
    have hjl : j < l2.length := (List.getElem?_eq_some_iff.1 hj).1
    have hjv : l2[j] = (k, v0) := (List.getElem?_eq_some_iff.1 hj).2
    refine ⟨by simpa [ents] using hjl, ?_, fun i hi => ?_⟩
    · simp [ents, hjv]
    · have hil : i < l2.length := Nat.lt_trans hi hjl
      simp only [ents, List.getElem_toArray, List.getElem_map, beq_iff_eq]
      intro e
      have e2 : f l2[i].1 = f l2[j].1 := by rw [hjv]; exact_mod_cast e
      have e3 := hm2.inj _ (List.getElem_mem hil) _ (List.getElem_mem hjl) e2
      have h8 : (l2.map (·.1))[i]? = some (l2[i].1) := by simp [hil]
      have h9 : (l2.map (·.1))[j]? = some (l2[i].1) := by rw [e3]; simp [hjl]
      have := nodup_idx hm2.nodup h8 h9
      omega
  simp only [execOp, hx, hy, hz, Instr.entryStore, Sem.run_bind, Result.andThen_ok, MapKept.run_getObj_map hm2.heap, asInt, asIntOf]
  have hfind2 : (ents enc encV f l2).findIdx? (fun e => (e.born : Int) == (f k : Int)) = some j := by simpa using hfind
  simp [hfind2, hg, setBlock]

/-! ### Ranges -/
theorem Y_range {α β : Type} {enc : α → Value} {encV : β → Value} {l : List (α × β)} (hx : evF fr x = .map (some b)) (hT : isMap P t = some (kt, et)) (hm : MapT enc encV w b l)
    (hK : ∀ it w', it = w.heap.size → Ext w w' → IterT enc encV w' it b l [] → K (.pointer (some ⟨it, 0, none⟩)) w') : Yd P ⟨d, .range t x, ty, ps, af, g⟩ fr w K := by
  obtain ⟨f, clock, hm⟩ := hm
  have hE := Ext.alloc w (.mapIter (some b) clock #[] clock)
  refine .val ?_ (hK w.heap.size _ rfl hE ⟨⟨f, clock, clock, clock, #[], hm.moved (Below.block hE b hm.lt), heap_alloc_new w _, Nat.le_refl _, Nat.le_refl _, hm.born, by simp, .inl rfl⟩, by simp, by simp⟩)
  simp only [execOp, hx, Instr.range, Sem.run_bind, run_underlying (isMap_spec hT), Result.andThen_ok, MapKept.run_getObj_map hm.heap]
  simp [newObj, Sem.run]

theorem Y_next {seen : List α} (hx : evF fr x = .pointer (some ⟨it, 0, none⟩)) (hm : IterT enc encV w it b l seen)
    (hK0 : (∀ p ∈ l, p.1 ∈ seen) → K (.tuple #[.bool false]) w)
    (hK : ∀ k v w', (k, v) ∈ l → k ∉ seen → w.grownBy w' (some it) → IterT enc encV w' it b l (k :: seen) → K (.tuple #[.bool true, enc k, encV v]) w') : Yd P ⟨d, .next x false, ty, ps, af, g⟩ fr w K := by
  obtain ⟨f, clock, since, c0, sn, h1, h2, h3, h3', h4, h5, h6⟩ := hm.out
  have hsn : ∀ p ∈ l, (sn.contains (f p.1) = true ↔ p.1 ∈ seen) := fun p hp => by
    rw [Array.contains_iff_mem, ← Array.mem_toList_iff, h5, List.mem_reverse, List.mem_map]
    constructor
    · rintro ⟨a, ha, e⟩
      obtain ⟨q, hq, rfl⟩ := List.mem_map.1 (hm.sub a ha)
      rw [← h1.inj q hq p hp e]; exact ha
    · intro h; exact ⟨_, h, rfl⟩
  have hleft : ∀ e, e ∈ (leftOf (ents enc encV f l).toArray sn).toList ↔ ∃ p ∈ l, e = ⟨enc p.1, encV p.2, f p.1⟩ ∧ p.1 ∉ seen := fun e => by
    unfold leftOf
    simp only [Array.toList_filter, List.mem_filter, ents, List.mem_map]
    constructor
    · rintro ⟨⟨p, hp, rfl⟩, h⟩
      refine ⟨p, hp, rfl, fun hs => ?_⟩
      have := (hsn p hp).2 hs
      replace h : (!sn.contains (f p.1)) = true := h
      rw [this] at h
      cases h
    · rintro ⟨p, hp, rfl, hs⟩
      refine ⟨⟨p, hp, rfl⟩, ?_⟩
      have : sn.contains (f p.1) = false := Bool.eq_false_iff.2 fun h => hs ((hsn p hp).1 h)
      show (!sn.contains (f p.1)) = true
      rw [this]; rfl
  rcases run_next_at (P := P) w ty it b since c0 sn (ents enc encV f l).toArray clock h2 h1.heap (fun e he => by simp only [ents, List.mem_map] at he; obtain ⟨p, hp, rfl⟩ := he; exact h4 p hp) h3 with ⟨g1, g2⟩ | ⟨e, he, w1, hw1, g2⟩
  · refine .val (w' := w) (v := .tuple #[.bool false]) (by simp [execOp, hx, g2]) (hK0 fun p hp => ?_)
    refine Decidable.byContradiction fun hs => ?_
    have := (hleft ⟨enc p.1, encV p.2, f p.1⟩).2 ⟨p, hp, rfl, hs⟩
    have h0 : (leftOf (ents enc encV f l).toArray sn).toList = [] := List.eq_nil_of_length_eq_zero (by simpa using g1)
    rw [h0] at this
    cases this
  · obtain ⟨p, hp, rfl, hs⟩ := (hleft e).1 he
    have hw : w1.heap = w.heap ∧ w1.os = w.os ∧ w1.tape = w.tape ∧ w1.output = w.output := by rcases hw1 with rfl | rfl <;> exact ⟨rfl, rfl, rfl, rfl⟩
    have hne := hm.ne
    have hg : w.grownBy (setBlock w1 it (.mapIter (some b) since (sn.push (f p.1)) clock)) (some it) :=
      ⟨hw.2.1, hw.2.2.1, hw.2.2.2, by simp [setBlock, hw.1], fun i hi hne => by
        show (w1.heap.setIfInBounds it _)[i]? = _
        rw [Array.getElem?_setIfInBounds_ne (fun e => hne (by rw [e])), hw.1]⟩
    refine .val (by simp [execOp, hx, g2]) (hK p.1 p.2 _ hp hs hg ⟨⟨f, clock, since, clock, sn.push (f p.1), h1.moved (hg.block b h1.lt (fun e => hne (Option.some.inj e).symm)), ?_, h3', h3', h4, by simp [h5], .inr rfl⟩, ?_, ?_⟩)
    · refine heap_setBlock_self ?_
      rw [hw.1]; exact hm.lt
    · intro a ha
      rcases List.mem_cons.1 ha with rfl | ha
      · exact List.mem_map_of_mem hp
      · exact hm.sub a ha
    · exact List.nodup_cons.2 ⟨hs, hm.nodup⟩

theorem r_entry {α β : Type} {enc : α → Value} {encV : β → Value} {l : List (α × β)} {k : α} {v : β} {seen : List α} (hx : evF fr x = .pointer (some ⟨it, 0, none⟩)) (hm : IterT enc encV w it b l (k :: seen)) (hk : (k, v) ∈ l) :
    (execOp (evF fr) ⟨d, .entry x, ty, ps, af, g⟩).run P w = .ok (.value (.tuple #[enc k, encV v])) w := by
  obtain ⟨f, clock, since, c0, sn, h1, h2, h3, h3', h4, h5, h6⟩ := hm.out
  obtain rfl : c0 = clock := by rcases h6 with h6 | h6; · cases h6
                                · exact h6
  have e1 : sn = (List.reverse (seen.map f)).toArray.push (f k) := by
    apply Array.ext'
    rw [h5]; simp
  rw [e1] at h2
  have hr := run_entry_at (P := P) w it b since _ (ents enc encV f l).toArray c0 ⟨enc k, encV v, f k⟩ h2 h1.heap (List.mem_map.2 ⟨_, hk, rfl⟩) (by
    have : (ents enc encV f l).toArray.toList.map (·.born) = (l.map (·.1)).map f := by simp [ents]
    rw [this]
    refine List.pairwise_map.2 (h1.nodup.imp_of_mem fun {a c} ha hc hne e => ?_)
    obtain ⟨p, hp, rfl⟩ := List.mem_map.1 ha
    obtain ⟨q, hq, rfl⟩ := List.mem_map.1 hc
    exact hne (h1.inj p hp q hq e))
  simp [execOp, hx, hr]
end


theorem r_ext1_0 {P : Program} {f : Nat → Value} {w : World} {d : Option Nat} {ty : TypeId} {ps : String} {af : Array Edge} {g : Option (Nat × Bool)} {x : Operand} {v0 : Value} (h : evF f x = .tuple #[v0]) :
    (execOp (evF f) ⟨d, .extract x 0, ty, ps, af, g⟩).run P w = .ok (.value v0) w := by simp [execOp, h, Instr.extract]

/-! ### Keys -/
def keyC (c : Cb) : Value := .agg #[.int .u8 (c.m : Int), .int .u8 (c.v : Int)]
def keyR (r : Rw) : Value := .agg #[.int .u8 (r.c.m : Int), .int .u8 (r.c.v : Int), .int .u8 (r.o : Int)]
def keyI (z : Int) : Value := .int .i64 z
theorem keyC_inj (a b : Cb) (h : keyC a = keyC b) : a = b := by
  obtain ⟨m, v⟩ := a
  obtain ⟨m', v'⟩ := b
  simp only [keyC, Value.agg.injEq, Array.mk.injEq, List.cons.injEq, Value.int.injEq, true_and, and_true] at h
  obtain ⟨h1, h2⟩ := h
  simp only [Cb.mk.injEq]
  omega
theorem keyR_inj (a b : Rw) (h : keyR a = keyR b) : a = b := by
  obtain ⟨⟨m, v⟩, o⟩ := a
  obtain ⟨⟨m', v'⟩, o'⟩ := b
  simp only [keyR, Value.agg.injEq, Array.mk.injEq, List.cons.injEq, Value.int.injEq, true_and, and_true] at h
  obtain ⟨h1, h2, h3⟩ := h
  simp only [Rw.mk.injEq, Cb.mk.injEq]
  omega
theorem keyI_inj (a b : Int) (h : keyI a = keyI b) : a = b := by
  simpa [keyI] using h
theorem equal_of_andThen {P : Program} {w : World} {s : Sem Bool} {r : Bool} (h : ((s.run P w).andThen (fun b w' => Result.ok (Value.bool b) w')).andThen (fun a w' => Result.ok (Next.value a) w') = .ok (.value (.bool r)) w) : s.run P w = .ok r w := by
  cases hr : s.run P w <;> rw [hr] at h <;> simp [Result.andThen] at h
  obtain ⟨rfl, rfl⟩ := h
  rfl
theorem equal_agg {P : Program} {w : World} {t : TypeId} {A B : Array Value} {r : Bool} (hg : P.eqGuardType P.depth t = false)
    (h : (execOp (evF fun _ => undef) ⟨none, .binOp .eql t (.const (.agg A)) (.const (.agg B)) 0, 0, "", #[], none⟩).run P w = .ok (.value (.bool r)) w) : (Op.equal t (.agg A) (.agg B)).run P w = .ok r w := by
  have e : ∀ v : Value, evF (fun _ => undef) (.const v) = v := fun _ => rfl
  simp only [execOp, e, Sem.run_bind, run_eqGuard_agg _ _ _ _ _ _ _ hg, Result.andThen_ok, run_eql_struct] at h
  refine equal_of_andThen (P := P) (w := w) (s := Op.equal t (.agg A) (.agg B)) (r := r) ?_
  simpa [Op.equal, Op.maxDepth] using h

end Go.Proofs.YtnkaebjaeaecmaaDoor
