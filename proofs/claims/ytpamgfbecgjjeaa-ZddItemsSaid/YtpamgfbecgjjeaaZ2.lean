/-
  The memory of an arena, and what a deed with it leaves as it was; outcomes of deeds. No program in it.
-/
import Derived.Test.YtpamgfbecgjjeaaZ1
import Derived.Test.YtpamgfbecgjjeaaEdit
namespace Go.Proofs.Ytpamgfbecgjjeaa
set_option linter.unusedVariables false
set_option linter.unusedSimpArgs false
open Go Go.RowKit

/-! ### The map of ids -/
def idsL (ns : List Nd) : List (Nd × Int) := ns.zipIdx.map fun p => (p.1, ((p.2 + 2 : Nat) : Int))
theorem idsL_keys (ns : List Nd) : (idsL ns).map (·.1) = ns := by
  unfold idsL
  rw [List.map_map]
  exact List.zipIdx_map_fst 0 ns
theorem idsL_len (ns : List Nd) : (idsL ns).length = ns.length := by unfold idsL; simp
theorem idsL_snoc (ns : List Nd) (n : Nd) : idsL (ns ++ [n]) = idsL ns ++ [(n, ((ns.length + 2 : Nat) : Int))] := by
  unfold idsL
  rw [List.zipIdx_append, List.map_append]
  simp
theorem idsL_put {ns : List Nd} {n : Nd} (h : n ∉ ns) : putL (idsL ns) n ((ns.length + 2 : Nat) : Int) = idsL (ns ++ [n]) := by
  unfold putL
  rw [idsL_keys, if_neg h, idsL_snoc]
theorem idsL_some {ns : List Nd} (hn : ns.Nodup) {n : Nd} {v : Int} (h : getL (idsL ns) n = some v) : ∃ i, i < ns.length ∧ ns.getD i nd0 = n ∧ v = ((i + 2 : Nat) : Int) := by
  have hm := (getL_some (by rw [idsL_keys]; exact hn)).1 h
  unfold idsL at hm
  obtain ⟨p, hp, e⟩ := List.mem_map.1 hm
  simp only [Prod.mk.injEq] at e
  obtain ⟨e1, e2⟩ := e
  have h2 := List.mem_zipIdx hp
  refine ⟨p.2, by omega, ?_, e2.symm⟩
  rw [List.getD_eq_getElem?_getD, List.getElem?_eq_getElem (by omega), ← e1]
  have := h2.2.2
  simp only [Nat.sub_zero] at this
  simp [this]
theorem idsL_none {ns : List Nd} {n : Nd} (h : getL (idsL ns) n = none) : n ∉ ns := by
  have := getL_none.1 h
  rwa [idsL_keys] at this

/-! ### What a deed leaves as it was -/
/-- All old blocks are as they were, but for those of xs and those of type Tn, from block N on. -/
structure Dx (Tn : TypeId) (N : Nat) (xs : List Nat) (w w' : World) : Prop where
  os : w'.os = w.os
  tape : w'.tape = w.tape
  output : w'.output = w.output
  size : w.heap.size ≤ w'.heap.size
  block : ∀ k, k < w.heap.size → (k < N ∨ (k ∉ xs ∧ ∀ c fr, w.heap[k]? ≠ some (.cells c Tn fr))) → w'.heap[k]? = w.heap[k]?

section
variable {Tn T : TypeId} {N : Nat} {xs : List Nat} {w w' w'' : World}
theorem Dx.refl : Dx Tn N xs w w := ⟨rfl, rfl, rfl, Nat.le_refl _, fun _ _ _ => rfl⟩
theorem Dx.trans (h : Dx Tn N xs w w') (k : Dx Tn N xs w' w'') : Dx Tn N xs w w'' := by
  refine ⟨k.os.trans h.os, k.tape.trans h.tape, k.output.trans h.output, Nat.le_trans h.size k.size, fun j hj hc => ?_⟩
  have e := h.block j hj hc
  rw [k.block j (Nat.lt_of_lt_of_le hj h.size) (hc.imp id fun ⟨a, b⟩ => ⟨a, fun c fr => by rw [e]; exact b c fr⟩), e]
theorem Dx.ext (h : Ext w w') : Dx Tn N xs w w' := ⟨Below.os h, Below.tape h, Below.output h, Below.size h, fun k hk _ => Below.block h k hk⟩
theorem Dx.grown {b : Nat} (h : w.grownBy w' (some b)) (hb : b ∈ xs) (hN : N ≤ b) : Dx Tn N xs w w' := by
  refine ⟨h.os, h.tape, h.output, h.size, fun k hk hc => h.block k hk fun e => ?_⟩
  cases e
  rcases hc with hc | ⟨hc, _⟩
  · omega
  · exact hc hb
theorem Dx.row {α : Type} {enc : α → List Value} {sz : Nat} {v : Value} {l : List α} (k : OwT enc sz Tn w N v l) (h : w.grownBy w' v.ownBlock) : Dx Tn N xs w w' := by
  refine ⟨h.os, h.tape, h.output, h.size, fun j hj hc => h.block j hj fun e => ?_⟩
  obtain ⟨_, h2 | ⟨g, cap, cur, h3, hg, hh, _⟩⟩ := k
  · rw [h2.1] at e; cases e
  · rw [h3] at e
    obtain rfl : j = g := Option.some.inj e
    rcases hc with hc | ⟨_, hc⟩
    · omega
    · exact hc _ _ hh
theorem Dx.mono {ys : List Nat} (h : Dx Tn N xs w w') (hs : ∀ x, x ∈ xs → x ∈ ys) : Dx Tn N ys w w' := ⟨h.os, h.tape, h.output, h.size, fun k hk hc => h.block k hk (hc.imp id fun ⟨a, b⟩ => ⟨fun q => a (hs k q), b⟩)⟩
/-- A block that was not there at first is no loss. -/
theorem Dx.new {b : Nat} (h : Dx Tn N xs w w') (hb : w.heap.size ≤ b) (k : Dx Tn N (b :: xs) w' w'') : Dx Tn N xs w w'' := by
  refine ⟨k.os.trans h.os, k.tape.trans h.tape, k.output.trans h.output, Nat.le_trans h.size k.size, fun j hj hc => ?_⟩
  have e := h.block j hj hc
  rw [k.block j (Nat.lt_of_lt_of_le hj h.size) (hc.imp id fun ⟨a, q⟩ => ⟨fun m => (List.mem_cons.1 m).elim (fun e => by omega) a, fun c fr => by rw [e]; exact q c fr⟩), e]
theorem Below.dx {B : Nat} {w0 : World} (hB : Go.RowKit.Below B w0 w) (hN : B ≤ N) (hs : B ≤ w0.heap.size) (h : Dx Tn N xs w w') : Go.RowKit.Below B w0 w' :=
  ⟨h.os.trans hB.os, h.tape.trans hB.tape, h.output.trans hB.output, Nat.le_trans hB.size h.size, fun k hk => (h.block k (by have := hB.size; omega) (.inl (by omega))).trans (hB.block k hk)⟩
end

/-! ### An arena -/
structure Dia (Ta Tn : TypeId) (N ba bm R : Nat) (w : World) (ns : List Nd) : Prop where
  out : ∃ nv, At w ba #[.int .i64 (R : Int), nv, .map (some bm)] Ta ∧ OwT encN 3 Tn w N nv ns
  hm : MapT keyN keyI w bm (idsL ns)
  la : N ≤ ba
  lm : N ≤ bm
  wf : Wf ns
  room : ns.length ≤ R
  top : R ≤ 20000

section
variable {Ta Tn T T' : TypeId} {N N' ba bm R b sz : Nat} {xs : List Nat} {w w' W : World} {ns : List Nd} {c : Array Value} {v : Value}
theorem Dia.ext (h : Ext w w') (k : Dia Ta Tn N ba bm R w ns) : Dia Ta Tn N ba bm R w' ns := by
  obtain ⟨nv, h1, h2⟩ := k.out
  exact ⟨⟨nv, h.at h1, h.ow h2⟩, h.mapT k.hm, k.la, k.lm, k.wf, k.room, k.top⟩
theorem Dia.mono (k : Dia Ta Tn N ba bm R w ns) (h : N' ≤ N) : Dia Ta Tn N' ba bm R w ns := by
  obtain ⟨nv, h1, h2⟩ := k.out
  exact ⟨⟨nv, h1, h2.mono h⟩, k.hm, Nat.le_trans h k.la, Nat.le_trans h k.lm, k.wf, k.room, k.top⟩
theorem Below.ow {α : Type} {enc : α → List Value} {l : List α} (h : Go.RowKit.Below w.heap.size w W) (k : OwT enc sz T w N v l) : OwT enc sz T W N v l :=
  World.ownsRow.kept k (row := none) ⟨h.os, h.tape, h.output, h.size, fun j hj _ => h.block j hj⟩ (by cases v.ownBlock <;> simp)
theorem Below.mapI {α β : Type} {enc : α → Value} {encV : β → Value} {l : List (α × β)} (h : Go.RowKit.Below w.heap.size w W) (k : MapT enc encV w b l) : MapT enc encV W b l := k.moved (h.block b k.lt)
theorem Dia.below (h : Go.RowKit.Below w.heap.size w W) (k : Dia Ta Tn N ba bm R w ns) : Dia Ta Tn N ba bm R W ns := by
  obtain ⟨nv, h1, h2⟩ := k.out
  exact ⟨⟨nv, Below.atI h h1, Below.ow h h2⟩, Below.mapI h k.hm, k.la, k.lm, k.wf, k.room, k.top⟩
theorem Dia.grownAt (k : Dia Ta Tn N ba bm R w ns) (hm : At w b c T) (hG : w.grownBy w' (some b)) (hTa : T ≠ Ta) (hTn : T ≠ Tn) : Dia Ta Tn N ba bm R w' ns := by
  obtain ⟨nv, h1, h2⟩ := k.out
  exact ⟨⟨nv, h1.grownAt hm hG hTa.symm, h2.grownAt hm hG hTn⟩, k.hm.grownAt hm hG, k.la, k.lm, k.wf, k.room, k.top⟩
theorem Dia.grownOw {α : Type} {enc : α → List Value} {l : List α} (k : Dia Ta Tn N ba bm R w ns) (ho : OwT enc sz T w N' v l) (hG : w.grownBy w' v.ownBlock) (hTa : T ≠ Ta) (hTn : T ≠ Tn) : Dia Ta Tn N ba bm R w' ns := by
  obtain ⟨nv, h1, h2⟩ := k.out
  exact ⟨⟨nv, h1.grownOw ho hG hTa.symm, h2.grownOw ho hG hTn.symm⟩, k.hm.grownOw ho hG, k.la, k.lm, k.wf, k.room, k.top⟩
theorem Dia.grownMap {α β : Type} {enc : α → Value} {encV : β → Value} {l : List (α × β)} (k : Dia Ta Tn N ba bm R w ns) (hm : MapT enc encV w b l) (hne : b ≠ bm) (hG : w.grownBy w' (some b)) : Dia Ta Tn N ba bm R w' ns := by
  obtain ⟨nv, h1, h2⟩ := k.out
  exact ⟨⟨nv, h1.grownMap hm hG, h2.grownMap hm hG⟩, k.hm.grownNe hne.symm hG, k.la, k.lm, k.wf, k.room, k.top⟩
theorem Dia.ne (k : Dia Ta Tn N ba bm R w ns) (hm : At w b c T) (hTa : T ≠ Ta) : b ≠ ba ∧ b ≠ bm := by
  obtain ⟨nv, h1, h2⟩ := k.out
  exact ⟨fun e => by subst e; exact At.neT hm h1 hTa rfl, fun e => by subst e; exact At.ne_map hm k.hm rfl⟩
theorem At.dx (k : Dia Ta Tn N ba bm R w ns) (hx : Dx Tn N [ba, bm] w w') (hm : At w b c T) (hTa : T ≠ Ta) (hTn : T ≠ Tn) : At w' b c T := by
  obtain ⟨n1, n2⟩ := k.ne hm hTa
  unfold At at *
  rw [hx.block b (lt_of_block hm) (.inr ⟨by simp [n1, n2], fun c' fr e => by rw [hm] at e; simp at e; exact hTn e.2.1⟩)]
  exact hm
theorem At.dx3 {bx : Nat} (k : Dia Ta Tn N ba bm R w ns) (hx : Dx Tn N [bx, ba, bm] w w') (hm : At w b c T) (hTa : T ≠ Ta) (hTn : T ≠ Tn) (hne : b ≠ bx) : At w' b c T := by
  obtain ⟨n1, n2⟩ := k.ne hm hTa
  unfold At at *
  rw [hx.block b (lt_of_block hm) (.inr ⟨by simp [n1, n2, hne], fun c' fr e => by rw [hm] at e; simp at e; exact hTn e.2.1⟩)]
  exact hm
theorem OwT.dx {α : Type} {enc : α → List Value} {l : List α} (k : Dia Ta Tn N ba bm R w ns) (hx : Dx Tn N [ba, bm] w w') (ho : OwT enc sz T w N' v l) (hTa : T ≠ Ta) (hTn : T ≠ Tn) : OwT enc sz T w' N' v l := by
  obtain ⟨h1, h2 | ⟨g, cap, cur, h3, hg, hh, r⟩⟩ := ho
  · exact ⟨h1, .inl h2⟩
  · refine ⟨h1, .inr ⟨g, cap, cur, h3, hg, ?_, r⟩⟩
    exact At.dx (c := cur) k hx hh hTa hTn
theorem MapT.dx {α β : Type} {enc : α → Value} {encV : β → Value} {l : List (α × β)} (k : Dia Ta Tn N ba bm R w ns) (hx : Dx Tn N [ba, bm] w w') (hm : MapT enc encV w b l) (hne : b ≠ bm) : MapT enc encV w' b l := by
  obtain ⟨nv, h1, h2⟩ := k.out
  obtain ⟨f, ck, hf⟩ := hm
  refine ⟨f, ck, hf.moved (hx.block b hf.lt (.inr ⟨?_, fun c' fr e => ?_⟩))⟩
  · have : b ≠ ba := fun e => by subst e; exact At.ne_map h1 ⟨f, ck, hf⟩ rfl
    simp [this, hne]
  · rw [hf.heap] at e; cases e
end

/-! ### Outcomes -/
/-- A deed comes to the id of S, or no node is left. -/
structure Got (ns ns' : List Nd) (R c l : Nat) (S : Nat → Prop) (id : Nat) (er : Int) : Prop where
  pre : ns <+: ns'
  cost : ns'.length ≤ ns.length + c
  res : (er = 0 ∧ id < ns'.length + 2 ∧ l ≤ lvl ns' id ∧ ∀ x, x ∈ mems ns' id ↔ S x) ∨ (er = 5 ∧ id = 0 ∧ R ≤ ns'.length)
def PO (Ta Tn : TypeId) (N ba bm R : Nat) (w : World) (ns : List Nd) (c l : Nat) (S : Nat → Prop) (v : Value) (w' : World) : Prop :=
  ∃ (ns' : List Nd) (id : Nat) (er : Int), v = .tuple #[.int .i64 (id : Int), .int .i64 er] ∧ Dx Tn N [ba, bm] w w' ∧ Dia Ta Tn N ba bm R w' ns' ∧ Got ns ns' R c l S id er

section
variable {ns ns' ns1 ns2 ns3 : List Nd} {R c c1 c2 l : Nat} {S S1 S2 : Nat → Prop} {id f : Nat} {er : Int}
theorem pre_len (h : ns <+: ns') : ns.length ≤ ns'.length := h.length_le
theorem Got.same (hid : id < ns.length + 2) (hl : l ≤ lvl ns id) (h : ∀ x, x ∈ mems ns id ↔ S x) : Got ns ns R c l S id 0 := ⟨List.prefix_refl _, by omega, .inl ⟨rfl, hid, hl, h⟩⟩
theorem Got.fail (g : Got ns ns1 R c1 l S1 id er) (he : ¬ er = 0) (hc : c1 ≤ c) {l2 : Nat} : Got ns ns1 R c l2 S 0 er := by
  refine ⟨g.pre, by have := g.cost; omega, .inr ?_⟩
  rcases g.res with h | h
  · exact absurd h.1 he
  · exact ⟨h.1, rfl, h.2.2⟩
theorem Got.fail2 (g : Got ns ns1 R c1 l S1 id er) {l1 l2 id1 : Nat} {er1 : Int} (g2 : Got ns1 ns2 R c2 l1 S2 id1 er1) (he : ¬ er1 = 0) (hc : c1 + c2 ≤ c) : Got ns ns2 R c l2 S 0 er1 := by
  have h := Got.fail (S := S) (l2 := l2) g2 he (Nat.le_refl _)
  refine ⟨g.pre.trans h.pre, by have := g.cost; have := h.cost; omega, h.res⟩
theorem Got.ok (g : Got ns ns1 R c1 l S1 id er) (he : er = 0) : id < ns1.length + 2 ∧ l ≤ lvl ns1 id ∧ ∀ x, x ∈ mems ns1 id ↔ S1 x := by
  rcases g.res with h | h
  · exact h.2
  · rw [h.1] at he; cases he
theorem Got.okN (g : Got ns ns1 R c1 l S1 id er) (he : ¬ ¬ er = 0) : id < ns1.length + 2 ∧ l ≤ lvl ns1 id ∧ ∀ x, x ∈ mems ns1 id ↔ S1 x := g.ok (Decidable.of_not_not he)
theorem Got.weak (g : Got ns ns1 R c1 l S1 id er) (hc : c1 ≤ c) (h : ∀ x, S1 x ↔ S x) : Got ns ns1 R c l S id er :=
  ⟨g.pre, by have := g.cost; omega, g.res.imp (fun ⟨a, b, d, e⟩ => ⟨a, b, d, fun x => (e x).trans (h x)⟩) _root_.id⟩
theorem Got.then' (g : Got ns ns1 R c1 l S1 id er) {l2 id2 : Nat} {er2 : Int} (g2 : Got ns1 ns2 R c2 l2 S id2 er2) (hc : c1 + c2 ≤ c) : Got ns ns2 R c l2 S id2 er2 :=
  ⟨g.pre.trans g2.pre, by have := g.cost; have := g2.cost; omega, g2.res⟩
/-- An id's members, in what has come since. -/
theorem Got.old (g : Got ns ns1 R c1 l S1 id er) (h : f < ns.length + 2) : f < ns1.length + 2 ∧ mems ns1 f = mems ns f ∧ lvl ns1 f = lvl ns f :=
  ⟨by have := pre_len g.pre; omega, mems_pre g.pre h, lvl_pre g.pre h⟩
end

/-! ### Halves -/
def up (l : Nat) (P Q : Nat → Prop) (x : Nat) : Prop := P x ∨ ∃ y, Q y ∧ x = y + 2 ^ l
def halfA (ns : List Nd) (f l : Nat) : Nat := if 2 ≤ f ∧ lvl ns f = l then (ns.getD (f - 2) nd0).lo else f
def halfB (ns : List Nd) (f l : Nat) : Nat := if 2 ≤ f ∧ lvl ns f = l then (ns.getD (f - 2) nd0).hi else 0
structure Half (ns : List Nd) (f l a b : Nat) : Prop where
  va : a < ns.length + 2
  vb : b < ns.length + 2
  la : l < lvl ns a
  lb : l < lvl ns b
  mem : ∀ x, x ∈ mems ns f ↔ up l (· ∈ mems ns a) (· ∈ mems ns b) x
  cnt : (mems ns f).length = (mems ns a).length + (mems ns b).length
theorem half_of {ns : List Nd} (h : Wf ns) {f l : Nat} (hf : f < ns.length + 2) (hl : l ≤ lvl ns f) (h24 : l < 24) : Half ns f l (halfA ns f l) (halfB ns f l) := by
  unfold halfA halfB
  by_cases hc : 2 ≤ f ∧ lvl ns f = l
  · rw [if_pos hc, if_pos hc]
    obtain ⟨i, rfl⟩ : ∃ i, f = i + 2 := ⟨f - 2, by omega⟩
    have hi : i < ns.length := by omega
    obtain ⟨a1, a2, a3, a4, a5, a6⟩ := h.ok i hi
    have hl2 := hc.2
    rw [lvl_node] at hl2
    rw [Nat.add_sub_cancel]
    refine ⟨by omega, by omega, by omega, by omega, fun x => ?_, ?_⟩
    · rw [mems_node h hi, List.mem_append, List.mem_map, hl2]
      exact or_congr Iff.rfl ⟨fun ⟨y, h1, h2⟩ => ⟨y, h1, h2.symm⟩, fun ⟨y, h1, h2⟩ => ⟨y, h1, h2.symm⟩⟩
    · rw [mems_node h hi, List.length_append, List.length_map]
  · rw [if_neg hc, if_neg hc]
    have hlt : l < lvl ns f := by
      rcases Nat.lt_or_ge l (lvl ns f) with k | k
      · exact k
      · exfalso
        have e : lvl ns f = l := by omega
        have : ¬ 2 ≤ f := fun q => hc ⟨q, e⟩
        rw [lvl_small (by omega)] at e
        omega
    refine ⟨hf, by omega, hlt, by rw [lvl_small (by decide)]; exact h24, fun x => ?_, by rw [mems_0]; rfl⟩
    unfold up
    rw [mems_0]
    simp

end Go.Proofs.Ytpamgfbecgjjeaa
