/-
  The core of our own way of walking (no program in it, no conditions): frames as functions, code by its ways out, regions that draw their order by taking what only reads first.
-/
import Derived.WalkKit
import Derived.OrdersHeld
import Derived.Deep.LoopGhost
import Derived.KernelRfl
namespace Go.Proofs.YtnkaebjaeaecmaaDoor
set_option linter.unusedVariables false
set_option linter.unusedSimpArgs false
open Go Go.RowKit

/-! ### Frames as functions -/

theorem dec_t {p : Prop} {i : Decidable p} (h : @decide p i = true) : p := of_decide_eq_true h
theorem dec_f {p : Prop} {i : Decidable p} (h : @decide p i = false) : ¬ p := of_decide_eq_false h

structure Rep (n : Nat) (f : Nat → Value) (a : Act) : Prop where
  defers : a.defers = []
  size : a.tmps.size = n
  get : ∀ t, a.tmps.getD t undef = f t

def upd (f : Nat → Value) (d : Nat) (v : Value) : Nat → Value := fun t => cond (Nat.beq t d) v (f t)

def updo (f : Nat → Value) (d : Option Nat) (v : Value) : Nat → Value :=
  match d with
  | none => f
  | some d => upd f d v

def dstOk (n : Nat) (d : Option Nat) : Bool :=
  match d with
  | none => true
  | some d => decide (d < n)

def evF (f : Nat → Value) (x : Operand) : Value :=
  match x with
  | .tmp t => f t
  | .const v => v
  | .global g => .pointer (some ⟨g, 0, none⟩)
  | .func k => .func (.func k) #[] #[]

theorem upd_same (f : Nat → Value) (d : Nat) (v : Value) : upd f d v d = v := by simp [upd]
theorem upd_ne (f : Nat → Value) {d t : Nat} (v : Value) (h : t ≠ d) : upd f d v t = f t := by
  have e : Nat.beq t d = false := by cases hb : Nat.beq t d with | false => rfl | true => exact absurd (Nat.eq_of_beq_eq_true hb) h
  simp only [upd, e, cond_false]

theorem Rep.eval {n : Nat} {f : Nat → Value} {a : Act} (h : Rep n f a) : a.eval = evF f := by
  funext x
  cases x <;> simp only [Act.eval, evF, h.get]

theorem Rep.put {n : Nat} {f : Nat → Value} {a : Act} (h : Rep n f a) {d : Option Nat} (hd : dstOk n d = true) (v : Value) : Rep n (updo f d v) (a.put d v) := by
  cases d with
  | none => exact h
  | some d =>
    have hlt : d < n := by simpa [dstOk] using hd
    refine ⟨h.defers, by simp [Act.put, h.size], fun t => ?_⟩
    have hg := h.get t
    simp only [Act.put, updo]
    by_cases e : t = d
    · subst e
      rw [upd_same]
      simp [h.size, hlt]
    · rw [upd_ne _ _ e, ← hg]
      simp [Array.getElem?_setIfInBounds_ne (Ne.symm e)]

def yieldF (ops : Array Oper) (f : Nat → Value) (j : Nat) : Option Bool :=
  match (ops[j]?).bind (·.dst) with
  | none => none
  | some d => match f d with
    | .bool b => some b
    | _ => none

theorem Rep.yielded {n : Nat} {f : Nat → Value} {a : Act} (h : Rep n f a) (ops : Array Oper) (j : Nat) : yielded ops a.tmps j = yieldF ops f j := by
  unfold Go.yielded yieldF
  cases hd : (ops[j]?).bind (·.dst) with
  | none => simp
  | some d =>
    have hg := h.get d
    simp only [Option.bind_some]
    cases ht : a.tmps[d]? with
    | none => simp [ht] at hg; rw [← hg]; rfl
    | some v =>
      simp [ht] at hg
      rw [← hg]
      cases v <;> rfl

def wantedF (ops : Array Oper) (f : Nat → Value) (o : Oper) : Bool :=
  match o.guard with
  | none => true
  | some (j, want) => yieldF ops f j == some want

theorem Rep.wanted {n : Nat} {f : Nat → Value} {a : Act} (h : Rep n f a) (ops : Array Oper) (o : Oper) : Region.wanted o (Go.yielded ops a.tmps) = wantedF ops f o := by
  unfold Region.wanted wantedF
  cases o.guard with
  | none => rfl
  | some g => simp only [h.yielded]

/-! ### What a call does -/

/-- Every block that was there is as it was. -/
def Ext (w w' : World) : Prop := Below w.heap.size w w'

theorem Ext.refl (w : World) : Ext w w := Below.refl _ _
theorem Ext.size {w w' : World} (h : Ext w w') : w.heap.size ≤ w'.heap.size := Below.size h
theorem Ext.trans {a b c : World} (h : Ext a b) (k : Ext b c) : Ext a c := Below.trans h (Below.mono k (Below.size h))
theorem Ext.block {w w' : World} (h : Ext w w') {b : Nat} {o : Obj} (hb : w.heap[b]? = some o) : w'.heap[b]? = some o := by
  rw [Below.block h b (Array.getElem?_eq_some_iff.1 hb).1]; exact hb
theorem lt_of_block {w : World} {b : Nat} {o : Obj} (hb : w.heap[b]? = some o) : b < w.heap.size := (Array.getElem?_eq_some_iff.1 hb).1
theorem Ext.drawn (w : World) (k : Nat) : Ext w { w with drawn := k } := ⟨rfl, rfl, rfl, Nat.le_refl _, fun _ _ => rfl⟩
theorem Ext.alloc (w : World) (o : Obj) : Ext w (w.alloc o) := (Below.refl w.heap.size w).alloc (Nat.le_refl _) o
theorem below_ext {N : Nat} {a b c : World} (h : Below N a b) (k : Ext b c) (hN : N ≤ a.heap.size) : Below N a c := Below.trans h (Below.mono k (Nat.le_trans hN (Below.size h)))

structure Fn (P : Program) (g : Nat) (vs : Array Value) (w : World) (Post : Value → World → Prop) : Prop where
  out : Calls P g vs w fun e w' => ∃ v, e = .returned v ∧ Ext w w' ∧ Post v w'

theorem Fn.mono {P : Program} {g : Nat} {vs : Array Value} {w : World} {Post Post' : Value → World → Prop} (h : Fn P g vs w Post) (hp : ∀ v w', Ext w w' → Post v w' → Post' v w') : Fn P g vs w Post' :=
  ⟨Calls.mono h.out fun _ _ ⟨v, he, hx, hq⟩ => ⟨v, he, hx, hp _ _ hx hq⟩⟩

/-! ### One operation -/

structure Yd (P : Program) (o : Oper) (f : Nat → Value) (w : World) (K : Value → World → Prop) : Prop where
  out : ∀ a : Act, a.eval = evF f → ∀ Q, o.wp P a w (fun a' w' => ∃ v, a' = a.put o.dst v ∧ K v w') Q

theorem Yd.val {P : Program} {o : Oper} {f : Nat → Value} {w w' : World} {v : Value} {K : Value → World → Prop}
    (h : (execOp (evF f) o).run P w = .ok (.value v) w') (hK : K v w') : Yd P o f w K := by
  refine ⟨fun a ha Q => ?_⟩
  unfold Oper.wp
  rw [ha, h]
  exact ⟨v, rfl, hK⟩

theorem Yd.skip {P : Program} {o : Oper} {f : Nat → Value} {w w' : World} {K : Value → World → Prop}
    (h : (execOp (evF f) o).run P w = .ok .skip w') (hK : K undef w') : Yd P o f w K := by
  refine ⟨fun a ha Q => ?_⟩
  unfold Oper.wp
  rw [ha, h]
  exact ⟨undef, rfl, hK⟩

theorem Yd.call {P : Program} {o : Oper} {f : Nat → Value} {w : World} {g : Nat} {vs : Array Value} {K Post : Value → World → Prop}
    (h : (execOp (evF f) o).run P w = .ok (.enter g vs) w) (hc : Fn P g vs w Post) (hK : ∀ v w', Ext w w' → Post v w' → K v w') : Yd P o f w K := by
  refine ⟨fun a ha Q => ?_⟩
  unfold Oper.wp
  rw [ha, h]
  refine Calls.mono hc.out fun e w' ⟨v, he, hx, hq⟩ => ?_
  subst he
  exact ⟨v, rfl, hK v w' hx hq⟩

theorem Yd.mono {P : Program} {o : Oper} {f : Nat → Value} {w : World} {K K' : Value → World → Prop} (h : Yd P o f w K) (hk : ∀ v w', K v w' → K' v w') : Yd P o f w K' := ⟨fun a ha Q => Oper.wp_mono (fun _ _ ⟨v, e, k⟩ => ⟨v, e, hk _ _ k⟩) (h.out a ha Q)⟩

/-! ### A region in the order of the text -/

section
variable (P : Program) (n : Nat) (ops : Array Oper) (Q : (Nat → Value) → World → Prop)

def regQ (n : Nat) (Q : (Nat → Value) → World → Prop) : Exit → Act → World → Prop :=
  fun e a w => e = .normal ∧ ∃ f, Rep n f a ∧ Q f w

structure WL (l : List Oper) (f : Nat → Value) (w : World) : Prop where
  out : ∀ a, Rep n f a → wpList P ops (regQ n Q) l a w
end

section
variable {P : Program} {n : Nat} {ops : Array Oper} {Q : (Nat → Value) → World → Prop} {f : Nat → Value} {w : World} {o : Oper} {rest : List Oper}

theorem WL_nil (h : Q f w) : WL P n ops Q [] f w := ⟨fun _ ha => ⟨rfl, f, ha, h⟩⟩

theorem WL_step {dd : Option Nat} (hg : wantedF ops f o = true) (he : o.dst = dd) (hd : dstOk n dd = true) (h : Yd P o f w fun v w' => WL P n ops Q rest (updo f dd v) w') : WL P n ops Q (o :: rest) f w := by
  subst he
  refine ⟨fun a ha => ?_⟩
  unfold wpList
  rw [ha.wanted, if_pos hg]
  refine .inl (Oper.wp_mono (fun a' w' ⟨v, e, k⟩ => ?_) (h.out a ha.eval (regQ n Q)))
  subst e
  exact k.out _ (ha.put hd v)

theorem WL_skip {dd : Option Nat} (hg : wantedF ops f o = false) (he : o.dst = dd) (hd : dstOk n dd = true) (h : WL P n ops Q rest (updo f dd undef) w) : WL P n ops Q (o :: rest) f w := by
  subst he
  refine ⟨fun a ha => ?_⟩
  unfold wpList
  rw [ha.wanted, if_neg (by simp [hg])]
  exact h.out _ (ha.put hd undef)

theorem WL_val {dd : Option Nat} {v : Value} {w' : World} (hg : wantedF ops f o = true) (he : o.dst = dd) (hd : dstOk n dd = true) (hr : (execOp (evF f) o).run P w = .ok (.value v) w')
    (h : WL P n ops Q rest (updo f dd v) w') : WL P n ops Q (o :: rest) f w := WL_step hg he hd (.val hr h)

theorem WL_call {dd : Option Nat} {g : Nat} {vs : Array Value} {Post : Value → World → Prop} (hg : wantedF ops f o = true) (he : o.dst = dd) (hd : dstOk n dd = true) (hr : (execOp (evF f) o).run P w = .ok (.enter g vs) w)
    (hc : Fn P g vs w Post) (h : ∀ v w', Ext w w' → Post v w' → WL P n ops Q rest (updo f dd v) w') : WL P n ops Q (o :: rest) f w := WL_step hg he hd (.call hr hc h)

/-- A test that later operations wait for: part on it here. -/
theorem WL_split {dd : Option Nat} {b : Bool} (hg : wantedF ops f o = true) (he : o.dst = dd) (hd : dstOk n dd = true) (hr : (execOp (evF f) o).run P w = .ok (.value (.bool b)) w)
    (ht : b = true → WL P n ops Q rest (updo f dd (.bool true)) w) (hf : b = false → WL P n ops Q rest (updo f dd (.bool false)) w) : WL P n ops Q (o :: rest) f w := by
  cases b
  · exact WL_val hg he hd hr (hf rfl)
  · exact WL_val hg he hd hr (ht rfl)
end

/-! ### A region in whatever order -/

/-- Operation j waits for k. -/
def waitsB (ops : Array Oper) (j k : Nat) : Bool :=
  match ops[j]? with
  | none => false
  | some o => o.after.any fun e => Region.binds .any e && e.on == k
/-- Operation j waits for k, or for one that waits for it, and so on. -/
def needsB (ops : Array Oper) : Nat → Nat → Nat → Bool
  | 0, j, k => waitsB ops j k
  | n + 1, j, k => waitsB ops j k || (List.range ops.size).any fun m => waitsB ops j m && needsB ops n m k
/-- Operation j waits for all that is listed, or for one that waits for it. -/
def fullB (ops : Array Oper) (listed : Array Bool) (j : Nat) : Bool :=
  (List.range ops.size).all fun k => !listed.getD k false || needsB ops 4 j k
theorem waitsB_iff {ops : Array Oper} {j k : Nat} : waitsB ops j k = true ↔ ∃ o, ops[j]? = some o ∧ ∃ e, e ∈ o.after ∧ Region.binds .any e = true ∧ e.on = k := by
  unfold waitsB
  cases ops[j]? with
  | none => simp
  | some o =>
    simp only [Option.some.injEq, exists_eq_left']
    rw [Array.any_eq_true']
    exact ⟨fun ⟨e, h1, h2⟩ => ⟨e, h1, by simpa using h2⟩, fun ⟨e, h1, h2⟩ => ⟨e, h1, by simpa using h2⟩⟩
/-- What is listed has all listed that it waits for. -/
def ClosedL (ops : Array Oper) (L : Array Bool) : Prop := ∀ m k, L.getD m false = true → waitsB ops m k = true → L.getD k false = true
theorem getD_put {L : Array Bool} {j k : Nat} : (L.setIfInBounds j true).getD k false = true ↔ (k = j ∧ j < L.size) ∨ L.getD k false = true := by
  simp only [Array.getD_eq_getD_getElem?, Array.getElem?_setIfInBounds]
  by_cases h : j = k
  · subst h
    by_cases h2 : j < L.size
    · simp [h2]
    · simp [h2]
  · have h3 : ¬ k = j := fun e => h e.symm
    simp [h, h3]
theorem ClosedL.add {ops : Array Oper} {L : Array Bool} {j : Nat} (h : ClosedL ops L) (hj : j ∈ Region.ready .any ops L) : ClosedL ops (L.setIfInBounds j true) := fun m k hm hw => by
  rw [getD_put] at hm ⊢
  right
  rcases hm with ⟨rfl, _⟩ | hm
  · obtain ⟨_, oj, hoj, hall⟩ := mem_ready.1 hj
    obtain ⟨o, ho, e, he, hb, rfl⟩ := waitsB_iff.1 hw
    rw [hoj] at ho
    cases ho
    exact hall e he hb
  · exact h m k hm hw
theorem ClosedL.none {ops : Array Oper} {n : Nat} : ClosedL ops (Array.replicate n false) := fun m k hm _ => by
  simp [Array.getD_eq_getD_getElem?, Array.getElem?_replicate] at hm
  split at hm <;> simp at hm

theorem needsB_listed {ops : Array Oper} {L : Array Bool} (hcl : ClosedL ops L) : ∀ (n j k : Nat), (∀ m, waitsB ops j m = true → L.getD m false = true) → needsB ops n j k = true → L.getD k false = true
  | 0, j, k, hw, h => hw k h
  | n + 1, j, k, hw, h => by
    rw [needsB, Bool.or_eq_true, List.any_eq_true] at h
    rcases h with h | ⟨m, _, h⟩
    · exact hw k h
    · rw [Bool.and_eq_true] at h
      exact needsB_listed hcl n m k (fun q hq => hcl m q (hw m h.1) hq) h.2

def wpT (P : Program) (ops : Array Oper) (Q : Exit → Act → World → Prop) (S : World → Prop) : Nat → Array Bool → Act → World → Prop
  | 0, L, a, w => Region.ready .any ops L = [] ∧ Q .normal a w
  | k + 1, L, a, w => (Region.ready .any ops L = [] → Q .normal a w) ∧
    ∀ i ∈ Region.ready .any ops L, wpOp P ops Q i (fun a' w' => (S w' ∨ fullB ops L i = true) ∧ wpT P ops Q S k (L.setIfInBounds i true) a' w') a w

section
variable {P : Program} {ops : Array Oper} {Q : Exit → Act → World → Prop} {S : World → Prop}

theorem wpAny_of_T : ∀ (k : Nat) (L : Array Bool) (a : Act) (w : World), wpT P ops Q S k L a w → wpAny P .any ops Q k L a w
  | 0, _, _, _, h => h
  | k + 1, _, _, _, h => ⟨h.1, fun i hi => wpOp_mono (fun a' w' h' => wpAny_of_T k _ a' w' h'.2) (h.2 i hi)⟩

theorem wpT_first {i : Nat} {oi : Oper} {v : Value} (hi : ops[i]? = some oi) (hsel : ∀ (j : Nat) (o : Oper) cs b, ops[j]? = some o → o.op ≠ .select cs b)
    (hQ : ∀ c a w, Q (.panic c) (a.put oi.dst v) w → Q (.panic c) a w) :
    ∀ (k : Nat) (L : Array Bool) (a : Act) (w : World), L.size = ops.size →
      (∀ j oj, ops[j]? = some oj → j ≠ i → L.getD j true = false → (∀ e ∈ oj.after, Region.binds .any e = true → e.on ≠ i) → oi.apart ops oj = true) →
      i ∈ Region.ready .any ops L → ClosedL ops L → YieldsIf P ops S oi v a → S w →
      wpT P ops Q S k (L.setIfInBounds i true) (a.put oi.dst v) w → wpT P ops Q S (k + 1) L a w := by
  intro k
  induction k with
  | zero =>
    intro L a w hsz hfree hr hcl hy hS H
    refine ⟨fun h => (by rw [h] at hr; cases hr), fun j hj => ?_⟩
    by_cases hji : j = i
    · subst hji
      exact hy.wpOp hi hS ⟨.inl hS, H⟩
    · have := ready_mono hj hji
      rw [H.1] at this
      cases this
  | succ k ih =>
    intro L a w hsz hfree hr hcl hy hS H
    refine ⟨fun h => (by rw [h] at hr; cases hr), fun j hj => ?_⟩
    by_cases hji : j = i
    · subst hji
      exact hy.wpOp hi hS ⟨.inl hS, H⟩
    · have h1 := H.2 j (ready_mono hj hji)
      obtain ⟨hjun, oj, hoj, hall⟩ := mem_ready.1 hj
      have hiL : L.getD i true = false := (mem_ready.1 hr).1
      have hilt : i < ops.size := (Array.getElem?_eq_some_iff.1 hi).1
      have hnot : ∀ e ∈ oj.after, Region.binds .any e = true → e.on ≠ i := fun e he hb heq => by
        have h2 := hall e he hb
        rw [heq] at h2
        have hlt : i < L.size := by omega
        simp [hlt] at hiL h2
        rw [hiL] at h2
        cases h2
      have hnf : fullB ops (L.setIfInBounds i true) j = false := by
        cases hfb : fullB ops (L.setIfInBounds i true) j with
        | false => rfl
        | true =>
          simp only [fullB, List.all_eq_true, List.mem_range] at hfb
          have h3 := hfb i hilt
          have hlt : i < L.size := by omega
          have hin : (L.setIfInBounds i true).getD i false = true := getD_put.2 (.inl ⟨rfl, hlt⟩)
          rw [hin, Bool.not_true, Bool.false_or] at h3
          have hw : ∀ k, waitsB ops j k = true → L.getD k false = true := fun k hw => by
            obtain ⟨o, ho, e, he, hb, rfl⟩ := waitsB_iff.1 hw
            rw [hoj] at ho
            cases ho
            exact hall e he hb
          have hno : L.getD i false = false := by
            simp only [Array.getD_eq_getD_getElem?, Array.getElem?_eq_getElem hlt, Option.getD_some] at hiL ⊢
            exact hiL
          rw [needsB_listed hcl 4 j i hw h3] at hno; cases hno
      have h2 := wpOp_putIf hoj (hfree j oj hoj hji hjun hnot) (fun cs b => hsel i oi cs b hi) (fun cs b => hsel j oj cs b hoj) hQ hy h1
      have hfree' : ∀ m om, ops[m]? = some om → m ≠ i → (L.setIfInBounds j true).getD m true = false →
          (∀ e ∈ om.after, Region.binds .any e = true → e.on ≠ i) → oi.apart ops om = true := fun m om hom hmi hun hno => by
        refine hfree m om hom hmi ?_ hno
        by_cases hjm : j = m
        · subst hjm; exact hjun
        · rw [getD_set_ne true hjm] at hun; exact hun
      refine wpOp_mono (fun a' w' h3 => ?_) h2
      have hS' : S w' := h3.2.1.resolve_right (by simp [hnf])
      refine ⟨.inl hS', ih (L.setIfInBounds j true) a' w' (by simpa using hsz) hfree' (ready_mono hr (Ne.symm hji)) (hcl.add hj) h3.1 hS' ?_⟩
      rw [Array.setIfInBounds_comm _ _ hji]
      exact h3.2.2
end

section
variable (P : Program) (n : Nat) (ops : Array Oper) (Q : (Nat → Value) → World → Prop) (S : World → Prop)

structure WT (k : Nat) (L : Array Bool) (f : Nat → Value) (w : World) : Prop where
  out : L.size = ops.size → ClosedL ops L → ∀ a, Rep n f a → wpT P ops (regQ n Q) S k L a w
end

section
variable {P : Program} {n : Nat} {ops : Array Oper} {Q : (Nat → Value) → World → Prop} {S : World → Prop} {f : Nat → Value} {w : World} {k : Nat} {L : Array Bool}

theorem WT_done (hr : Region.ready .any ops L = []) (h : Q f w) : WT P n ops Q S k L f w := by
  refine ⟨fun _ _ a ha => ?_⟩
  cases k with
  | zero => exact ⟨hr, rfl, f, ha, h⟩
  | succ k => exact ⟨fun _ => ⟨rfl, f, ha, h⟩, by rw [hr]; simp⟩

/-- Number i is taken first: it reads alone. -/
theorem WT_take (i : Nat) {oi : Oper} {dd : Option Nat} {v : Value} (hi : ops[i]? = some oi) (hs : Region.noSelect ops = true) (hf : Region.free .any ops L i = true)
    (hr : (Region.ready .any ops L).contains i = true) (hg : wantedF ops f oi = true) (he0 : oi.dst = dd) (hd : dstOk n dd = true)
    (hv : ∀ w', S w' → (execOp (evF f) oi).run P w' = .ok (.value v) w') (hS : S w)
    (h : WT P n ops Q S k (L.setIfInBounds i true) (updo f dd v) w) : WT P n ops Q S (k + 1) L f w := by
  subst he0
  refine ⟨fun hsz hcl a ha => ?_⟩
  refine wpT_first (v := v) hi (Region.noSelect_spec hs) (fun c a w h => nomatch h.1) k L a w hsz (Region.free_spec hi hf) (by simpa using hr) hcl ?_ hS ?_
  · exact .inl ⟨by rw [ha.wanted]; exact hg, fun w' hw' => by rw [ha.eval]; exact hv w' hw'⟩
  · exact h.out (by simpa using hsz) (hcl.add (by simpa using hr)) _ (ha.put hd v)

/-- Number i is taken first: a test; part on it here. -/
theorem WT_split (i : Nat) {oi : Oper} {dd : Option Nat} {b : Bool} (hi : ops[i]? = some oi) (hs : Region.noSelect ops = true) (hf : Region.free .any ops L i = true)
    (hr : (Region.ready .any ops L).contains i = true) (hg : wantedF ops f oi = true) (he0 : oi.dst = dd) (hd : dstOk n dd = true)
    (hv : ∀ w', S w' → (execOp (evF f) oi).run P w' = .ok (.value (.bool b)) w') (hS : S w)
    (ht : b = true → WT P n ops Q S k (L.setIfInBounds i true) (updo f dd (.bool true)) w)
    (he : b = false → WT P n ops Q S k (L.setIfInBounds i true) (updo f dd (.bool false)) w) : WT P n ops Q S (k + 1) L f w := by
  cases b
  · exact WT_take i hi hs hf hr hg he0 hd hv hS (he rfl)
  · exact WT_take i hi hs hf hr hg he0 hd hv hS (ht rfl)

/-- Number i is not wanted. -/
theorem WT_pass (i : Nat) {oi : Oper} {dd : Option Nat} (hi : ops[i]? = some oi) (hs : Region.noSelect ops = true) (hf : Region.free .any ops L i = true)
    (hr : (Region.ready .any ops L).contains i = true) (hg : wantedF ops f oi = false) (he0 : oi.dst = dd) (hd : dstOk n dd = true) (hS : S w)
    (h : WT P n ops Q S k (L.setIfInBounds i true) (updo f dd undef) w) : WT P n ops Q S (k + 1) L f w := by
  subst he0
  refine ⟨fun hsz hcl a ha => ?_⟩
  refine wpT_first (v := undef) hi (Region.noSelect_spec hs) (fun c a w h => nomatch h.1) k L a w hsz (Region.free_spec hi hf) (by simpa using hr) hcl ?_ hS ?_
  · exact .inr ⟨by rw [ha.wanted]; exact hg, rfl⟩
  · exact h.out (by simpa using hsz) (hcl.add (by simpa using hr)) _ (ha.put hd undef)

theorem WT_op {i : Nat} {oi : Oper} {dd : Option Nat} (hi : ops[i]? = some oi) (hg : wantedF ops f oi = true) (he0 : oi.dst = dd) (hd : dstOk n dd = true) {K : (Nat → Value) → World → Prop} {a : Act} (ha : Rep n f a)
    {J : Act → World → Prop} (hJ : ∀ f' a' w', Rep n f' a' → K f' w' → J a' w') (h : Yd P oi f w fun v w' => K (updo f dd v) w') : wpOp P ops (regQ n Q) i J a w := by
  subst he0
  unfold wpOp
  simp only [hi]
  rw [ha.wanted, if_pos hg]
  refine .inl (Oper.wp_mono (fun a' w' ⟨v, e, hk⟩ => ?_) (h.out a ha.eval (regQ n Q)))
  subst e
  exact hJ _ _ _ (ha.put hd v) hk

/-- Number i alone can come up next. -/
theorem WT_one (i : Nat) {oi : Oper} {dd : Option Nat} (hr : Region.ready .any ops L = [i]) (hi : ops[i]? = some oi) (hg : wantedF ops f oi = true) (he0 : oi.dst = dd) (hd : dstOk n dd = true)
    (h : Yd P oi f w fun v w' => (S w' ∨ fullB ops L i = true) ∧ WT P n ops Q S k (L.setIfInBounds i true) (updo f dd v) w') : WT P n ops Q S (k + 1) L f w := by
  refine ⟨fun hsz hcl a ha => ?_⟩
  refine ⟨fun h0 => (by rw [hr] at h0; cases h0), fun j hj => ?_⟩
  have hj' := hj
  rw [hr, List.mem_singleton] at hj
  subst hj
  exact WT_op (K := fun f' w' => (S w' ∨ fullB ops L j = true) ∧ WT P n ops Q S k (L.setIfInBounds j true) f' w') hi hg he0 hd ha
    (fun f' a' w' hr' hk => ⟨hk.1, hk.2.out (by simpa using hsz) (hcl.add hj') a' hr'⟩) h

/-- One of two can come up next. -/
theorem WT_two (i j : Nat) {oi oj : Oper} {di dj : Option Nat} (hr : Region.ready .any ops L = [i, j]) (hi : ops[i]? = some oi) (hj : ops[j]? = some oj)
    (hgi : wantedF ops f oi = true) (hei : oi.dst = di) (hdi : dstOk n di = true) (hgj : wantedF ops f oj = true) (hej : oj.dst = dj) (hdj : dstOk n dj = true)
    (h1 : Yd P oi f w fun v w' => (S w' ∨ fullB ops L i = true) ∧ WT P n ops Q S k (L.setIfInBounds i true) (updo f di v) w')
    (h2 : Yd P oj f w fun v w' => (S w' ∨ fullB ops L j = true) ∧ WT P n ops Q S k (L.setIfInBounds j true) (updo f dj v) w') : WT P n ops Q S (k + 1) L f w := by
  refine ⟨fun hsz hcl a ha => ?_⟩
  refine ⟨fun h0 => (by rw [hr] at h0; cases h0), fun m hm => ?_⟩
  have hm' := hm
  rw [hr] at hm
  rcases List.mem_cons.1 hm with rfl | hm
  · exact WT_op (K := fun f' w' => (S w' ∨ fullB ops L m = true) ∧ WT P n ops Q S k (L.setIfInBounds m true) f' w') hi hgi hei hdi ha
      (fun f' a' w' hr' hk => ⟨hk.1, hk.2.out (by simpa using hsz) (hcl.add hm') a' hr'⟩) h1
  · rw [List.mem_singleton] at hm
    subst hm
    exact WT_op (K := fun f' w' => (S w' ∨ fullB ops L m = true) ∧ WT P n ops Q S k (L.setIfInBounds m true) f' w') hj hgj hej hdj ha
      (fun f' a' w' hr' hk => ⟨hk.1, hk.2.out (by simpa using hsz) (hcl.add hm') a' hr'⟩) h2
end

/-! ### Code -/

section
variable (P : Program) (n : Nat)

def codeQ (n : Nat) (Q : Exit → (Nat → Value) → World → Prop) : Exit → Act → World → Prop := fun e a w => ∃ f, Rep n f a ∧ Q e f w

structure WC (c : Code) (Q : Exit → (Nat → Value) → World → Prop) (f : Nat → Value) (w : World) : Prop where
  out : ∀ a, Rep n f a → c.wp P (codeQ n Q) a w

def thenQ (K : (Nat → Value) → World → Prop) (Q : Exit → (Nat → Value) → World → Prop) : Exit → (Nat → Value) → World → Prop
  | .normal => K
  | e => Q e

def blockQ (id : Nat) (Q : Exit → (Nat → Value) → World → Prop) : Exit → (Nat → Value) → World → Prop
  | .exit id' => if id' = id then Q .normal else Q (.exit id')
  | e => Q e
end

section
variable {P : Program} {n : Nat} {Q : Exit → (Nat → Value) → World → Prop} {f : Nat → Value} {w : World}

theorem WC_seq {x y : Code} (h : ∀ K : (Nat → Value) → World → Prop, (∀ f w, WC P n y Q f w → K f w) → WC P n x (thenQ K Q) f w) : WC P n (.seq x y) Q f w := by
  refine ⟨fun a ha => ?_⟩
  refine wp_seq (Code.wp_mono (fun e a' w' hq => ?_) ((h (WC P n y Q) (fun _ _ h => h)).out a ha))
  obtain ⟨f', hr, hq⟩ := hq
  cases e with
  | normal => exact hq.out a' hr
  | _ => exact ⟨f', hr, hq⟩

theorem thenQ_ret {K : (Nat → Value) → World → Prop} (h : Q .ret f w) : thenQ K Q .ret f w := h
theorem blockQ_ret {id : Nat} (h : Q .ret f w) : blockQ id Q .ret f w := h

theorem WC_skip (h : Q .normal f w) : WC P n .skip Q f w := ⟨fun _ ha => wp_skip ⟨f, ha, h⟩⟩
theorem WC_ret (h : Q .ret f w) : WC P n .ret Q f w := ⟨fun _ ha => wp_ret ⟨f, ha, h⟩⟩
theorem WC_exit {id : Nat} (h : Q (.exit id) f w) : WC P n (.exit id) Q f w := ⟨fun _ ha => wp_exit ⟨f, ha, h⟩⟩

theorem WC_cond {c : Operand} {x y : Code} {b : Bool} (hc : evF f c = .bool b) (ht : b = true → WC P n x Q f w) (hf : b = false → WC P n y Q f w) : WC P n (.cond c x y) Q f w := by
  refine ⟨fun a ha => ?_⟩
  refine wp_cond_split (t := b) (by rw [ha.eval]; exact hc) (fun h => (ht h).out a ha) (fun h => (hf h).out a ha)

theorem WC_cond_true {c : Operand} {x y : Code} (hc : evF f c = .bool true) (ht : WC P n x Q f w) : WC P n (.cond c x y) Q f w := WC_cond hc (fun _ => ht) (fun h => by cases h)
theorem WC_cond_false {c : Operand} {x y : Code} (hc : evF f c = .bool false) (hf : WC P n y Q f w) : WC P n (.cond c x y) Q f w := WC_cond hc (fun h => by cases h) (fun _ => hf)

theorem WC_block {id : Nat} {c : Code} (h : WC P n c (blockQ id Q) f w) : WC P n (.block id c) Q f w := by
  refine ⟨fun a ha => ?_⟩
  refine wp_block (Code.wp_mono (fun e a' w' hq => ?_) (h.out a ha))
  obtain ⟨f', hr, hq⟩ := hq
  cases e with
  | exit id' =>
    by_cases hid : id' = id
    · simp only [blockQ, hid, if_true] at hq
      simp only [Exit.inBlock, hid, if_true]
      exact ⟨f', hr, hq⟩
    · simp only [blockQ, hid, if_false] at hq
      simp only [Exit.inBlock, hid, if_false]
      exact ⟨f', hr, hq⟩
  | normal => exact ⟨f', hr, hq⟩
  | ret => exact ⟨f', hr, hq⟩
  | goto l => exact ⟨f', hr, hq⟩
  | panic c => exact ⟨f', hr, hq⟩
  | outgrown => exact ⟨f', hr, hq⟩

theorem WC_region {id : Nat} {l : List Oper} (h : WL P n l.toArray (Q .normal) l f w) : WC P n (.region id l.toArray false) Q f w := by
  refine ⟨fun a ha => ?_⟩
  refine Code.wp_mono (fun e a' w' hq => ?_) (wp_region_lit (h.out a ha))
  obtain ⟨rfl, f', hr, hq⟩ := hq
  exact ⟨f', hr, hq⟩

theorem WC_draw (S : World → World → Prop) {id : Nat} {ops : Array Oper} (hm : P.follows .mixedOrders = true)
    (h : ∀ w1, Ext w w1 → WT P n ops (Q .normal) (S w1) ops.size (Array.replicate ops.size false) f w1) : WC P n (.region id ops true) Q f w := by
  refine ⟨fun a ha => ?_⟩
  refine Code.wp_mono (fun e a' w' hq => ?_) (wp_region_any hm (wpAny_of_T _ _ _ _ ((h _ (Ext.drawn w _)).out (by simp) ClosedL.none a ha)))
  obtain ⟨rfl, f', hr, hq⟩ := hq
  exact ⟨f', hr, hq⟩

/-! ### Loops -/

def updL (l : List (Nat × Value)) (f : Nat → Value) : Nat → Value :=
  match l with
  | [] => f
  | (d, v) :: r => upd (updL r f) d v

def memN (S : List Nat) (t : Nat) : Bool :=
  match S with
  | [] => false
  | d :: r => cond (Nat.beq t d) true (memN r t)

/-- On the slots of S the frame g, elsewhere f. -/
def mask (S : List Nat) (f g : Nat → Value) : Nat → Value := fun t => cond (memN S t) (g t) (f t)

def agree (S : List Nat) (f g : Nat → Value) : Prop := ∀ t, memN S t = false → f t = g t

theorem agree.refl (S : List Nat) (f : Nat → Value) : agree S f f := fun _ _ => rfl
theorem agree.upd {S : List Nat} {f g : Nat → Value} (h : agree S f g) {d : Nat} (hd : memN S d = true) (v : Value) : agree S (upd f d v) g := by
  intro t ht
  rw [upd_ne _ _ (fun e => by rw [e, hd] at ht; cases ht)]
  exact h t ht
theorem agree.updo {S : List Nat} {f g : Nat → Value} (h : agree S f g) {d : Option Nat} (hd : (match d with | none => true | some d => memN S d) = true) (v : Value) : agree S (updo f d v) g := by
  cases d with
  | none => exact h
  | some d => exact h.upd hd v
theorem agree.mask (S : List Nat) (f g : Nat → Value) : agree S (mask S f g) f := by
  intro t ht
  simp only [Go.Proofs.YtnkaebjaeaecmaaDoor.mask, ht, cond_false]
theorem agree.updL {S : List Nat} {f g : Nat → Value} (h : agree S f g) : ∀ (l : List (Nat × Value)), (l.all fun p => memN S p.1) = true → agree S (updL l f) g
  | [], _ => h
  | (d, v) :: r, hl => by
    simp only [List.all_cons, Bool.and_eq_true] at hl
    exact (agree.updL h r hl.2).upd hl.1 v

def holdsL (f : Nat → Value) : List (Nat × Value) → Prop
  | [] => True
  | (d, v) :: r => f d = v ∧ holdsL f r

theorem head_eq {S : List Nat} {f0 f : Nat → Value} (h : agree S f f0) : ∀ (l : List (Nat × Value)), holdsL f l → f = updL l (mask S f0 f)
  | [], _ => by
    funext t
    cases ht : memN S t with
    | true => simp only [updL, mask, ht, cond_true]
    | false => simp only [updL, mask, ht, cond_false]; exact h t ht
  | (d, v) :: r, hl => by
    funext t
    have ih := congrFun (head_eq h r hl.2) t
    by_cases e : t = d
    · subst e
      rw [updL, upd_same]; exact hl.1
    · rw [updL, upd_ne _ _ e]; exact ih

/-- A loop: S the slots that its body may write, L what the slots hold at its head, I what else holds there. -/
theorem WC_loop {σ : Type} (S : List Nat) (L : σ → List (Nat × Value)) (I : σ → World → Prop) (μ : σ → Nat) (s0 : σ) {c : Code}
    (hs : holdsL f (L s0)) (hi : I s0 w)
    (hb : ∀ s g w1, I s w1 → ∀ J : (Nat → Value) → World → Prop, (∀ f2 w2 s2, agree S f2 f → holdsL f2 (L s2) → I s2 w2 → μ s2 < μ s → J f2 w2) →
      WC P n c (thenQ J Q) (updL (L s) (mask S f g)) w1) : WC P n (.loop c) Q f w := by
  refine ⟨fun a ha => ?_⟩
  refine wp_loop_ghost (fun m a' w' => ∃ s f1, μ s = m ∧ Rep n f1 a' ∧ agree S f1 f ∧ holdsL f1 (L s) ∧ I s w') (μ s0) ⟨s0, f, rfl, ha, agree.refl _ _, hs, hi⟩ ?_
  rintro m a1 w1 ⟨s, f1, rfl, hr, hag, hl, hI⟩
  have hb' := hb s f1 w1 hI (fun f2 w2 => agree S f2 f ∧ ∃ s2, holdsL f2 (L s2) ∧ I s2 w2 ∧ μ s2 < μ s) (fun f2 w2 s2 h1 h2 h3 h4 => ⟨h1, s2, h2, h3, h4⟩)
  rw [← head_eq hag (L s) hl] at hb'
  refine Code.wp_mono (fun e a2 w2 hq => ?_) (hb'.out a1 hr)
  obtain ⟨f2, hr2, hq⟩ := hq
  cases e with
  | normal =>
    obtain ⟨hag2, s2, hl2, hI2, hlt⟩ := hq
    exact ⟨μ s2, hlt, s2, f2, rfl, hr2, hag2, hl2, hI2⟩
  | exit id => exact ⟨f2, hr2, hq⟩
  | goto l => exact ⟨f2, hr2, hq⟩
  | ret => exact ⟨f2, hr2, hq⟩
  | panic c => exact ⟨f2, hr2, hq⟩
  | outgrown => exact ⟨f2, hr2, hq⟩
end

end Go.Proofs.YtnkaebjaeaecmaaDoor
