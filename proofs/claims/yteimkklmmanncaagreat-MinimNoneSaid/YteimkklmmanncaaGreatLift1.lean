/- The core of our own way of walking (no program in it, no conditions): frames as functions, code by its ways out, regions that draw their order by taking what only reads first. One law for each operation of the model that our programs use: what its run comes to. One law for each operation that touche -/
import Derived.WalkKit
import Derived.OrdersHeld
import Derived.Deep.LoopGhost
import Derived.KernelRfl
import Derived.ProofKit
import Derived.OpenShut
import Derived.Laws.IdiomArrays
import Derived.Lib.SmallJoins
import Derived.Deep.Slices
namespace Go.Proofs.YteimkklmmanncaaGreat
set_option linter.unusedVariables false
set_option linter.unusedSimpArgs false
section
open Go Go.RowKit
structure zS (n : Nat) (f : Nat → Value) (a : Act) : Prop where
 defers : a.defers = []
 size : a.tmps.size = n
 get : ∀ t, a.tmps.getD t undef = f t
def upd (f : Nat → Value) (d : Nat) (v : Value) : Nat → Value := fun t => cond (Nat.beq t d) v (f t)
def updo (f : Nat → Value) (d : Option Nat) (v : Value) : Nat → Value :=
 match d with
 | none => f
 | some d => upd f d v
def jz (n : Nat) (d : Option Nat) : Bool :=
 match d with
 | none => true
 | some d => decide (d < n)
def dO (f : Nat → Value) (x : Operand) : Value :=
 match x with
 | .tmp t => f t
 | .const v => v
 | .global g => .pointer (some ⟨g, 0, none⟩)
 | .func k => .func (.func k) #[] #[]
theorem wl (f : Nat → Value) (d : Nat) (v : Value) : upd f d v d = v := by simp [upd]
theorem yK (f : Nat → Value) {d t : Nat} (v : Value) (h : t ≠ d) : upd f d v t = f t := by
 have e : Nat.beq t d = false := by cases hb : Nat.beq t d with | false => rfl | true => exact absurd (Nat.eq_of_beq_eq_true hb) h
 simp only [upd, e, cond_false]
theorem zS.eval {n : Nat} {f : Nat → Value} {a : Act} (h : zS n f a) : a.eval = dO f := by
 funext x
 cases x <;> simp only [Act.eval, dO, h.get]
theorem zS.put {n : Nat} {f : Nat → Value} {a : Act} (h : zS n f a) {d : Option Nat} (hd : jz n d = true) (v : Value) : zS n (updo f d v) (a.put d v) := by
 cases d with
 | none => exact h
 | some d =>
  have hlt : d < n := by simpa [jz] using hd
  refine ⟨h.defers, by simp [Act.put, h.size], fun t => ?_⟩
  have hg := h.get t
  simp only [Act.put, updo]
  by_cases e : t = d
  ·subst e
   rw [wl]
   simp [h.size, hlt]
  ·rw [yK _ _ e, ← hg]
   simp [Array.getElem?_setIfInBounds_ne (Ne.symm e)]
def CK (ops : Array Oper) (f : Nat → Value) (j : Nat) : Option Bool :=
 match (ops[j]?).bind (·.dst) with
 | none => none
 | some d => match f d with
  | .bool b => some b
  | _ => none
theorem zS.yielded {n : Nat} {f : Nat → Value} {a : Act} (h : zS n f a) (ops : Array Oper) (j : Nat) : yielded ops a.tmps j = CK ops f j := by
 unfold Go.yielded CK
 cases hd : (ops[j]?).bind (·.dst) with
 | none => simp
 | some d =>
  have hg := h.get d
  simp only [Option.bind_some]
  cases ht : a.tmps[d]? with
  | none => simp [ht] at hg; rw [← hg]; rfl
  | some v =>
   simp [ht] at hg
   rw [← hg]
   cases v <;> rfl
def gw (ops : Array Oper) (f : Nat → Value) (o : Oper) : Bool :=
 match o.guard with
 | none => true
 | some (j, want) => CK ops f j == some want
theorem zS.wanted {n : Nat} {f : Nat → Value} {a : Act} (h : zS n f a) (ops : Array Oper) (o : Oper) : Region.wanted o (Go.yielded ops a.tmps) = gw ops f o := by
 unfold Region.wanted gw
 cases o.guard with
 | none => rfl
 | some g => simp only [h.yielded]
def eo (w w' : World) : Prop := Below w.heap.size w w'
theorem eo.refl (w : World) : eo w w := Below.refl _ _
theorem eo.size {w w' : World} (h : eo w w') : w.heap.size ≤ w'.heap.size := Below.size h
theorem eo.trans {a b c : World} (h : eo a b) (k : eo b c) : eo a c := Below.trans h (Below.mono k (Below.size h))
theorem eo.block {w w' : World} (h : eo w w') {b : Nat} {o : Obj} (hb : w.heap[b]? = some o) : w'.heap[b]? = some o := by
 rw [Below.block h b (Array.getElem?_eq_some_iff.1 hb).1]; exact hb
theorem iF {w : World} {b : Nat} {o : Obj} (hb : w.heap[b]? = some o) : b < w.heap.size := (Array.getElem?_eq_some_iff.1 hb).1
theorem eo.drawn (w : World) (k : Nat) : eo w { w with drawn := k } := ⟨rfl, rfl, rfl, Nat.le_refl _, fun _ _ => rfl⟩
theorem eo.alloc (w : World) (o : Obj) : eo w (w.alloc o) := (Below.refl w.heap.size w).alloc (Nat.le_refl _) o
theorem dF {N : Nat} {a b c : World} (h : Below N a b) (k : eo b c) (hN : N ≤ a.heap.size) : Below N a c := Below.trans h (Below.mono k (Nat.le_trans hN (Below.size h)))
structure Fn (P : Program) (g : Nat) (vs : Array Value) (w : World) (Post : Value → World → Prop) : Prop where
 out : Calls P g vs w fun e w' => ∃ v, e = .returned v ∧ eo w w' ∧ Post v w'
theorem Fn.mono {P : Program} {g : Nat} {vs : Array Value} {w : World} {Post Post' : Value → World → Prop} (h : Fn P g vs w Post) (hp : ∀ v w', eo w w' → Post v w' → Post' v w') : Fn P g vs w Post' :=
 ⟨Calls.mono h.out fun _ _ ⟨v, he, hx, hq⟩ => ⟨v, he, hx, hp _ _ hx hq⟩⟩
structure Yd (P : Program) (o : Oper) (f : Nat → Value) (w : World) (K : Value → World → Prop) : Prop where
 out : ∀ a : Act, a.eval = dO f → ∀ Q, o.wp P a w (fun a' w' => ∃ v, a' = a.put o.dst v ∧ K v w') Q
theorem Yd.val {P : Program} {o : Oper} {f : Nat → Value} {w w' : World} {v : Value} {K : Value → World → Prop}
  (h : (execOp (dO f) o).run P w = .ok (.value v) w') (hK : K v w') : Yd P o f w K := by
 refine ⟨fun a ha Q => ?_⟩
 unfold Oper.wp
 rw [ha, h]
 exact ⟨v, rfl, hK⟩
theorem Yd.skip {P : Program} {o : Oper} {f : Nat → Value} {w w' : World} {K : Value → World → Prop}
  (h : (execOp (dO f) o).run P w = .ok .skip w') (hK : K undef w') : Yd P o f w K := by
 refine ⟨fun a ha Q => ?_⟩
 unfold Oper.wp
 rw [ha, h]
 exact ⟨undef, rfl, hK⟩
theorem Yd.call {P : Program} {o : Oper} {f : Nat → Value} {w : World} {g : Nat} {vs : Array Value} {K Post : Value → World → Prop}
  (h : (execOp (dO f) o).run P w = .ok (.enter g vs) w) (hc : Fn P g vs w Post) (hK : ∀ v w', eo w w' → Post v w' → K v w') : Yd P o f w K := by
 refine ⟨fun a ha Q => ?_⟩
 unfold Oper.wp
 rw [ha, h]
 refine Calls.mono hc.out fun e w' ⟨v, he, hx, hq⟩ => ?_
 subst he
 exact ⟨v, rfl, hK v w' hx hq⟩
theorem Yd.mono {P : Program} {o : Oper} {f : Nat → Value} {w : World} {K K' : Value → World → Prop} (h : Yd P o f w K) (hk : ∀ v w', K v w' → K' v w') : Yd P o f w K' := ⟨fun a ha Q => Oper.wp_mono (fun _ _ ⟨v, e, k⟩ => ⟨v, e, hk _ _ k⟩) (h.out a ha Q)⟩
section
variable (P : Program) (n : Nat) (ops : Array Oper) (Q : (Nat → Value) → World → Prop)
def Gy (n : Nat) (Q : (Nat → Value) → World → Prop) : Exit → Act → World → Prop :=
 fun e a w => e = .normal ∧ ∃ f, zS n f a ∧ Q f w
structure WL (l : List Oper) (f : Nat → Value) (w : World) : Prop where
 out : ∀ a, zS n f a → wpList P ops (Gy n Q) l a w
end
section
variable {P : Program} {n : Nat} {ops : Array Oper} {Q : (Nat → Value) → World → Prop} {f : Nat → Value} {w : World} {o : Oper} {rest : List Oper}
theorem cT (h : Q f w) : WL P n ops Q [] f w := ⟨fun _ ha => ⟨rfl, f, ha, h⟩⟩
theorem gS {dd : Option Nat} (hg : gw ops f o = true) (he : o.dst = dd) (hd : jz n dd = true) (h : Yd P o f w fun v w' => WL P n ops Q rest (updo f dd v) w') : WL P n ops Q (o :: rest) f w := by
 subst he
 refine ⟨fun a ha => ?_⟩
 unfold wpList
 rw [ha.wanted, if_pos hg]
 refine .inl (Oper.wp_mono (fun a' w' ⟨v, e, k⟩ => ?_) (h.out a ha.eval (Gy n Q)))
 subst e
 exact k.out _ (ha.put hd v)
theorem Lf {dd : Option Nat} (hg : gw ops f o = false) (he : o.dst = dd) (hd : jz n dd = true) (h : WL P n ops Q rest (updo f dd undef) w) : WL P n ops Q (o :: rest) f w := by
 subst he
 refine ⟨fun a ha => ?_⟩
 unfold wpList
 rw [ha.wanted, if_neg (by simp [hg])]
 exact h.out _ (ha.put hd undef)
theorem C6 {dd : Option Nat} {v : Value} {w' : World} (hg : gw ops f o = true) (he : o.dst = dd) (hd : jz n dd = true) (hr : (execOp (dO f) o).run P w = .ok (.value v) w')
  (h : WL P n ops Q rest (updo f dd v) w') : WL P n ops Q (o :: rest) f w := gS hg he hd (.val hr h)
theorem qp {dd : Option Nat} {g : Nat} {vs : Array Value} {Post : Value → World → Prop} (hg : gw ops f o = true) (he : o.dst = dd) (hd : jz n dd = true) (hr : (execOp (dO f) o).run P w = .ok (.enter g vs) w)
  (hc : Fn P g vs w Post) (h : ∀ v w', eo w w' → Post v w' → WL P n ops Q rest (updo f dd v) w') : WL P n ops Q (o :: rest) f w := gS hg he hd (.call hr hc h)
theorem Iw {dd : Option Nat} {b : Bool} (hg : gw ops f o = true) (he : o.dst = dd) (hd : jz n dd = true) (hr : (execOp (dO f) o).run P w = .ok (.value (.bool b)) w)
  (ht : b = true → WL P n ops Q rest (updo f dd (.bool true)) w) (hf : b = false → WL P n ops Q rest (updo f dd (.bool false)) w) : WL P n ops Q (o :: rest) f w := by
 cases b
 ·exact C6 hg he hd hr (hf rfl)
 ·exact C6 hg he hd hr (ht rfl)
end
def pZ (ops : Array Oper) (j k : Nat) : Bool :=
 match ops[j]? with
 | none => false
 | some o => o.after.any fun e => Region.binds .any e && e.on == k
def yt (ops : Array Oper) : Nat → Nat → Nat → Bool
 | 0, j, k => pZ ops j k
 | n + 1, j, k => pZ ops j k || (List.range ops.size).any fun m => pZ ops j m && yt ops n m k
def m4 (ops : Array Oper) (listed : Array Bool) (j : Nat) : Bool :=
 (List.range ops.size).all fun k => !listed.getD k false || yt ops 4 j k
theorem wL {ops : Array Oper} {j k : Nat} : pZ ops j k = true ↔ ∃ o, ops[j]? = some o ∧ ∃ e, e ∈ o.after ∧ Region.binds .any e = true ∧ e.on = k := by
 unfold pZ
 cases ops[j]? with
 | none => simp
 | some o =>
  simp only [Option.some.injEq, exists_eq_left']
  rw [Array.any_eq_true']
  exact ⟨fun ⟨e, h1, h2⟩ => ⟨e, h1, by simpa using h2⟩, fun ⟨e, h1, h2⟩ => ⟨e, h1, by simpa using h2⟩⟩
def l7 (ops : Array Oper) (L : Array Bool) : Prop := ∀ m k, L.getD m false = true → pZ ops m k = true → L.getD k false = true
theorem pq {L : Array Bool} {j k : Nat} : (L.setIfInBounds j true).getD k false = true ↔ (k = j ∧ j < L.size) ∨ L.getD k false = true := by
 simp only [Array.getD_eq_getD_getElem?, Array.getElem?_setIfInBounds]
 by_cases h : j = k
 ·subst h
  by_cases h2 : j < L.size
  ·simp [h2]
  ·simp [h2]
 ·have h3 : ¬ k = j := fun e => h e.symm
  simp [h, h3]
theorem l7.add {ops : Array Oper} {L : Array Bool} {j : Nat} (h : l7 ops L) (hj : j ∈ Region.ready .any ops L) : l7 ops (L.setIfInBounds j true) := fun m k hm hw => by
 rw [pq] at hm ⊢
 right
 rcases hm with ⟨rfl, _⟩ | hm
 ·obtain ⟨_, oj, hoj, hall⟩ := mem_ready.1 hj
  obtain ⟨o, ho, e, he, hb, rfl⟩ := wL.1 hw
  rw [hoj] at ho
  cases ho
  exact hall e he hb
 ·exact h m k hm hw
theorem l7.none {ops : Array Oper} {n : Nat} : l7 ops (Array.replicate n false) := fun m k hm _ => by
 simp [Array.getD_eq_getD_getElem?, Array.getElem?_replicate] at hm
 split at hm <;> simp at hm
theorem qL {ops : Array Oper} {L : Array Bool} (hcl : l7 ops L) : ∀ (n j k : Nat), (∀ m, pZ ops j m = true → L.getD m false = true) → yt ops n j k = true → L.getD k false = true
 | 0, j, k, hw, h => hw k h
 | n + 1, j, k, hw, h => by
  rw [yt, Bool.or_eq_true, List.any_eq_true] at h
  rcases h with h | ⟨m, _, h⟩
  ·exact hw k h
  ·rw [Bool.and_eq_true] at h
   exact qL hcl n m k (fun q hq => hcl m q (hw m h.1) hq) h.2
def Pr (P : Program) (ops : Array Oper) (Q : Exit → Act → World → Prop) (S : World → Prop) : Nat → Array Bool → Act → World → Prop
 | 0, L, a, w => Region.ready .any ops L = [] ∧ Q .normal a w
 | k + 1, L, a, w => (Region.ready .any ops L = [] → Q .normal a w) ∧
  ∀ i ∈ Region.ready .any ops L, wpOp P ops Q i (fun a' w' => (S w' ∨ m4 ops L i = true) ∧ Pr P ops Q S k (L.setIfInBounds i true) a' w') a w
section
variable {P : Program} {ops : Array Oper} {Q : Exit → Act → World → Prop} {S : World → Prop}
theorem vA : ∀ (k : Nat) (L : Array Bool) (a : Act) (w : World), Pr P ops Q S k L a w → wpAny P .any ops Q k L a w
 | 0, _, _, _, h => h
 | k + 1, _, _, _, h => ⟨h.1, fun i hi => wpOp_mono (fun a' w' h' => vA k _ a' w' h'.2) (h.2 i hi)⟩
theorem xS {i : Nat} {oi : Oper} {v : Value} (hi : ops[i]? = some oi) (hsel : ∀ (j : Nat) (o : Oper) cs b, ops[j]? = some o → o.op ≠ .select cs b)
  (hQ : ∀ c a w, Q (.panic c) (a.put oi.dst v) w → Q (.panic c) a w) :
  ∀ (k : Nat) (L : Array Bool) (a : Act) (w : World), L.size = ops.size →
   (∀ j oj, ops[j]? = some oj → j ≠ i → L.getD j true = false → (∀ e ∈ oj.after, Region.binds .any e = true → e.on ≠ i) → oi.apart ops oj = true) →
   i ∈ Region.ready .any ops L → l7 ops L → YieldsIf P ops S oi v a → S w →
   Pr P ops Q S k (L.setIfInBounds i true) (a.put oi.dst v) w → Pr P ops Q S (k + 1) L a w := by
 intro k
 induction k with
 | zero =>
  intro L a w hsz hfree hr hcl hy hS H
  refine ⟨fun h => (by rw [h] at hr; cases hr), fun j hj => ?_⟩
  by_cases hji : j = i
  ·subst hji
   exact hy.wpOp hi hS ⟨.inl hS, H⟩
  ·have := ready_mono hj hji
   rw [H.1] at this
   cases this
 | succ k ih =>
  intro L a w hsz hfree hr hcl hy hS H
  refine ⟨fun h => (by rw [h] at hr; cases hr), fun j hj => ?_⟩
  by_cases hji : j = i
  ·subst hji
   exact hy.wpOp hi hS ⟨.inl hS, H⟩
  ·have h1 := H.2 j (ready_mono hj hji)
   obtain ⟨hjun, oj, hoj, hall⟩ := mem_ready.1 hj
   have hiL : L.getD i true = false := (mem_ready.1 hr).1
   have hilt : i < ops.size := (Array.getElem?_eq_some_iff.1 hi).1
   have hnot : ∀ e ∈ oj.after, Region.binds .any e = true → e.on ≠ i := fun e he hb heq => by
    have h2 := hall e he hb
    rw [heq] at h2
    have hlt : i < L.size := by omega
    simp [hlt] at hiL h2
    rw [hiL] at h2
    cases h2
   have hnf : m4 ops (L.setIfInBounds i true) j = false := by
    cases hfb : m4 ops (L.setIfInBounds i true) j with
    | false => rfl
    | true =>
     simp only [m4, List.all_eq_true, List.mem_range] at hfb
     have h3 := hfb i hilt
     have hlt : i < L.size := by omega
     have hin : (L.setIfInBounds i true).getD i false = true := pq.2 (.inl ⟨rfl, hlt⟩)
     rw [hin, Bool.not_true, Bool.false_or] at h3
     have hw : ∀ k, pZ ops j k = true → L.getD k false = true := fun k hw => by
      obtain ⟨o, ho, e, he, hb, rfl⟩ := wL.1 hw
      rw [hoj] at ho
      cases ho
      exact hall e he hb
     have hno : L.getD i false = false := by
      simp only [Array.getD_eq_getD_getElem?, Array.getElem?_eq_getElem hlt, Option.getD_some] at hiL ⊢
      exact hiL
     rw [qL hcl 4 j i hw h3] at hno; cases hno
   have h2 := wpOp_putIf hoj (hfree j oj hoj hji hjun hnot) (fun cs b => hsel i oi cs b hi) (fun cs b => hsel j oj cs b hoj) hQ hy h1
   have hfree' : ∀ m om, ops[m]? = some om → m ≠ i → (L.setIfInBounds j true).getD m true = false →
     (∀ e ∈ om.after, Region.binds .any e = true → e.on ≠ i) → oi.apart ops om = true := fun m om hom hmi hun hno => by
    refine hfree m om hom hmi ?_ hno
    by_cases hjm : j = m
    ·subst hjm; exact hjun
    ·rw [getD_set_ne true hjm] at hun; exact hun
   refine wpOp_mono (fun a' w' h3 => ?_) h2
   have hS' : S w' := h3.2.1.resolve_right (by simp [hnf])
   refine ⟨.inl hS', ih (L.setIfInBounds j true) a' w' (by simpa using hsz) hfree' (ready_mono hr (Ne.symm hji)) (hcl.add hj) h3.1 hS' ?_⟩
   rw [Array.setIfInBounds_comm _ _ hji]
   exact h3.2.2
end
section
variable (P : Program) (n : Nat) (ops : Array Oper) (Q : (Nat → Value) → World → Prop) (S : World → Prop)
structure WT (k : Nat) (L : Array Bool) (f : Nat → Value) (w : World) : Prop where
 out : L.size = ops.size → l7 ops L → ∀ a, zS n f a → Pr P ops (Gy n Q) S k L a w
end
section
variable {P : Program} {n : Nat} {ops : Array Oper} {Q : (Nat → Value) → World → Prop} {S : World → Prop} {f : Nat → Value} {w : World} {k : Nat} {L : Array Bool}
theorem KT (hr : Region.ready .any ops L = []) (h : Q f w) : WT P n ops Q S k L f w := by
 refine ⟨fun _ _ a ha => ?_⟩
 cases k with
 | zero => exact ⟨hr, rfl, f, ha, h⟩
 | succ k => exact ⟨fun _ => ⟨rfl, f, ha, h⟩, by rw [hr]; simp⟩
theorem yM (i : Nat) {oi : Oper} {dd : Option Nat} {v : Value} (hi : ops[i]? = some oi) (hs : Region.noSelect ops = true) (hf : Region.free .any ops L i = true)
  (hr : (Region.ready .any ops L).contains i = true) (hg : gw ops f oi = true) (he0 : oi.dst = dd) (hd : jz n dd = true)
  (hv : ∀ w', S w' → (execOp (dO f) oi).run P w' = .ok (.value v) w') (hS : S w)
  (h : WT P n ops Q S k (L.setIfInBounds i true) (updo f dd v) w) : WT P n ops Q S (k + 1) L f w := by
 subst he0
 refine ⟨fun hsz hcl a ha => ?_⟩
 refine xS (v := v) hi (Region.noSelect_spec hs) (fun c a w h => nomatch h.1) k L a w hsz (Region.free_spec hi hf) (by simpa using hr) hcl ?_ hS ?_
 ·exact .inl ⟨by rw [ha.wanted]; exact hg, fun w' hw' => by rw [ha.eval]; exact hv w' hw'⟩
 ·exact h.out (by simpa using hsz) (hcl.add (by simpa using hr)) _ (ha.put hd v)
theorem IV (i : Nat) {oi : Oper} {dd : Option Nat} {b : Bool} (hi : ops[i]? = some oi) (hs : Region.noSelect ops = true) (hf : Region.free .any ops L i = true)
  (hr : (Region.ready .any ops L).contains i = true) (hg : gw ops f oi = true) (he0 : oi.dst = dd) (hd : jz n dd = true)
  (hv : ∀ w', S w' → (execOp (dO f) oi).run P w' = .ok (.value (.bool b)) w') (hS : S w)
  (ht : b = true → WT P n ops Q S k (L.setIfInBounds i true) (updo f dd (.bool true)) w)
  (he : b = false → WT P n ops Q S k (L.setIfInBounds i true) (updo f dd (.bool false)) w) : WT P n ops Q S (k + 1) L f w := by
 cases b
 ·exact yM i hi hs hf hr hg he0 hd hv hS (he rfl)
 ·exact yM i hi hs hf hr hg he0 hd hv hS (ht rfl)
theorem Ll (i : Nat) {oi : Oper} {dd : Option Nat} (hi : ops[i]? = some oi) (hs : Region.noSelect ops = true) (hf : Region.free .any ops L i = true)
  (hr : (Region.ready .any ops L).contains i = true) (hg : gw ops f oi = false) (he0 : oi.dst = dd) (hd : jz n dd = true) (hS : S w)
  (h : WT P n ops Q S k (L.setIfInBounds i true) (updo f dd undef) w) : WT P n ops Q S (k + 1) L f w := by
 subst he0
 refine ⟨fun hsz hcl a ha => ?_⟩
 refine xS (v := undef) hi (Region.noSelect_spec hs) (fun c a w h => nomatch h.1) k L a w hsz (Region.free_spec hi hf) (by simpa using hr) hcl ?_ hS ?_
 ·exact .inr ⟨by rw [ha.wanted]; exact hg, rfl⟩
 ·exact h.out (by simpa using hsz) (hcl.add (by simpa using hr)) _ (ha.put hd undef)
theorem EP {i : Nat} {oi : Oper} {dd : Option Nat} (hi : ops[i]? = some oi) (hg : gw ops f oi = true) (he0 : oi.dst = dd) (hd : jz n dd = true) {K : (Nat → Value) → World → Prop} {a : Act} (ha : zS n f a)
  {J : Act → World → Prop} (hJ : ∀ f' a' w', zS n f' a' → K f' w' → J a' w') (h : Yd P oi f w fun v w' => K (updo f dd v) w') : wpOp P ops (Gy n Q) i J a w := by
 subst he0
 unfold wpOp
 simp only [hi]
 rw [ha.wanted, if_pos hg]
 refine .inl (Oper.wp_mono (fun a' w' ⟨v, e, hk⟩ => ?_) (h.out a ha.eval (Gy n Q)))
 subst e
 exact hJ _ _ _ (ha.put hd v) hk
theorem q8 (i : Nat) {oi : Oper} {dd : Option Nat} (hr : Region.ready .any ops L = [i]) (hi : ops[i]? = some oi) (hg : gw ops f oi = true) (he0 : oi.dst = dd) (hd : jz n dd = true)
  (h : Yd P oi f w fun v w' => (S w' ∨ m4 ops L i = true) ∧ WT P n ops Q S k (L.setIfInBounds i true) (updo f dd v) w') : WT P n ops Q S (k + 1) L f w := by
 refine ⟨fun hsz hcl a ha => ?_⟩
 refine ⟨fun h0 => (by rw [hr] at h0; cases h0), fun j hj => ?_⟩
 have hj' := hj
 rw [hr, List.mem_singleton] at hj
 subst hj
 exact EP (K := fun f' w' => (S w' ∨ m4 ops L j = true) ∧ WT P n ops Q S k (L.setIfInBounds j true) f' w') hi hg he0 hd ha
  (fun f' a' w' hr' hk => ⟨hk.1, hk.2.out (by simpa using hsz) (hcl.add hj') a' hr'⟩) h
theorem HN (i j : Nat) {oi oj : Oper} {di dj : Option Nat} (hr : Region.ready .any ops L = [i, j]) (hi : ops[i]? = some oi) (hj : ops[j]? = some oj)
  (hgi : gw ops f oi = true) (hei : oi.dst = di) (hdi : jz n di = true) (hgj : gw ops f oj = true) (hej : oj.dst = dj) (hdj : jz n dj = true)
  (h1 : Yd P oi f w fun v w' => (S w' ∨ m4 ops L i = true) ∧ WT P n ops Q S k (L.setIfInBounds i true) (updo f di v) w')
  (h2 : Yd P oj f w fun v w' => (S w' ∨ m4 ops L j = true) ∧ WT P n ops Q S k (L.setIfInBounds j true) (updo f dj v) w') : WT P n ops Q S (k + 1) L f w := by
 refine ⟨fun hsz hcl a ha => ?_⟩
 refine ⟨fun h0 => (by rw [hr] at h0; cases h0), fun m hm => ?_⟩
 have hm' := hm
 rw [hr] at hm
 rcases List.mem_cons.1 hm with rfl | hm
 ·exact EP (K := fun f' w' => (S w' ∨ m4 ops L m = true) ∧ WT P n ops Q S k (L.setIfInBounds m true) f' w') hi hgi hei hdi ha
   (fun f' a' w' hr' hk => ⟨hk.1, hk.2.out (by simpa using hsz) (hcl.add hm') a' hr'⟩) h1
 ·rw [List.mem_singleton] at hm
  subst hm
  exact EP (K := fun f' w' => (S w' ∨ m4 ops L m = true) ∧ WT P n ops Q S k (L.setIfInBounds m true) f' w') hj hgj hej hdj ha
   (fun f' a' w' hr' hk => ⟨hk.1, hk.2.out (by simpa using hsz) (hcl.add hm') a' hr'⟩) h2
end
section
variable (P : Program) (n : Nat)
def PX (n : Nat) (Q : Exit → (Nat → Value) → World → Prop) : Exit → Act → World → Prop := fun e a w => ∃ f, zS n f a ∧ Q e f w
structure WC (c : Code) (Q : Exit → (Nat → Value) → World → Prop) (f : Nat → Value) (w : World) : Prop where
 out : ∀ a, zS n f a → c.wp P (PX n Q) a w
def wI (K : (Nat → Value) → World → Prop) (Q : Exit → (Nat → Value) → World → Prop) : Exit → (Nat → Value) → World → Prop
 | .normal => K
 | e => Q e
def re (id : Nat) (Q : Exit → (Nat → Value) → World → Prop) : Exit → (Nat → Value) → World → Prop
 | .exit id' => if id' = id then Q .normal else Q (.exit id')
 | e => Q e
end
section
variable {P : Program} {n : Nat} {Q : Exit → (Nat → Value) → World → Prop} {f : Nat → Value} {w : World}
theorem cY {x y : Code} (h : ∀ K : (Nat → Value) → World → Prop, (∀ f w, WC P n y Q f w → K f w) → WC P n x (wI K Q) f w) : WC P n (.seq x y) Q f w := by
 refine ⟨fun a ha => ?_⟩
 refine wp_seq (Code.wp_mono (fun e a' w' hq => ?_) ((h (WC P n y Q) (fun _ _ h => h)).out a ha))
 obtain ⟨f', hr, hq⟩ := hq
 cases e with
 | normal => exact hq.out a' hr
 | _ => exact ⟨f', hr, hq⟩
theorem j6 {K : (Nat → Value) → World → Prop} (h : Q .ret f w) : wI K Q .ret f w := h
theorem jp {id : Nat} (h : Q .ret f w) : re id Q .ret f w := h
theorem c9 (h : Q .normal f w) : WC P n .skip Q f w := ⟨fun _ ha => wp_skip ⟨f, ha, h⟩⟩
theorem vW (h : Q .ret f w) : WC P n .ret Q f w := ⟨fun _ ha => wp_ret ⟨f, ha, h⟩⟩
theorem dr {id : Nat} (h : Q (.exit id) f w) : WC P n (.exit id) Q f w := ⟨fun _ ha => wp_exit ⟨f, ha, h⟩⟩
theorem y6 {c : Operand} {x y : Code} {b : Bool} (hc : dO f c = .bool b) (ht : b = true → WC P n x Q f w) (hf : b = false → WC P n y Q f w) : WC P n (.cond c x y) Q f w := by
 refine ⟨fun a ha => ?_⟩
 refine wp_cond_split (t := b) (by rw [ha.eval]; exact hc) (fun h => (ht h).out a ha) (fun h => (hf h).out a ha)
theorem dz {c : Operand} {x y : Code} (hc : dO f c = .bool true) (ht : WC P n x Q f w) : WC P n (.cond c x y) Q f w := y6 hc (fun _ => ht) (fun h => by cases h)
theorem d4 {c : Operand} {x y : Code} (hc : dO f c = .bool false) (hf : WC P n y Q f w) : WC P n (.cond c x y) Q f w := y6 hc (fun h => by cases h) (fun _ => hf)
theorem c7 {id : Nat} {c : Code} (h : WC P n c (re id Q) f w) : WC P n (.block id c) Q f w := by
 refine ⟨fun a ha => ?_⟩
 refine wp_block (Code.wp_mono (fun e a' w' hq => ?_) (h.out a ha))
 obtain ⟨f', hr, hq⟩ := hq
 cases e with
 | exit id' =>
  by_cases hid : id' = id
  ·simp only [re, hid, if_true] at hq
   simp only [Exit.inBlock, hid, if_true]
   exact ⟨f', hr, hq⟩
  ·simp only [re, hid, if_false] at hq
   simp only [Exit.inBlock, hid, if_false]
   exact ⟨f', hr, hq⟩
 | normal => exact ⟨f', hr, hq⟩
 | ret => exact ⟨f', hr, hq⟩
 | goto l => exact ⟨f', hr, hq⟩
 | panic c => exact ⟨f', hr, hq⟩
 | outgrown => exact ⟨f', hr, hq⟩
theorem cZ {id : Nat} {l : List Oper} (h : WL P n l.toArray (Q .normal) l f w) : WC P n (.region id l.toArray false) Q f w := by
 refine ⟨fun a ha => ?_⟩
 refine Code.wp_mono (fun e a' w' hq => ?_) (wp_region_lit (h.out a ha))
 obtain ⟨rfl, f', hr, hq⟩ := hq
 exact ⟨f', hr, hq⟩
theorem gx (S : World → World → Prop) {id : Nat} {ops : Array Oper} (hm : P.follows .mixedOrders = true)
  (h : ∀ w1, eo w w1 → WT P n ops (Q .normal) (S w1) ops.size (Array.replicate ops.size false) f w1) : WC P n (.region id ops true) Q f w := by
 refine ⟨fun a ha => ?_⟩
 refine Code.wp_mono (fun e a' w' hq => ?_) (wp_region_any hm (vA _ _ _ _ ((h _ (eo.drawn w _)).out (by simp) l7.none a ha)))
 obtain ⟨rfl, f', hr, hq⟩ := hq
 exact ⟨f', hr, hq⟩
def updL (l : List (Nat × Value)) (f : Nat → Value) : Nat → Value :=
 match l with
 | [] => f
 | (d, v) :: r => upd (updL r f) d v
def oY (S : List Nat) (t : Nat) : Bool :=
 match S with
 | [] => false
 | d :: r => cond (Nat.beq t d) true (oY r t)
def mask (S : List Nat) (f g : Nat → Value) : Nat → Value := fun t => cond (oY S t) (g t) (f t)
def fz (S : List Nat) (f g : Nat → Value) : Prop := ∀ t, oY S t = false → f t = g t
theorem fz.refl (S : List Nat) (f : Nat → Value) : fz S f f := fun _ _ => rfl
theorem fz.upd {S : List Nat} {f g : Nat → Value} (h : fz S f g) {d : Nat} (hd : oY S d = true) (v : Value) : fz S (upd f d v) g := by
 intro t ht
 rw [yK _ _ (fun e => by rw [e, hd] at ht; cases ht)]
 exact h t ht
theorem fz.updo {S : List Nat} {f g : Nat → Value} (h : fz S f g) {d : Option Nat} (hd : (match d with | none => true | some d => oY S d) = true) (v : Value) : fz S (updo f d v) g := by
 cases d with
 | none => exact h
 | some d => exact h.upd hd v
theorem fz.mask (S : List Nat) (f g : Nat → Value) : fz S (mask S f g) f := by
 intro t ht
 simp only [Go.Proofs.YteimkklmmanncaaGreat.mask, ht, cond_false]
theorem fz.updL {S : List Nat} {f g : Nat → Value} (h : fz S f g) : ∀ (l : List (Nat × Value)), (l.all fun p => oY S p.1) = true → fz S (updL l f) g
 | [], _ => h
 | (d, v) :: r, hl => by
  simp only [List.all_cons, Bool.and_eq_true] at hl
  exact (fz.updL h r hl.2).upd hl.1 v
def pY (f : Nat → Value) : List (Nat × Value) → Prop
 | [] => True
 | (d, v) :: r => f d = v ∧ pY f r
theorem uc {S : List Nat} {f0 f : Nat → Value} (h : fz S f f0) : ∀ (l : List (Nat × Value)), pY f l → f = updL l (mask S f0 f)
 | [], _ => by
  funext t
  cases ht : oY S t with
  | true => simp only [updL, mask, ht, cond_true]
  | false => simp only [updL, mask, ht, cond_false]; exact h t ht
 | (d, v) :: r, hl => by
  funext t
  have ih := congrFun (uc h r hl.2) t
  by_cases e : t = d
  ·subst e
   rw [updL, wl]; exact hl.1
  ·rw [updL, yK _ _ e]; exact ih
theorem dw {σ : Type} (S : List Nat) (L : σ → List (Nat × Value)) (I : σ → World → Prop) (μ : σ → Nat) (s0 : σ) {c : Code}
  (hs : pY f (L s0)) (hi : I s0 w)
  (hb : ∀ s g w1, I s w1 → ∀ J : (Nat → Value) → World → Prop, (∀ f2 w2 s2, fz S f2 f → pY f2 (L s2) → I s2 w2 → μ s2 < μ s → J f2 w2) →
   WC P n c (wI J Q) (updL (L s) (mask S f g)) w1) : WC P n (.loop c) Q f w := by
 refine ⟨fun a ha => ?_⟩
 refine wp_loop_ghost (fun m a' w' => ∃ s f1, μ s = m ∧ zS n f1 a' ∧ fz S f1 f ∧ pY f1 (L s) ∧ I s w') (μ s0) ⟨s0, f, rfl, ha, fz.refl _ _, hs, hi⟩ ?_
 rintro m a1 w1 ⟨s, f1, rfl, hr, hag, hl, hI⟩
 have hb' := hb s f1 w1 hI (fun f2 w2 => fz S f2 f ∧ ∃ s2, pY f2 (L s2) ∧ I s2 w2 ∧ μ s2 < μ s) (fun f2 w2 s2 h1 h2 h3 h4 => ⟨h1, s2, h2, h3, h4⟩)
 rw [← uc hag (L s) hl] at hb'
 refine Code.wp_mono (fun e a2 w2 hq => ?_) (hb'.out a1 hr)
 obtain ⟨f2, hr2, hq⟩ := hq
 cases e with
 | normal =>
  obtain ⟨hag2, s2, hl2, hI2, hlt⟩ := hq
  exact ⟨μ s2, hlt, s2, f2, rfl, hr2, hag2, hl2, hI2⟩
 | exit id => exact ⟨f2, hr2, hq⟩
 | goto l => exact ⟨f2, hr2, hq⟩
 | ret => exact ⟨f2, hr2, hq⟩
 | panic c => exact ⟨f2, hr2, hq⟩
 | outgrown => exact ⟨f2, hr2, hq⟩
end
end
section
open Go Go.RowKit
def fp (P : Program) (t : TypeId) : Bool :=
 match P.underlying t with
 | some (.struct _) | some (.array _ _) | none => false
 | _ => (P.info? t).any fun i => i.size == 1
def kY (P : Program) (t : TypeId) : Option Nat :=
 match P.underlying t with
 | some (.struct _) | some (.array _ _) => (P.info? t).map (·.size)
 | _ => none
def fx (P : Program) (t : TypeId) (k : Nat) : Option Nat :=
 match P.underlying t with
 | some (.struct fs) => (fs[k]?).bind fun fd => if (P.info? fd.type).any (fun i => i.size != 0) then some fd.offset else none
 | _ => none
def fO (P : Program) (t : TypeId) : Option (TypeId × Nat × Nat) :=
 match P.underlying t with
 | some (.slice e) => (P.info? e).map fun i => (e, i.size, i.bytes)
 | _ => none
def Gg (P : Program) (t : TypeId) : Option (Nat × Nat) :=
 match P.underlying t with
 | some (.array n e) => (P.info? e).map fun i => (n, i.size)
 | _ => none
def eL (P : Program) (t : TypeId) : Option Value := (P.info? t).bind (·.zero)
def lK (P : Program) (t : TypeId) : Option (TypeId × TypeId) :=
 match P.underlying t with
 | some (.map k e) => some (k, e)
 | _ => none
def dC (P : Program) (g : Nat) : Bool :=
 match P.funcs[g]? with
 | some fn => !(fn.name == "runtime.NumGoroutine") && fn.body.isSome
 | none => false
theorem kV {P : Program} {t : TypeId} {k : Nat} (h : kY P t = some k) : (isAgg t).run P = Sem.run P (pure true) ∧ (sizeOf t).run P = Sem.run P (pure k) := by
 unfold kY at h
 cases hu : P.underlying t with
 | none => simp [hu] at h
 | some d =>
  cases hi : P.info? t with
  | none => cases d <;> simp [hu, hi] at h
  | some i =>
   cases d <;> simp [hu, hi] at h
   all_goals
    subst h
    exact ⟨by funext w; simp [isAgg, run_underlying hu], by funext w; simp [sizeOf, typeInfo, hi]⟩
theorem lR {P : Program} {t : TypeId} (h : fp P t = true) : (isAgg t).run P = Sem.run P (pure false) ∧ (sizeOf t).run P = Sem.run P (pure 1) := by
 unfold fp at h
 cases hu : P.underlying t with
 | none => simp [hu] at h
 | some d =>
  cases hi : P.info? t with
  | none => cases d <;> simp [hu, hi] at h
  | some i =>
   cases d <;> simp [hu, hi] at h
   all_goals exact ⟨by funext w; simp [isAgg, run_underlying hu], by funext w; simp [sizeOf, typeInfo, hi, h]⟩
section
variable {P : Program} {f : Nat → Value} {w : World} {d : Option Nat} {ty : TypeId} {ps : String} {af : Array Edge} {g : Option (Nat × Bool)} {x y c : Operand}
theorem kN {v : Value} (h : dO f x = v) : (execOp (dO f) ⟨d, .move x, ty, ps, af, g⟩).run P w = .ok (.value v) w := by subst h; rfl
theorem A2 {v : Value} (h : dO f x = v) : (execOp (dO f) ⟨d, .assign x, ty, ps, af, g⟩).run P w = .ok (.value v) w := by subst h; rfl
theorem Ji {v : Value} (hc : dO f c = .bool true) (h : dO f x = v) : (execOp (dO f) ⟨d, .pick c x y, ty, ps, af, g⟩).run P w = .ok (.value v) w := by
 subst h; simp [execOp, hc, asBool]
theorem IF {v : Value} (hc : dO f c = .bool false) (h : dO f y = v) : (execOp (dO f) ⟨d, .pick c x y, ty, ps, af, g⟩).run P w = .ok (.value v) w := by
 subst h; simp [execOp, hc, asBool]
theorem pp {a : Addr} (h : dO f x = .pointer (some a)) : (execOp (dO f) ⟨d, .nilCheck x, ty, ps, af, g⟩).run P w = .ok (.value (.pointer (some a))) w := by
 simp [execOp, h]
variable {t t2 : TypeId} {k : IntKind} {a b : Int}
theorem MI (hx : dO f x = .int k a) (hy : dO f y = .int k b) : (execOp (dO f) ⟨d, .binOp .add t x y t2, ty, ps, af, g⟩).run P w = .ok (.value (.int k (k.wrap (a + b)))) w := by
 simp [execOp, hx, hy, eqGuard, binOp, Op.intArith]
theorem Mt (hx : dO f x = .int k a) (hy : dO f y = .int k b) : (execOp (dO f) ⟨d, .binOp .sub t x y t2, ty, ps, af, g⟩).run P w = .ok (.value (.int k (k.wrap (a - b)))) w := by
 simp [execOp, hx, hy, eqGuard, binOp, Op.intArith]
theorem HQ (hx : dO f x = .int k a) (hy : dO f y = .int k b) : (execOp (dO f) ⟨d, .binOp .mul t x y t2, ty, ps, af, g⟩).run P w = .ok (.value (.int k (k.wrap (a * b)))) w := by
 simp [execOp, hx, hy, eqGuard, binOp, Op.intArith]
theorem PJ (hx : dO f x = .int k a) (hy : dO f y = .int k b) (hb : b ≠ 0) : (execOp (dO f) ⟨d, .binOp .quo t x y t2, ty, ps, af, g⟩).run P w = .ok (.value (.int k (k.wrap (a.tdiv b)))) w := by
 simp [execOp, hx, hy, eqGuard, binOp, Op.intDiv, hb]
theorem Po (hx : dO f x = .int k a) (hy : dO f y = .int k b) (hb : b ≠ 0) : (execOp (dO f) ⟨d, .binOp .rem t x y t2, ty, ps, af, g⟩).run P w = .ok (.value (.int k (a.tmod b))) w := by
 simp [execOp, hx, hy, eqGuard, binOp, Op.intDiv, hb]
theorem Pu (a b : Int) : (a == b) = decide (a = b) := Bool.eq_iff_iff.2 (by simp)
theorem eB (hx : dO f x = .int k a) (hy : dO f y = .int k b) : (execOp (dO f) ⟨d, .binOp .eql t x y t2, ty, ps, af, g⟩).run P w = .ok (.value (.bool (decide (a = b)))) w := by
 simp [execOp, hx, hy, eqGuard, binOp, Op.intCmp, Pu]
theorem f7 (hx : dO f x = .int k a) (hy : dO f y = .int k b) : (execOp (dO f) ⟨d, .binOp .neq t x y t2, ty, ps, af, g⟩).run P w = .ok (.value (.bool (decide (¬ a = b)))) w := by
 simp [execOp, hx, hy, eqGuard, binOp, Op.intCmp, bne, Pu]
theorem dL (hx : dO f x = .int k a) (hy : dO f y = .int k b) : (execOp (dO f) ⟨d, .binOp .lss t x y t2, ty, ps, af, g⟩).run P w = .ok (.value (.bool (decide (a < b)))) w := by
 simp [execOp, hx, hy, eqGuard, binOp, Op.intCmp]
theorem yi (hx : dO f x = .int k a) (hy : dO f y = .int k b) : (execOp (dO f) ⟨d, .binOp .leq t x y t2, ty, ps, af, g⟩).run P w = .ok (.value (.bool (decide (a ≤ b)))) w := by
 simp [execOp, hx, hy, eqGuard, binOp, Op.intCmp]
theorem iQ (hx : dO f x = .int k a) (hy : dO f y = .int k b) : (execOp (dO f) ⟨d, .binOp .gtr t x y t2, ty, ps, af, g⟩).run P w = .ok (.value (.bool (decide (b < a)))) w := by
 simp [execOp, hx, hy, eqGuard, binOp, Op.intCmp]
theorem nJ (hx : dO f x = .int k a) (hy : dO f y = .int k b) : (execOp (dO f) ⟨d, .binOp .geq t x y t2, ty, ps, af, g⟩).run P w = .ok (.value (.bool (decide (b ≤ a)))) w := by
 simp [execOp, hx, hy, eqGuard, binOp, Op.intCmp]
theorem zw {z : Int} (h1 : -9223372036854775808 ≤ z) (h2 : z ≤ 9223372036854775807) : IntKind.i64.wrap z = z := by
 rw [IntKind.wrap_i64]; omega
theorem dp (hx : dO f x = .int .i64 a) (hy : dO f y = .int .i64 b) (h1 : -9223372036854775808 ≤ a + b) (h2 : a + b ≤ 9223372036854775807) :
  (execOp (dO f) ⟨d, .binOp .add t x y t2, ty, ps, af, g⟩).run P w = .ok (.value (.int .i64 (a + b))) w := by rw [MI hx hy, zw h1 h2]
theorem kU (hx : dO f x = .int .i64 a) (hy : dO f y = .int .i64 b) (h1 : -9223372036854775808 ≤ a - b) (h2 : a - b ≤ 9223372036854775807) :
  (execOp (dO f) ⟨d, .binOp .sub t x y t2, ty, ps, af, g⟩).run P w = .ok (.value (.int .i64 (a - b))) w := by rw [Mt hx hy, zw h1 h2]
theorem I9 (hx : dO f x = .int .i64 a) (hy : dO f y = .int .i64 b) (h1 : -9223372036854775808 ≤ a * b) (h2 : a * b ≤ 9223372036854775807) :
  (execOp (dO f) ⟨d, .binOp .mul t x y t2, ty, ps, af, g⟩).run P w = .ok (.value (.int .i64 (a * b))) w := by rw [HQ hx hy, zw h1 h2]
def d5 : IntKind → Nat
 | .i8 => 1 | .i16 => 1 | .i32 => 2147483648 | .i64 => 9223372036854775808
 | .u8 => 256 | .u16 => 65536 | .u32 => 4294967296 | .u64 => 18446744073709551616
theorem ko {k : IntKind} {m : Nat} (h : m < d5 k) : k.wrap (m : Int) = (m : Int) := by
 cases k <;> simp only [d5] at h
 ·obtain rfl : m = 0 := by omega
  rfl
 ·obtain rfl : m = 0 := by omega
  rfl
 ·rw [IntKind.wrap_i32]; omega
 ·rw [IntKind.wrap_i64]; omega
 ·rw [IntKind.wrap_u8]; omega
 ·rw [IntKind.wrap_u16]; omega
 ·rw [IntKind.wrap_u32]; omega
 ·rw [IntKind.wrap_u64]; omega
variable {m n : Nat}
theorem ro (hx : dO f x = .int k (m : Int)) (hy : dO f y = .int k b) (hb : b = (n : Int)) (hn : 0 < n) (hm : m < d5 k) :
  (execOp (dO f) ⟨d, .binOp .quo t x y t2, ty, ps, af, g⟩).run P w = .ok (.value (.int k ((m / n : Nat) : Int))) w := by
 subst hb
 rw [PJ hx hy (by omega)]
 have e : (m : Int).tdiv (n : Int) = ((m / n : Nat) : Int) := by rw [Int.tdiv_eq_ediv_of_nonneg (by omega)]; simp
 rw [e, ko (Nat.lt_of_le_of_lt (Nat.div_le_self _ _) hm)]
theorem vl (hx : dO f x = .int k (m : Int)) (hy : dO f y = .int k b) (hb : b = (n : Int)) (hn : 0 < n) :
  (execOp (dO f) ⟨d, .binOp .rem t x y t2, ty, ps, af, g⟩).run P w = .ok (.value (.int k ((m % n : Nat) : Int))) w := by
 subst hb
 rw [Po hx hy (by omega)]
 have e : (m : Int).tmod (n : Int) = ((m % n : Nat) : Int) := by rw [Int.tmod_eq_emod_of_nonneg (by omega)]; simp
 rw [e]
theorem Cn (hx : dO f x = .int k (m : Int)) (hy : dO f y = .int k b) (hb : b = (n : Int)) (hm : m + n < d5 k) :
  (execOp (dO f) ⟨d, .binOp .add t x y t2, ty, ps, af, g⟩).run P w = .ok (.value (.int k ((m + n : Nat) : Int))) w := by
 subst hb
 rw [MI hx hy]
 have e : (m : Int) + (n : Int) = ((m + n : Nat) : Int) := by simp
 rw [e, ko hm]
theorem Jc (hx : dO f x = .int k (m : Int)) (hy : dO f y = .int k b) (hb : b = (n : Int)) (hm : m * n < d5 k) :
  (execOp (dO f) ⟨d, .binOp .mul t x y t2, ty, ps, af, g⟩).run P w = .ok (.value (.int k ((m * n : Nat) : Int))) w := by
 subst hb
 rw [HQ hx hy]
 have e : (m : Int) * (n : Int) = ((m * n : Nat) : Int) := by simp
 rw [e, ko hm]
theorem tn (B m : Nat) (h : m < 2 ^ B) : (BitVec.ofInt B (m : Int)).toNat = m := by
 rw [BitVec.toNat_ofInt]
 have e : ((m : Int) % ((2 ^ B : Nat) : Int)).toNat = m := by
  rw [Int.emod_eq_of_lt (by omega) (by exact_mod_cast h)]; simp
 exact e
theorem uN (k : IntKind) : d5 k ≤ 2 ^ k.bits := by cases k <;> simp [d5, IntKind.bits]
theorem vw (k : IntKind) : ∃ j, d5 k = 2 ^ j := by
 cases k
 ·exact ⟨0, rfl⟩
 ·exact ⟨0, rfl⟩
 ·exact ⟨31, rfl⟩
 ·exact ⟨63, rfl⟩
 ·exact ⟨8, rfl⟩
 ·exact ⟨16, rfl⟩
 ·exact ⟨32, rfl⟩
 ·exact ⟨64, rfl⟩
theorem DI {k : IntKind} (hm : m < d5 k) : m &&& n < d5 k := by
 obtain ⟨j, e⟩ := vw k
 rw [e] at hm ⊢
 rw [Nat.and_comm]
 exact Nat.and_lt_two_pow _ hm
theorem OU {k : IntKind} (hm : m < d5 k) (hn : n < d5 k) : m ||| n < d5 k := by
 obtain ⟨j, e⟩ := vw k
 rw [e] at hm hn ⊢
 exact Nat.or_lt_two_pow hm hn
theorem D2 {k : IntKind} (hm : m < d5 k) (hn : n < d5 k) : m ^^^ n < d5 k := by
 obtain ⟨j, e⟩ := vw k
 rw [e] at hm hn ⊢
 exact Nat.xor_lt_two_pow hm hn
def andNot (m n : Nat) : Nat := m ^^^ (m &&& n)
theorem eh (m n i : Nat) : (andNot m n).testBit i = (m.testBit i && !n.testBit i) := by
 simp only [andNot, Nat.testBit_xor, Nat.testBit_and]
 cases m.testBit i <;> cases n.testBit i <;> rfl
theorem CN {k : IntKind} (hm : m < d5 k) : andNot m n < d5 k := D2 hm (DI hm)
theorem qx (m n : Nat) : andNot m n ≤ m := by
 have e : andNot m n = m &&& andNot m n := by
  refine Nat.eq_of_testBit_eq fun i => ?_
  rw [Nat.testBit_and, eh]
  cases m.testBit i <;> rfl
 rw [e]
 exact Nat.and_le_left
theorem mb {k : IntKind} {m : Nat} (h : m < d5 k) : (BitVec.ofInt k.bits (m : Int)).toNat = m := tn _ _ (Nat.lt_of_lt_of_le h (uN k))
theorem nE (hx : dO f x = .int k (m : Int)) (hy : dO f y = .int k b) (hb : b = (n : Int)) (hm : m < d5 k) (hn : n < d5 k) :
  (execOp (dO f) ⟨d, .binOp .and t x y t2, ty, ps, af, g⟩).run P w = .ok (.value (.int k ((m &&& n : Nat) : Int))) w := by
 subst hb
 have e : (BitVec.ofInt k.bits (m : Int) &&& BitVec.ofInt k.bits (n : Int)).toNat = m &&& n := by
  rw [BitVec.toNat_and, mb hm, mb hn]
 simp only [execOp, hx, hy, eqGuard, binOp, Op.intBits, e, ko (DI (n := n) hm)]
 simp
theorem Cq (hx : dO f x = .int k (m : Int)) (hy : dO f y = .int k b) (hb : b = (n : Int)) (hm : m < d5 k) (hn : n < d5 k) :
  (execOp (dO f) ⟨d, .binOp .or t x y t2, ty, ps, af, g⟩).run P w = .ok (.value (.int k ((m ||| n : Nat) : Int))) w := by
 subst hb
 have e : (BitVec.ofInt k.bits (m : Int) ||| BitVec.ofInt k.bits (n : Int)).toNat = m ||| n := by
  rw [BitVec.toNat_or, mb hm, mb hn]
 simp only [execOp, hx, hy, eqGuard, binOp, Op.intBits, e, ko (OU hm hn)]
 simp
theorem JN (hx : dO f x = .int k (m : Int)) (hy : dO f y = .int k b) (hb : b = (n : Int)) (hm : m < d5 k) (hn : n < d5 k) :
  (execOp (dO f) ⟨d, .binOp .xor t x y t2, ty, ps, af, g⟩).run P w = .ok (.value (.int k ((m ^^^ n : Nat) : Int))) w := by
 subst hb
 have e : (BitVec.ofInt k.bits (m : Int) ^^^ BitVec.ofInt k.bits (n : Int)).toNat = m ^^^ n := by
  rw [BitVec.toNat_xor, mb hm, mb hn]
 simp only [execOp, hx, hy, eqGuard, binOp, Op.intBits, e, ko (D2 hm hn)]
 simp
theorem pB (hx : dO f x = .int k (m : Int)) (hy : dO f y = .int k b) (hb : b = (n : Int)) (hm : m < d5 k) (hn : n < d5 k) :
  (execOp (dO f) ⟨d, .binOp .andNot t x y t2, ty, ps, af, g⟩).run P w = .ok (.value (.int k ((andNot m n : Nat) : Int))) w := by
 subst hb
 have e : (BitVec.ofInt k.bits (m : Int) &&& ~~~BitVec.ofInt k.bits (n : Int)).toNat = andNot m n := by
  have h1 := tn _ _ (Nat.lt_of_lt_of_le hm (uN k))
  have h2 := tn _ _ (Nat.lt_of_lt_of_le hn (uN k))
  refine Nat.eq_of_testBit_eq fun i => ?_
  rw [eh, BitVec.testBit_toNat, BitVec.getLsbD_and, BitVec.getLsbD_not]
  rw [← BitVec.testBit_toNat, ← BitVec.testBit_toNat, h1, h2]
  by_cases hi : i < k.bits
  ·simp [hi]
  ·have : m.testBit i = false := Nat.testBit_lt_two_pow (Nat.lt_of_lt_of_le (Nat.lt_of_lt_of_le hm (uN k)) (Nat.pow_le_pow_right (by omega) (by omega)))
   simp [this]
 simp only [execOp, hx, hy, eqGuard, binOp, Op.intBits, e, ko (CN hm)]
 simp
def lN : IntKind → Nat
 | .i8 => 0 | .i16 => 0 | .i32 => 31 | .i64 => 63 | .u8 => 8 | .u16 => 16 | .u32 => 32 | .u64 => 64
theorem rO (k : IntKind) (j : Nat) (h : j < lN k) : 1 * 2 ^ j < d5 k := by
 rw [Nat.one_mul]
 have e : d5 k = 2 ^ lN k := by cases k <;> rfl
 rw [e]
 exact Nat.pow_lt_pow_right (by decide) h
theorem jB {yk : IntKind} (hx : dO f x = .int k (m : Int)) (hy : dO f y = .int yk b) (hb : 0 ≤ b) (hlt : b ≤ k.bits) (hm : m * 2 ^ b.toNat < d5 k) :
  (execOp (dO f) ⟨d, .binOp .shl t x y t2, ty, ps, af, g⟩).run P w = .ok (.value (.int k ((m * 2 ^ b.toNat : Nat) : Int))) w := by
 have hn : ¬ b < 0 := by omega
 have hmin : min b.toNat k.bits = b.toNat := Nat.min_eq_left (by omega)
 have e : (m : Int) * 2 ^ b.toNat = ((m * 2 ^ b.toNat : Nat) : Int) := by simp
 simp [execOp, hx, hy, eqGuard, binOp, Op.shift, hn, hmin]
 rw [e, ko hm]
theorem M2 {yk : IntKind} (hx : dO f x = .int k a) (hy : dO f y = .int yk b) (hb : 0 ≤ b) :
  (execOp (dO f) ⟨d, .binOp .shl t x y t2, ty, ps, af, g⟩).run P w = .ok (.value (.int k (k.wrap (a * 2 ^ (min b.toNat k.bits))))) w := by
 have hn : ¬ b < 0 := by omega
 simp [execOp, hx, hy, eqGuard, binOp, Op.shift, hn]
theorem sL {yk : IntKind} (hx : dO f x = .int k (m : Int)) (hy : dO f y = .int yk b) (hb : 0 ≤ b) (hlt : b ≤ k.bits) :
  (execOp (dO f) ⟨d, .binOp .shr t x y t2, ty, ps, af, g⟩).run P w = .ok (.value (.int k ((m / 2 ^ b.toNat : Nat) : Int))) w := by
 have hn : ¬ b < 0 := by omega
 have hmin : min b.toNat k.bits = b.toNat := Nat.min_eq_left (by omega)
 have e : (m : Int).fdiv (2 ^ b.toNat) = ((m / 2 ^ b.toNat : Nat) : Int) := by
  have e2 : (2 : Int) ^ b.toNat = ((2 ^ b.toNat : Nat) : Int) := by simp
  have h0 : (0 : Int) ≤ ((2 ^ b.toNat : Nat) : Int) := Int.natCast_nonneg _
  rw [e2, Int.fdiv_eq_ediv_of_nonneg _ h0]
  simp
 simp [execOp, hx, hy, eqGuard, binOp, Op.shift, hn, hmin, e]
theorem fy {b : Bool} (h : dO f x = .bool b) : (execOp (dO f) ⟨d, .unOp .not t x, ty, ps, af, g⟩).run P w = .ok (.value (.bool (!b))) w := by
 simp [execOp, h, Op.unary]
theorem OL {a b : Bool} (hx : dO f x = .bool a) (hy : dO f y = .bool b) (ht : P.underlying t = some .bool) : (execOp (dO f) ⟨d, .binOp .eql t x y t2, ty, ps, af, g⟩).run P w = .ok (.value (.bool (decide (a = b)))) w := by
 have e : decide (a = b) = (a == b) := by cases a <;> cases b <;> rfl
 rw [e]
 have h := run_equalIn_bool' (P := P) w 9999 t a b ht
 simp [execOp, hx, hy, eqGuard, binOp, Op.equal, Op.maxDepth, h]
variable {v0 v1 v2 v3 : Value}
theorem dI (h : dO f x = .tuple #[v0, v1]) : (execOp (dO f) ⟨d, .extract x 0, ty, ps, af, g⟩).run P w = .ok (.value v0) w := by simp [execOp, h, Instr.extract]
theorem dK (h : dO f x = .tuple #[v0, v1]) : (execOp (dO f) ⟨d, .extract x 1, ty, ps, af, g⟩).run P w = .ok (.value v1) w := by simp [execOp, h, Instr.extract]
theorem mz (h : dO f x = .tuple #[v0, v1, v2]) : (execOp (dO f) ⟨d, .extract x 0, ty, ps, af, g⟩).run P w = .ok (.value v0) w := by simp [execOp, h, Instr.extract]
theorem sF (h : dO f x = .tuple #[v0, v1, v2]) : (execOp (dO f) ⟨d, .extract x 1, ty, ps, af, g⟩).run P w = .ok (.value v1) w := by simp [execOp, h, Instr.extract]
theorem sN (h : dO f x = .tuple #[v0, v1, v2]) : (execOp (dO f) ⟨d, .extract x 2, ty, ps, af, g⟩).run P w = .ok (.value v2) w := by simp [execOp, h, Instr.extract]
theorem z7 (h : dO f x = .tuple #[v0, v1, v2, v3]) : (execOp (dO f) ⟨d, .extract x 0, ty, ps, af, g⟩).run P w = .ok (.value v0) w := by simp [execOp, h, Instr.extract]
theorem Aa (h : dO f x = .tuple #[v0, v1, v2, v3]) : (execOp (dO f) ⟨d, .extract x 1, ty, ps, af, g⟩).run P w = .ok (.value v1) w := by simp [execOp, h, Instr.extract]
theorem Bl (h : dO f x = .tuple #[v0, v1, v2, v3]) : (execOp (dO f) ⟨d, .extract x 2, ty, ps, af, g⟩).run P w = .ok (.value v2) w := by simp [execOp, h, Instr.extract]
theorem Av (h : dO f x = .tuple #[v0, v1, v2, v3]) : (execOp (dO f) ⟨d, .extract x 3, ty, ps, af, g⟩).run P w = .ok (.value v3) w := by simp [execOp, h, Instr.extract]
theorem Gq {k' : IntKind} {desc : TypeDesc} (h : dO f x = .int k a) (hs : P.underlying t = some desc) (ht : P.underlying t2 = some (.int k')) :
  (execOp (dO f) ⟨d, .convert t t2 x, ty, ps, af, g⟩).run P w = .ok (.value (.int k' (k'.wrap a))) w := by
 simp [execOp, h, convert, run_underlying hs, run_underlying ht, Conv.intToInt]
theorem jt {k' : IntKind} {desc : TypeDesc} (h : dO f x = .int k (m : Int)) (hs : P.underlying t = some desc) (ht : P.underlying t2 = some (.int k')) (hm : m < d5 k') :
  (execOp (dO f) ⟨d, .convert t t2 x, ty, ps, af, g⟩).run P w = .ok (.value (.int k' (m : Int))) w := by rw [Gq h hs ht, ko hm]
theorem zi {P : Program} {w : World} {q : Nat} {vs : Array Value} (h : dC P q = true) : (callFunc q vs).run P w = .ok (.enter q vs) w := by
 unfold dC at h
 cases hf : P.funcs[q]? with
 | none => simp [hf] at h
 | some fn =>
  simp only [hf, Bool.and_eq_true, Bool.not_eq_true', beq_eq_false_iff_ne, ne_eq] at h
  obtain ⟨b, hb⟩ := Option.isSome_iff_exists.1 h.2
  simp [callFunc, hf, h.1, hb]
theorem jV {q : Nat} {args : Array Operand} {tys : Array TypeId} {first cap : Array Value} {vs : Array Value} (hq : dO f c = .func (.func q) first cap) (hc : dC P q = true) (hv : (first ++ args.map (dO f)) ++ cap = vs) :
  (execOp (dO f) ⟨d, .call ⟨.value c, args, tys⟩, ty, ps, af, g⟩).run P w = .ok (.enter q vs) w := by
 subst hv
 simp [execOp, resolve, hq, Deferred.ofValue, invoke, zi hc]
theorem ug {q : Nat} {tys : Array TypeId} {x0 x1 : Operand} (hc : dC P q = true) (h0 : dO f x0 = v0) (h1 : dO f x1 = v1) :
  (execOp (dO f) ⟨d, .call ⟨.value (.func q), #[x0, x1], tys⟩, ty, ps, af, g⟩).run P w = .ok (.enter q #[v0, v1]) w := jV rfl hc (by simp [h0, h1])
theorem vQ {q : Nat} {tys : Array TypeId} {x0 x1 : Operand} (hq : dO f c = .func (.func q) #[] #[]) (hc : dC P q = true) (h0 : dO f x0 = v0) (h1 : dO f x1 = v1) :
  (execOp (dO f) ⟨d, .call ⟨.value c, #[x0, x1], tys⟩, ty, ps, af, g⟩).run P w = .ok (.enter q #[v0, v1]) w := jV hq hc (by simp [h0, h1])
theorem gV {q : Nat} {caps : Array Operand} {vs : Array Value} (h : caps.map (dO f) = vs) :
  (execOp (dO f) ⟨d, .makeFunc (.func q) #[] caps, ty, ps, af, g⟩).run P w = .ok (.value (.func (.func q) #[] vs)) w := by
 subst h; simp [execOp, Instr.makeFunc]
end
theorem Bj {P : Program} (w : World) (E : Value → Value → Sem Bool) (A B : Nat → Sem Value) (r : Nat → Bool) (x y : Nat → Value) (n : Nat)
  (hA : ∀ i, i < n → (A i).run P w = .ok (x i) w) (hB : ∀ i, i < n → (B i).run P w = .ok (y i) w) (hE : ∀ i, i < n → (E (x i) (y i)).run P w = .ok (r i) w) :
  Sem.run P (do
   for i in [0:n] do
    if !(← E (← A i) (← B i)) then return false
   pure true) w = .ok ((List.range n).all r) w := by
 simp only [Std.Legacy.Range.forIn_eq_forIn_range', Std.Legacy.Range.size, Nat.sub_zero, Nat.add_sub_cancel, Nat.div_one]
 rw [List.range_eq_range']
 have key : ∀ l : List Nat, (∀ i ∈ l, i < n) → Sem.run P (forIn l ((none, ()) : Option Bool × Unit) fun i _ => do
    let a ← A i
    let b ← B i
    let q ← E a b
    if (!q) = true then pure (ForInStep.done (some false, ())) else pure (ForInStep.yield (none, ()))) w = .ok (if l.all r then (none, ()) else (some false, ())) w := by
  intro l
  induction l with
  | nil => intro _; simp
  | cons i l ih =>
   intro hl
   have hi := hl i (List.mem_cons_self ..)
   have ih' := ih (fun j hj => hl j (List.mem_cons_of_mem _ hj))
   simp only [List.forIn_cons, Sem.run_bind, hA i hi, hB i hi, hE i hi, Result.andThen_ok, List.all_cons]
   by_cases hr : r i = true
   ·simpa [hr] using ih'
   ·simp [hr]
 rw [Sem.run_bind, key (List.range' 0 n) (by simp), Result.andThen_ok]
 cases (List.range' 0 n).all r <;> simp
theorem oP {P : Program} (w : World) (d n : Nat) (t e : TypeId) (xs ys : Array Value) (x y : Nat → Value) (r : Nat → Bool) (ht : P.underlying t = some (.array n e)) (hs : (P.info? e).map (·.size) = some 1) (ha : (isAgg e).run P w = .ok false w)
  (hx : ∀ i, i < n → xs[i]? = some (x i)) (hy : ∀ i, i < n → ys[i]? = some (y i)) (hE : ∀ i, i < n → (Op.equalIn d e (x i) (y i)).run P w = .ok (r i) w) :
  (Op.equalIn (d + 1) t (.agg xs) (.agg ys)).run P w = .ok ((List.range n).all r) w := by
 obtain ⟨j5, hj5, hs5⟩ := Option.map_eq_some_iff.1 hs
 have h := Bj (P := P) w (Op.equalIn d e) (fun i => part e xs (i * 1)) (fun i => part e ys (i * 1)) r x y n
  (fun i hi => by simp [part, ha, hx i hi]) (fun i hi => by simp [part, ha, hy i hi]) hE
 simp only [Op.equalIn, Sem.run_bind, run_underlying ht, Result.andThen_ok, sizeOf, typeInfo]
 simp only [run_program, hj5, Sem.run_pure, Result.andThen_ok, hs5]
 simp only [Sem.run_bind] at h
 exact h
end
section
open Go Go.RowKit
def At (w : World) (b : Nat) (c : Array Value) (T : TypeId) : Prop := w.heap[b]? = some (.cells c T (0, 0))
section
variable {w w' : World} {b b' : Nat} {c : Array Value} {T : TypeId} {o : Nat} {v : Value}
theorem At.lt (h : At w b c T) : b < w.heap.size := iF h
theorem eo.at (h : eo w w') (k : At w b c T) : At w' b c T := eo.block h k
theorem At.grown {row : Option Nat} (k : At w b c T) (h : w.grownBy w' row) (hne : some b ≠ row) : At w' b c T := by
 unfold At
 rw [h.block b k.lt hne]
 exact k
theorem At.cell (k : At w b c T) (hc : c[o]? = some v) : w.cell? ⟨b, o, none⟩ = some v := by
 rw [cell_of_row w b o c T (0, 0) k]; exact hc
theorem At.neT {T' : TypeId} {c' : Array Value} (k : At w b c T) (k' : At w b' c' T') (hT : T ≠ T') : b ≠ b' := by
 rintro rfl
 unfold At at k k'
 rw [k] at k'
 simp only [Option.some.injEq, Obj.cells.injEq] at k'
 exact hT k'.2.1
theorem eo.of_grown (h : w.grownBy w' none) : eo w w' := ⟨h.os, h.tape, h.output, h.size, fun k hk => h.block k hk (by simp)⟩
theorem eo.grown (h : eo w w') (row : Option Nat) : w.grownBy w' row := ⟨Below.os h, Below.tape h, Below.output h, Below.size h, fun k hk _ => Below.block h k hk⟩
theorem eo.cell (h : eo w w') {p : Addr} {v : Value} (k : w.cell? p = some v) : w'.cell? p = some v := by
 rw [Below.cell h (World.block_lt_of_cell? w p k)]; exact k
theorem dy {N : Nat} {a : World} {row : Option Nat} (h : Below N a w) (hg : w.grownBy w' row) (hN : N ≤ a.heap.size) (hr : ∀ k, row = some k → N ≤ k) : Below N a w' :=
 Below.grown h hg (Nat.le_trans hN (Below.size h)) hr
end
theorem gR (b o k : Nat) : (⟨b, o, none⟩ : Addr).add k = ⟨b, o + k, none⟩ := by
 unfold Addr.add
 split
 ·subst_vars; rfl
 ·rfl
section
variable {P : Program} {f : Nat → Value} {w : World} {d : Option Nat} {ty : TypeId} {ps : String} {af : Array Edge} {g : Option (Nat × Bool)} {x y : Operand}
variable {t : TypeId} {b o : Nat} {v : Value} {c : Array Value} {T : TypeId} {K : Value → World → Prop}
theorem dk (hx : dO f x = .pointer (some ⟨b, o, none⟩)) (hT : fp P t = true) (hc : w.cell? ⟨b, o, none⟩ = some v) :
  (execOp (dO f) ⟨d, .load t x, ty, ps, af, g⟩).run P w = .ok (.value v) w := by
 have h1 := congrFun (lR hT).1 w
 simp [execOp, hx, Instr.loadAt, Instr.sureAddr, loadVar, h1, load, Sem.run, hc]
theorem run_loadCells_list (P : Program) (w : World) (a : Addr) : ∀ (vs : List Value) (i : Nat) (acc : Array Value), (∀ j u, vs[j]? = some u → w.cell? (a.add (i + j)) = some u) →
  (loadCellsFrom a i vs.length acc).run P w = .ok (acc ++ vs.toArray) w
 | [], i, acc, _ => by simp [loadCellsFrom]
 | u :: r, i, acc, h => by
  have h0 := h 0 u rfl
  rw [Nat.add_zero] at h0
  have ih := run_loadCells_list P w a r (i + 1) (acc.push u) (fun j v hv => by have := h (j + 1) v (by simpa using hv); rwa [show i + 1 + j = i + (j + 1) from by omega])
  simp only [List.length_cons, loadCellsFrom, Sem.run_bind, load, Sem.run, h0, Result.andThen_ok, ih]
  simp
theorem uu {vs : List Value} {k : Nat} (hx : dO f x = .pointer (some ⟨b, o, none⟩)) (hT : kY P t = some k) (hk : k = vs.length) (hc : ∀ j u, vs[j]? = some u → w.cell? ⟨b, o + j, none⟩ = some u) :
  (execOp (dO f) ⟨d, .load t x, ty, ps, af, g⟩).run P w = .ok (.value (.agg vs.toArray)) w := by
 subst hk
 have h1 := congrFun (kV hT).1 w
 have h2 := congrFun (kV hT).2 w
 have h3 := run_loadCells_list P w ⟨b, o, none⟩ vs 0 #[] (fun j u hu => by rw [gR, Nat.zero_add]; exact hc j u hu)
 simp [execOp, hx, Instr.loadAt, Instr.sureAddr, loadVar, h1, h2, loadCells, h3]
theorem db {k : Nat} (hx : dO f x = .pointer (some ⟨b, 0, none⟩)) (hT : kY P t = some k) (hk : k = c.size) (hm : At w b c T) :
  (execOp (dO f) ⟨d, .load t x, ty, ps, af, g⟩).run P w = .ok (.value (.agg c)) w := by
 have h := uu (P := P) (f := f) (w := w) (d := d) (ty := ty) (ps := ps) (af := af) (g := g) (x := x) (t := t) (vs := c.toList) hx hT (by simpa using hk)
  (fun j u hu => by rw [Nat.zero_add]; exact hm.cell (by simpa using hu))
 simpa using h
theorem ig {v0 v1 : Value} (hx : dO f x = .pointer (some ⟨b, o, none⟩)) (hT : kY P t = some 2) (h0 : w.cell? ⟨b, o, none⟩ = some v0) (h1 : w.cell? ⟨b, o + 1, none⟩ = some v1) :
  (execOp (dO f) ⟨d, .load t x, ty, ps, af, g⟩).run P w = .ok (.value (.agg #[v0, v1])) w :=
 uu (vs := [v0, v1]) hx hT rfl (fun j u hu => by
  match j, hu with
  | 0, hu => simp at hu; subst hu; exact h0
  | 1, hu => simp at hu; subst hu; exact h1)
theorem k8 {v0 v1 v2 : Value} (hx : dO f x = .pointer (some ⟨b, o, none⟩)) (hT : kY P t = some 3) (h0 : w.cell? ⟨b, o, none⟩ = some v0) (h1 : w.cell? ⟨b, o + 1, none⟩ = some v1) (h2 : w.cell? ⟨b, o + 2, none⟩ = some v2) :
  (execOp (dO f) ⟨d, .load t x, ty, ps, af, g⟩).run P w = .ok (.value (.agg #[v0, v1, v2])) w :=
 uu (vs := [v0, v1, v2]) hx hT rfl (fun j u hu => by
  match j, hu with
  | 0, hu => simp at hu; subst hu; exact h0
  | 1, hu => simp at hu; subst hu; exact h1
  | 2, hu => simp at hu; subst hu; exact h2)
theorem fq {v0 v1 v2 v3 : Value} (hx : dO f x = .pointer (some ⟨b, o, none⟩)) (hT : kY P t = some 4) (h0 : w.cell? ⟨b, o, none⟩ = some v0) (h1 : w.cell? ⟨b, o + 1, none⟩ = some v1) (h2 : w.cell? ⟨b, o + 2, none⟩ = some v2) (h3 : w.cell? ⟨b, o + 3, none⟩ = some v3) :
  (execOp (dO f) ⟨d, .load t x, ty, ps, af, g⟩).run P w = .ok (.value (.agg #[v0, v1, v2, v3])) w :=
 uu (vs := [v0, v1, v2, v3]) hx hT rfl (fun j u hu => by
  match j, hu with
  | 0, hu => simp at hu; subst hu; exact h0
  | 1, hu => simp at hu; subst hu; exact h1
  | 2, hu => simp at hu; subst hu; exact h2
  | 3, hu => simp at hu; subst hu; exact h3)
theorem nL (w : World) (c : Array Value) (T : TypeId) : At (w.alloc (.cells c T)) w.heap.size c T := heap_alloc_new w _
theorem dt {z : Value} (hz : eL P t = some z) (hc : z.cells = c)
  (hK : ∀ b w', b = w.heap.size → eo w w' → At w' b c t → K (.pointer (some ⟨b, 0, none⟩)) w') : Yd P ⟨d, .alloc t, ty, ps, af, g⟩ f w K := by
 subst hc
 unfold eL at hz
 obtain ⟨i, hi, hzz⟩ := Option.bind_eq_some_iff.1 hz
 refine .val (w' := w.alloc (.cells z.cells t)) ?_ (hK w.heap.size _ rfl (eo.alloc w _) (nL w _ _))
 simp [execOp, Instr.alloc, zeroValue, typeInfo, hi, hzz, newVar, newRow]
theorem dU (hx : dO f x = v) (hc : v.cells = c)
  (hK : ∀ b w', b = w.heap.size → eo w w' → At w' b c t → K (.pointer (some ⟨b, 0, none⟩)) w') : Yd P ⟨d, .box t x, ty, ps, af, g⟩ f w K := by
 subst hx hc
 refine .val (w' := w.alloc (.cells (dO f x).cells t)) ?_ (hK w.heap.size _ rfl (eo.alloc w _) (nL w _ _))
 simp [execOp, Instr.box, newVar, newRow]
theorem t8 (w : World) (b o : Nat) (v : Value) : w.grownBy (w.setCell ⟨b, o, none⟩ v) (some b) :=
 ⟨rfl, rfl, rfl, by simp [World.setCell], fun k _ hne => Below.heap_setCell _ _ _ _ (by intro e; exact hne (by rw [e]))⟩
theorem Dq (P : Program) (hv : v.oneCell' = true) (hm : At w b c T) (ho : o < c.size) :
  (store ⟨b, o, none⟩ v).run P w = .ok () (w.setCell ⟨b, o, none⟩ v) := by
 have hc : w.cell? ⟨b, o, none⟩ = some c[o] := hm.cell (by simp [ho])
 have hf : w.frozen? ⟨b, o, none⟩ = false := frozen_of_row w b o c T hm
 cases v <;> first | (simp [Value.oneCell'] at hv; done) | simp [store, Sem.run, hc, hf]
theorem B5 (hm : At w b c T) (v : Value) : At (w.setCell ⟨b, o, none⟩ v) b (c.setIfInBounds o v) T := heap_setCell_same w b o c T v hm
theorem eC (hx : dO f x = .pointer (some ⟨b, o, none⟩)) (hy : dO f y = v) (hT : fp P t = true) (hv : v.oneCell' = true) (hm : At w b c T) (ho : o < c.size)
  (hK : ∀ w', w.grownBy w' (some b) → At w' b (c.setIfInBounds o v) T → K undef w') : Yd P ⟨d, .store t x y, ty, ps, af, g⟩ f w K := by
 refine .skip (w' := w.setCell ⟨b, o, none⟩ v) ?_ (hK _ (t8 w b o v) (B5 hm v))
 have h2 := congrFun (lR hT).2 w
 have hcs : v.cells = #[v] := by cases v <;> first | rfl | simp [Value.oneCell'] at hv
 have hs := Dq P hv hm ho
 have ha : (⟨b, o, none⟩ : Addr).add 0 = ⟨b, o, none⟩ := rfl
 simp [execOp, hx, hy, Instr.storeAt, Instr.sureAddr, storeVar, h2, hcs, storeCells, ha, hs]
theorem dg {k : Nat} {c' : Array Value} (hx : dO f x = .pointer (some ⟨b, 0, none⟩)) (hy : dO f y = .agg c') (hT : kY P t = some k) (hk : k = c'.size) (hm : At w b c T) (hs0 : k = c.size) (hv0 : c'.toList.all Value.oneCell' = true)
  (hK : ∀ w', w.grownBy w' (some b) → At w' b c' T → K undef w') : Yd P ⟨d, .store t x y, ty, ps, af, g⟩ f w K := by
 subst hk
 have hs : c'.size = c.size := hs0
 have h2 := congrFun (kV hT).2 w
 have hv : ∀ v ∈ c'.toList, v.oneCell' = true := fun v h => List.all_eq_true.1 hv0 v h
 have hst := run_storeCells_at P b 0 T c'.toList 0 c w hm (by simp [hs]) hv
 have e : (c.toList.take (0 + 0) ++ c'.toList ++ c.toList.drop (0 + 0 + c'.toList.length)).toArray = c' := by
  have h0 : c.toList.drop c'.toList.length = [] := List.drop_of_length_le (by simp [hs])
  simp only [Nat.add_zero, Nat.zero_add, List.take_zero, List.nil_append, h0, List.append_nil, Array.toArray_toList]
 rw [e] at hst
 refine .skip (w' := w.setRow b c') ?_ (hK _ ⟨rfl, rfl, rfl, by simp, fun j _ hj => setRow_other w b j _ (fun e => hj (by rw [e]))⟩ (setRow_heap w b c c' T (0, 0) hm))
 simp [execOp, hx, hy, Instr.storeAt, Instr.sureAddr, storeVar, h2, Value.cells, hst]
theorem tz {k q : Nat} (hx : dO f x = .pointer (some ⟨b, o, none⟩)) (hT : fx P t k = some q) :
  (execOp (dO f) ⟨d, .fieldAddr t x k, ty, ps, af, g⟩).run P w = .ok (.value (.pointer (some ⟨b, o + q, none⟩))) w := by
 unfold fx at hT
 cases hu : P.underlying t with
 | none => simp [hu] at hT
 | some desc =>
  cases desc <;> simp only [hu, reduceCtorEq] at hT
  obtain ⟨fd, hfd, hz⟩ := Option.bind_eq_some_iff.1 hT
  split at hz
  case isFalse => cases hz
  rename_i hany
  obtain rfl := Option.some.inj hz
  cases hi : P.info? fd.type with
  | none => simp [hi] at hany
  | some i =>
  simp only [hi, Option.any_some, bne_iff_ne, ne_eq] at hany
  have hn := hany
  simp [execOp, hx, Instr.fieldAt, run_underlying hu, hfd, Instr.sureAddr, fieldPlace, sizeOf, typeInfo, hi, hn, gR]
theorem e7 {n sz : Nat} {j : Int} {k : IntKind} (hx : dO f x = .pointer (some ⟨b, o, none⟩)) (hy : dO f y = .int k j) (hT : Gg P t = some (n, sz)) (h0 : 0 ≤ j) (h1 : j < n) :
  (execOp (dO f) ⟨d, .indexAddr t x y, ty, ps, af, g⟩).run P w = .ok (.value (.pointer (some ⟨b, o + j.toNat * sz, none⟩))) w := by
 unfold Gg at hT
 cases hu : P.underlying t with
 | none => simp [hu] at hT
 | some desc =>
  cases desc <;> simp [hu] at hT
  obtain ⟨i, hi, rfl, rfl⟩ := hT
  simp [execOp, hx, hy, Instr.indexAt, run_underlying hu, asIntOf, Instr.sureAddr, h0, h1, sizeOf, typeInfo, hi, gR]
def zI (v : Value) : Option Addr := match v with | .slice a _ _ => a | _ => none
def sP (v : Value) : Nat := match v with | .slice (some a) _ _ => a.block | _ => 0
def A8 (v : Value) : Nat := match v with | .slice (some a) _ _ => a.off | _ => 0
def iU (v : Value) : Nat := match v with | .slice _ _ c => c | _ => 0
end
structure Sl (w : World) (sz : Nat) (v : Value) (n : Nat) (xs : List Value) : Prop where
 form : ∃ a, v = .slice a n (iU v) ∧ n ≤ iU v ∧ (a = none → iU v = 0) ∧ ∀ a', a = some a' → 0 < iU v → a' = ⟨sP v, A8 v, none⟩
 len : xs.length = n * sz
 cell : ∀ j u, xs[j]? = some u → w.cell? ⟨sP v, A8 v + j, none⟩ = some u
section
variable {w w' : World} {sz n : Nat} {v : Value} {xs : List Value}
theorem Sl.nil (w : World) (sz : Nat) : Sl w sz (.slice none 0 0) 0 [] := ⟨⟨none, rfl, Nat.le_refl _, fun _ => rfl, fun _ h _ => by cases h⟩, by simp, fun j u h => by simp at h⟩
theorem eo.sl (h : eo w w') (k : Sl w sz v n xs) : Sl w' sz v n xs := ⟨k.form, k.len, fun j u hu => h.cell (k.cell j u hu)⟩
theorem Sl.eqn (k : Sl w sz v n xs) (hn : 0 < n) : v = .slice (some ⟨sP v, A8 v, none⟩) n (iU v) := by
 obtain ⟨a, e, h1, h2, h3⟩ := k.form
 cases a with
 | none => have := h2 rfl; omega
 | some a' =>
  rw [h3 a' rfl (by omega)] at e
  exact e
theorem Sl.of_own {N : Nat} {T : TypeId} (h : w.ownsRow N T sz v n xs) : Sl w sz v n xs := by
 obtain ⟨hl, h⟩ := h
 rcases h with ⟨rfl, rfl⟩ | ⟨g, cap, cur, rfl, hg, hh, hnc, hcm, hcs, ht⟩
 ·have : xs = [] := List.eq_nil_of_length_eq_zero (by simpa using hl)
  subst this
  exact Sl.nil w sz
 ·refine ⟨⟨some ⟨g, 0, none⟩, rfl, hnc, fun h => (by cases h), fun a' h _ => by cases h; rfl⟩, hl, fun j u hu => ?_⟩
  have h1 : w.cell? ⟨g, 0 + j, none⟩ = some u := by
   rw [Nat.zero_add, cell_of_row w g j cur T (0, 0) hh]
   rw [← ht, List.getElem?_take] at hu
   split at hu
   ·simpa using hu
   ·cases hu
  exact h1
theorem eo.own {N : Nat} {T : TypeId} (h : eo w w') (k : w.ownsRow N T sz v n xs) : w'.ownsRow N T sz v n xs := k.kept (h.grown none) (by cases v.ownBlock <;> simp)
theorem zs {N b : Nat} {T T' : TypeId} {c : Array Value} (k : w.ownsRow N T sz v n xs) (hm : At w b c T') (hT : T' ≠ T) : some b ≠ v.ownBlock := by
 intro e
 rcases k.2 with ⟨rfl, rfl⟩ | ⟨g, cap, cur, rfl, hg, hh, _⟩
 ·simp [Value.ownBlock] at e
 ·simp [Value.ownBlock] at e
  subst e
  unfold At at hm
  rw [hm] at hh
  simp only [Option.some.injEq, Obj.cells.injEq] at hh
  exact hT hh.2.1
theorem Ai {N N' : Nat} {T T' : TypeId} {sz' n' : Nat} {v' : Value} {xs' : List Value} (k : w.ownsRow N T sz v n xs) (k' : w.ownsRow N' T' sz' v' n' xs') (hT : T' ≠ T) : v'.ownBlock = none ∨ v'.ownBlock ≠ v.ownBlock := by
 rcases k'.2 with ⟨rfl, rfl⟩ | ⟨g, cap, cur, rfl, hg, hh, _⟩
 ·exact .inl rfl
 ·exact .inr (zs k (b := g) (c := cur) (T' := T') hh hT)
end
section
variable {P : Program} {f : Nat → Value} {w : World} {d : Option Nat} {ty : TypeId} {ps : String} {af : Array Edge} {g : Option (Nat × Bool)} {x y : Operand}
variable {t : TypeId} {b o : Nat} {v u : Value} {c : Array Value} {T e : TypeId} {K : Value → World → Prop} {n sz by_ : Nat} {xs ys : List Value}
theorem dJ {j : Int} {k : IntKind} {w0 : World} (hx : dO f x = v) (hs : Sl w0 sz v n xs) (hy : dO f y = .int k j) (hT : fO P t = some (e, sz, by_)) (h0 : 0 ≤ j) (h1 : j < n) :
  (execOp (dO f) ⟨d, .indexAddr t x y, ty, ps, af, g⟩).run P w = .ok (.value (.pointer (some ⟨sP v, A8 v + j.toNat * sz, none⟩))) w := by
 unfold fO at hT
 have hv := hs.eqn (by omega)
 cases hu : P.underlying t with
 | none => simp [hu] at hT
 | some desc =>
  cases desc <;> simp [hu] at hT
  obtain ⟨i, hi, rfl, rfl, rfl⟩ := hT
  generalize sP v = B at *
  generalize A8 v = O at *
  generalize iU v = C at *
  subst hv
  simp [execOp, hx, hy, Instr.indexAt, run_underlying hu, asIntOf, h0, h1, sizeOf, typeInfo, hi, gR]
theorem dA {w0 : World} {k : TypeId} {by2 : Nat × Nat} (hx : dO f x = v) (hs : Sl w0 sz v n xs) (hT : fO P t = some (k, by2)) :
  (execOp (dO f) ⟨d, .call ⟨.builtin .len, #[x], #[t]⟩, ty, ps, af, g⟩).run P w = .ok (.value (.int .i64 (n : Int))) w := by
 unfold fO at hT
 obtain ⟨a, hv, _⟩ := hs.form
 cases hu : P.underlying t with
 | none => simp [hu] at hT
 | some desc =>
  cases desc <;> simp [hu] at hT
  generalize iU v = C at *
  subst hv
  simp [execOp, resolve, invoke, builtin, hx, Builtin.len_, run_underlying hu, goInt]
theorem FG (l : List Value) : ∀ (k : Nat) (cs : Array Value), k + l.length ≤ cs.size →
  (l.zipIdx k).foldl (fun cs (p : Value × Nat) => cs.setIfInBounds (0 + p.2) p.1) cs = (cs.toList.take k ++ l ++ cs.toList.drop (k + l.length)).toArray := by
 induction l with
 | nil => intro k cs _; simp
 | cons u r ih =>
  intro k cs h
  simp only [List.length_cons] at h
  rw [List.zipIdx_cons, List.foldl_cons, ih (k + 1) _ (by simp; omega)]
  have := list_seg_step cs.toList k u r (by simpa using h)
  simp only [Nat.zero_add, Array.toList_setIfInBounds]
  rw [this]
  rfl
theorem IA (u : Value) (z : Array Value) (sz : Nat) (hu : u.cells.size = sz) (hz : z.size = sz) : Instr.fill (fun i => some (i * sz, sz)) z [(0, u)] = some u.cells := by
 have h := FG u.cells.toList 0 z (by simp [hu, hz])
 have e0 : z.toList.drop (0 + u.cells.toList.length) = [] := List.drop_of_length_le (by simp [hu, hz])
 rw [e0] at h
 simp only [List.take_zero, List.nil_append, List.append_nil, Array.toArray_toList] at h
 simp only [Instr.fill, hu, Nat.zero_mul, Nat.zero_add, hz, ne_eq, not_true_eq_false, decide_false, Nat.lt_irrefl, gt_iff_lt, Bool.or_self, Bool.false_eq_true, if_false]
 rw [← Array.foldl_toList, Array.toList_zipIdx]
 simp only [Nat.zero_add] at h
 rw [h]
theorem fc (hx : dO f x = u) (hT : fO P t = some (e, sz, by_)) (hz : (eL P e).map (fun z => z.cells.size) = some sz) (hu : u.cells.size = sz) (hsz : 0 < sz) (hsz2 : sz ≤ 100)
  (hK : ∀ b w', b = w.heap.size → eo w w' → At w' b u.cells e → K (.slice (some ⟨b, 0, none⟩) 1 1) w') : Yd P ⟨d, .buildSlice t 1 #[(0, x)], ty, ps, af, g⟩ f w K := by
 obtain ⟨z, hz, hzs⟩ := Option.map_eq_some_iff.1 hz
 unfold eL at hz
 obtain ⟨i, hi, hzz⟩ := Option.bind_eq_some_iff.1 hz
 unfold fO at hT
 cases hun : P.underlying t with
 | none => simp [hun] at hT
 | some desc =>
  cases desc <;> simp [hun] at hT
  rename_i e'
  obtain ⟨i', hi', rfl, h1, rfl⟩ := hT
  obtain rfl : i' = i := by rw [hi] at hi'; exact (Option.some.inj hi').symm
  refine .val (w' := w.alloc (.cells u.cells e')) ?_ (hK w.heap.size _ rfl (eo.alloc w _) (nL w _ _))
  have hbig : ¬ 16777216 < sz := by omega
  have hne : ¬ sz = 0 := by omega
  have hf := IA u ((Array.range sz).map (z.cells[· % z.cells.size]!)) sz hu (by simp)
  simp [execOp, hx, Instr.buildSlice, run_underlying hun, sizeOf, typeInfo, hi, h1, zeroValue, hzz, hne, hbig, newRow, hf]
theorem ez {N m : Nat} {v2 : Value} (hx : dO f x = v) (hy : dO f y = v2) (hT : fO P t = some (e, sz, by_)) (hz : (eL P e).map (fun z => z.cells.size) = some sz) (hsz : 0 < sz)
  (ho : w.ownsRow N e sz v n xs) (hs : Sl w sz v2 m ys) (h10 : ys.all Value.oneCell' = true) (hN : N ≤ w.heap.size) (hb : (n + m) * by_ ≤ 140737488355328) (hm : n + m ≤ 9223372036854775807)
  (hK : ∀ v' w', w.grownBy w' v.ownBlock → w'.ownsRow N e sz v' (n + m) (xs ++ ys) → K v' w') : Yd P ⟨d, .call ⟨.builtin .append, #[x, y], #[t, t]⟩, ty, ps, af, g⟩ f w K := by
 have h1 : ∀ u ∈ ys, u.oneCell' = true := fun u h => List.all_eq_true.1 h10 u h
 obtain ⟨z, hz, hzs⟩ := Option.map_eq_some_iff.1 hz
 unfold eL at hz
 obtain ⟨i, hi, hzz⟩ := Option.bind_eq_some_iff.1 hz
 unfold fO at hT
 cases hun : P.underlying t with
 | none => simp [hun] at hT
 | some desc =>
  cases desc <;> simp [hun] at hT
  rename_i e'
  obtain ⟨i', hi', rfl, h3, rfl⟩ := hT
  obtain rfl : i' = i := by rw [hi] at hi'; exact (Option.some.inj hi').symm
  by_cases hm0 : m = 0
  ·subst hm0
   have hys : ys = [] := List.eq_nil_of_length_eq_zero (by simpa using hs.len)
   subst hys
   have hrun : (Builtin.append_ #[t, t] ty #[v, v2]).run P w = .ok v w := by
    obtain ⟨a2, hv2, _⟩ := hs.form
    generalize iU v2 = c2 at hv2
    subst hv2
    rcases ho.2 with ⟨rfl, rfl⟩ | ⟨q, cap, cur, rfl, hg, hh, hnc, hcm, hcs, ht⟩
    ·simp [Builtin.append_, run_underlying hun, sizeOf, typeInfo, hi, Builtin.lenOf, Builtin.firstCells]
     cases a2 <;> simp [loadCells, loadCellsFrom]
    ·cases a2 <;> simp [Builtin.append_, run_underlying hun, sizeOf, typeInfo, hi, Builtin.lenOf, Builtin.firstCells, loadCells, loadCellsFrom, hnc, storeCells]
   refine .val (v := v) (w' := w) ?_ (hK v w (World.grownBy.refl w _) (by simpa using ho))
   simp [execOp, resolve, invoke, builtin, hx, hy, hrun]
  ·have hv2 := hs.eqn (by omega)
   have hcell := hs.cell
   generalize sP v2 = B at *
   generalize A8 v2 = O at *
   generalize iU v2 = C at *
   subst hv2
   obtain ⟨v', w', hr, h4, h5, _⟩ := run_append_own (P := P) w N t ty e' i' z sz i'.bytes hun hi hzz h3 rfl hzs hsz v n xs ho ⟨B, O, none⟩ m C ys hs.len
    (fun j u hu => by rw [gR]; exact hcell j u hu) h1 (by simpa [maxLen] using hm) hb hN
   refine .val (v := v') (w' := w') ?_ (hK v' w' h5 h4)
   simp [execOp, resolve, invoke, builtin, hx, hy, hr]
end
theorem Below.slI {w W : World} {sz n : Nat} {v : Value} {xs : List Value} (h : Below w.heap.size w W) (k : Sl w sz v n xs) : Sl W sz v n xs :=
 ⟨k.form, k.len, fun j u hu => by have hc := k.cell j u hu; rw [Below.cell h (World.block_lt_of_cell? w _ hc)]; exact hc⟩
theorem Below.atI {w W : World} {b : Nat} {c : Array Value} {T : TypeId} (h : Below w.heap.size w W) (k : At w b c T) : At W b c T := by
 unfold At; rw [Below.block h b k.lt]; exact k
theorem fG {w : World} {b sz : Nat} {c : Array Value} {T : TypeId} (k : At w b c T) (hs : c.size = sz) : Sl w sz (.slice (some ⟨b, 0, none⟩) 1 1) 1 c.toList :=
 ⟨⟨some ⟨b, 0, none⟩, rfl, Nat.le_refl _, fun h => (by cases h), fun a' h _ => by cases h; rfl⟩, by simp [hs], fun j u hu => by
  show w.cell? ⟨b, 0 + j, none⟩ = some u
  rw [Nat.zero_add]
  exact k.cell (by simpa using hu)⟩
theorem rH {α : Type} {enc : α → List Value} {sz : Nat} (he : ∀ a, (enc a).length = sz) : ∀ (l : List α) (k r : Nat) (d : α), k < l.length → r < sz → (l.flatMap enc)[k * sz + r]? = (enc (l.getD k d))[r]?
 | [], k, r, d, h, _ => by simp at h
 | a :: l, 0, r, d, _, hr => by
  rw [List.flatMap_cons, Nat.zero_mul, Nat.zero_add, List.getElem?_append_left (by rw [he]; exact hr)]
  rfl
 | a :: l, k + 1, r, d, h, hr => by
  have h1 : sz ≤ (k + 1) * sz + r := by rw [Nat.add_mul]; omega
  rw [List.flatMap_cons, List.getElem?_append_right (by rw [he]; exact h1), he]
  have e : (k + 1) * sz + r - sz = k * sz + r := by rw [Nat.add_mul]; omega
  rw [e, rH he l k r d (by simpa using h) hr]
  simp
theorem ky {α : Type} {enc : α → List Value} {sz : Nat} (he : ∀ a, (enc a).length = sz) (l : List α) : (l.flatMap enc).length = l.length * sz := by
 induction l with
 | nil => simp
 | cons a l ih => rw [List.flatMap_cons, List.length_append, ih, he, List.length_cons, Nat.add_mul]; omega
def dM {α : Type} (enc : α → List Value) (sz : Nat) (w : World) (v : Value) (l : List α) : Prop := Sl w sz v l.length (l.flatMap enc)
def dh {α : Type} (enc : α → List Value) (sz : Nat) (T : TypeId) (w : World) (N : Nat) (v : Value) (l : List α) : Prop := w.ownsRow N T sz v l.length (l.flatMap enc)
section
variable {α : Type} {enc : α → List Value} {sz : Nat} {T : TypeId} {w w' : World} {N : Nat} {v : Value} {l : List α}
theorem dh.sl (h : dh enc sz T w N v l) : dM enc sz w v l := Sl.of_own h
theorem dM.nil : dM enc sz w (.slice none 0 0) [] := Sl.nil w sz
theorem dh.nil : dh enc sz T w N (.slice none 0 0) [] := World.ownsRow_nil w N T sz
theorem eo.slT (h : eo w w') (k : dM enc sz w v l) : dM enc sz w' v l := eo.sl h k
theorem eo.ow (h : eo w w') (k : dh enc sz T w N v l) : dh enc sz T w' N v l := eo.own h k
theorem Below.slT {W : World} (h : Below w.heap.size w W) (k : dM enc sz w v l) : dM enc sz W v l := Below.slI h k
theorem dh.mono {N' : Nat} (k : dh enc sz T w N v l) (h : N' ≤ N) : dh enc sz T w N' v l := by
 refine ⟨k.1, ?_⟩
 rcases k.2 with h2 | ⟨g, cap, cur, h3, hg, r⟩
 ·exact .inl h2
 ·exact .inr ⟨g, cap, cur, h3, Nat.le_trans h hg, r⟩
theorem dh.lt (k : dh enc sz T w N v l) : ∀ j, v.ownBlock = some j → N ≤ j := fun j hj => (World.ownsRow.lt k j hj).1
theorem dM.cell (hs : dM enc sz w v l) (he : ∀ a, (enc a).length = sz) (d : α) {j : Int} (h0 : 0 ≤ j) (h1 : j < l.length) (r : Nat) {u : Value} (hu : (enc (l.getD j.toNat d))[r]? = some u) :
  w.cell? ⟨sP v, A8 v + j.toNat * sz + r, none⟩ = some u := by
 have hr : r < sz := by
  have := (List.getElem?_eq_some_iff.1 hu).1
  rwa [he] at this
 have h := Sl.cell hs (j.toNat * sz + r) u (by rw [rH he l j.toNat r d (by omega) hr]; exact hu)
 rwa [← Nat.add_assoc] at h
theorem dh.snoc {x : α} {n m : Nat} {xs ys : List Value} (hn : n = l.length) (hm : m = 1) (hx : xs = l.flatMap enc) (hy : ys = enc x) (h : w.ownsRow N T sz v (n + m) (xs ++ ys)) : dh enc sz T w N v (l ++ [x]) := by
 subst hn hm hx hy
 unfold dh
 rw [List.length_append, List.flatMap_append]
 simpa using h
theorem dh.app {l2 : List α} {n m : Nat} {xs ys : List Value} (hn : n = l.length) (hm : m = l2.length) (hx : xs = l.flatMap enc) (hy : ys = l2.flatMap enc) (h : w.ownsRow N T sz v (n + m) (xs ++ ys)) : dh enc sz T w N v (l ++ l2) := by
 subst hn hm hx hy
 unfold dh
 rw [List.length_append, List.flatMap_append]
 exact h
theorem dh.grownAt {b : Nat} {c : Array Value} {T' : TypeId} (k : dh enc sz T w N v l) (hm : At w b c T') (hG : w.grownBy w' (some b)) (hT : T' ≠ T) : dh enc sz T w' N v l :=
 World.ownsRow.kept k hG (.inr (fun e => zs k hm hT e.symm))
theorem At.grownOw {b : Nat} {c : Array Value} {T' : TypeId} (hm : At w b c T') (k : dh enc sz T w N v l) (hG : w.grownBy w' v.ownBlock) (hT : T' ≠ T) : At w' b c T' :=
 hm.grown hG (zs k hm hT)
theorem dh.grownOw {β : Type} {enc' : β → List Value} {sz' : Nat} {T' : TypeId} {N' : Nat} {v' : Value} {l' : List β} (k' : dh enc' sz' T' w N' v' l') (k : dh enc sz T w N v l) (hG : w.grownBy w' v.ownBlock) (hT : T' ≠ T) : dh enc' sz' T' w' N' v' l' :=
 World.ownsRow.kept k' hG (Ai k k' hT)
theorem At.grownAt {b b' : Nat} {c c' : Array Value} {T' : TypeId} (hm : At w b c T) (hm' : At w b' c' T') (hG : w.grownBy w' (some b')) (hT : T ≠ T') : At w' b c T :=
 hm.grown hG (fun e => At.neT hm hm' hT (Option.some.inj e))
theorem At.grownNe {b b' : Nat} {c : Array Value} (hm : At w b c T) (hne : b ≠ b') (hG : w.grownBy w' (some b')) : At w' b c T :=
 hm.grown hG (fun e => hne (Option.some.inj e))
end
def n6 (vs : List Value) (k : Nat) : Nat → Value :=
 match vs with
 | [] => fun _ => undef
 | v :: r => upd (n6 r (k + 1)) k v
def P4 (P : Program) (f : Nat → Value) (w : World) (rs : Array ResultVar) (v : Value) : Prop :=
 ∀ (tmps : Array Value) (fn : Func), (∀ t, tmps.getD t undef = f t) → fn.results = rs → (results fn tmps).run P w = .ok v w
def mK (P : Program) (rs : Array ResultVar) (Post : Value → World → Prop) : Exit → (Nat → Value) → World → Prop
 | .ret, f, w | .normal, f, w => ∃ v, P4 P f w rs v ∧ Post v w
 | _, _, _ => False
theorem BG (vs : List Value) : ∀ (k t : Nat), k ≤ t → n6 vs k t = vs.getD (t - k) undef := by
 induction vs with
 | nil => intro k t _; rfl
 | cons v r ih =>
  intro k t h
  by_cases e : t = k
  ·subst e; rw [n6, wl]; simp
  ·rw [n6, yK _ _ e, ih (k + 1) t (by omega)]
   have e2 : t - k = (t - (k + 1)) + 1 := by omega
   rw [e2]; simp
structure qJ (P : Program) (g : Nat) (vs : Array Value) (w : World) (Post : Value → World → Prop) : Prop where
 out : Calls P g vs w fun e w' => ∃ v, e = .returned v ∧ Post v w'
theorem eX {P : Program} {g : Nat} {fn : Func} {c : Code} {n : Nat} {vs : List Value} {w : World} {Post : Value → World → Prop} (hf : P.funcs[g]? = some fn) (hb : fn.body = some c) (hn : fn.ntmps = n) (hv : vs.length ≤ n)
  (h : WC P n c (mK P fn.results Post) (n6 vs 0) w) : qJ P g vs.toArray w Post := by
 refine ⟨?_⟩
 refine calls_of_wp hf hb ?_
 subst hn
 have hr : zS fn.ntmps (n6 vs 0) { tmps := vs.toArray ++ Array.replicate (fn.ntmps - vs.toArray.size) undef, defers := [] } := by
  refine ⟨rfl, by simp; omega, fun t => ?_⟩
  rw [BG vs 0 t (Nat.zero_le _), Nat.sub_zero]
  simp only [Array.getD_eq_getD_getElem?, Array.getElem?_append, List.size_toArray, List.getElem?_toArray, Array.getElem?_replicate, List.getD]
  split
  ·rfl
  ·rename_i hge
   rw [List.getElem?_eq_none (by omega)]
   split <;> rfl
 refine Code.wp_mono (fun e a w' hq => ?_) (h.out _ hr)
 obtain ⟨f', hr', hq⟩ := hq
 cases e with
 | ret =>
  obtain ⟨v, h1, h2⟩ := hq
  exact ⟨hr'.defers, v, h1 _ fn hr'.get rfl, v, rfl, h2⟩
 | normal =>
  obtain ⟨v, h1, h2⟩ := hq
  exact ⟨hr'.defers, v, h1 _ fn hr'.get rfl, v, rfl, h2⟩
 | exit id => exact hq.elim
 | goto l => exact hq.elim
 | panic c => exact hq.elim
 | outgrown => exact hq.elim
theorem dq {P : Program} {g : Nat} {fn : Func} {c : Code} {n : Nat} {vs : List Value} {w : World} {Post : Value → World → Prop} (hf : P.funcs[g]? = some fn) (hb : fn.body = some c) (hn : fn.ntmps = n) (hv : vs.length ≤ n)
  (h : WC P n c (mK P fn.results fun v w' => eo w w' ∧ Post v w') (n6 vs 0) w) : Fn P g vs.toArray w Post := ⟨(eX hf hb hn hv h).out⟩
section
variable {P : Program} {f : Nat → Value} {w : World} {t u s r : Nat} {v v1 v2 v3 : Value} {Post : Value → World → Prop} {T T' T2 T2' : TypeId} {b : Nat} {c : Array Value}
theorem m9 {rs : Array ResultVar} (h : mK P rs Post .ret f w) : mK P rs Post .normal f w := h
theorem HP (hp : Post (.tuple #[]) w) : mK P #[] Post .ret f w := by
 refine ⟨_, fun tmps fn ht hr => ?_, hp⟩
 simp [results, hr]
theorem dE (h : f t = v) (hp : Post v w) : mK P #[.tmp t] Post .ret f w := by
 refine ⟨v, fun tmps fn ht hr => ?_, hp⟩
 rw [← h, ← ht t]; simp [results, hr]
theorem dZ (h : f t = v) (h1 : f u = v1) (hp : Post (.tuple #[v, v1]) w) : mK P #[.tmp t, .tmp u] Post .ret f w := by
 refine ⟨_, fun tmps fn ht hr => ?_, hp⟩
 rw [← h, ← h1, ← ht t, ← ht u]; simp [results, hr]
theorem DX (h : f t = v) (h1 : f u = v1) (h2 : f s = v2) (hp : Post (.tuple #[v, v1, v2]) w) : mK P #[.tmp t, .tmp u, .tmp s] Post .ret f w := by
 refine ⟨_, fun tmps fn ht hr => ?_, hp⟩
 rw [← h, ← h1, ← h2, ← ht t, ← ht u, ← ht s]; simp [results, hr]
theorem zW (h : f t = v) (h1 : f u = v1) (h2 : f s = v2) (h3 : f r = v3) (hp : Post (.tuple #[v, v1, v2, v3]) w) : mK P #[.tmp t, .tmp u, .tmp s, .tmp r] Post .ret f w := by
 refine ⟨_, fun tmps fn ht hr => ?_, hp⟩
 rw [← h, ← h1, ← h2, ← h3, ← ht t, ← ht u, ← ht s, ← ht r]; simp [results, hr]
theorem lW (hT : kY P T = some c.size) (hm : At w b c T') : (loadVar T ⟨b, 0, none⟩).run P w = .ok (.agg c) w := by
 have h1 := congrFun (kV hT).1 w
 have h2 := congrFun (kV hT).2 w
 have h3 := run_loadCells_list P w ⟨b, 0, none⟩ c.toList 0 #[] (fun j u hu => by rw [gR]; simp only [Nat.zero_add]; exact hm.cell (by simpa using hu))
 rw [Array.length_toList] at h3
 simp [loadVar, h1, h2, loadCells, h3]
theorem jD {k : Nat} (h : f t = .pointer (some ⟨b, 0, none⟩)) (hT : kY P T = some k) (hm : At w b c T') (hk : k = c.size) (hp : Post (.agg c) w) : mK P #[.cell t T] Post .ret f w := by
 refine ⟨_, fun tmps fn ht hr => ?_, hp⟩
 have e := ht t
 rw [h] at e
 have hl := lW (hk ▸ hT) hm
 simp only [Array.getD_eq_getD_getElem?] at e
 simp [results, hr, e, asAddr, hl]
theorem fw {k : Nat} (h : f t = .pointer (some ⟨b, 0, none⟩)) (hT : kY P T = some k) (hm : At w b c T') (hk : k = c.size) (h1 : f u = v1) (hp : Post (.tuple #[.agg c, v1]) w) : mK P #[.cell t T, .tmp u] Post .ret f w := by
 refine ⟨_, fun tmps fn ht hr => ?_, hp⟩
 have e := ht t
 have e1 := ht u
 rw [h] at e
 rw [h1] at e1
 have hl := lW (hk ▸ hT) hm
 simp only [Array.getD_eq_getD_getElem?] at e e1
 simp [results, hr, e, e1, asAddr, hl]
theorem EM {k : Nat} (h : f t = .pointer (some ⟨b, 0, none⟩)) (hT : kY P T = some k) (hm : At w b c T') (hk : k = c.size) (h1 : f u = v1) (h2 : f s = v2) (hp : Post (.tuple #[.agg c, v1, v2]) w) : mK P #[.cell t T, .tmp u, .tmp s] Post .ret f w := by
 refine ⟨_, fun tmps fn ht hr => ?_, hp⟩
 have e := ht t
 have e1 := ht u
 have e2 := ht s
 rw [h] at e
 rw [h1] at e1
 rw [h2] at e2
 have hl := lW (hk ▸ hT) hm
 simp only [Array.getD_eq_getD_getElem?] at e e1 e2
 simp [results, hr, e, e1, e2, asAddr, hl]
end
end
section
open Go Go.RowKit
def wd (s i : Nat) : Nat := s / 2 ^ (64 * i) % 2 ^ 64
abbrev wv (s i : Nat) : Value := .int .u64 ((wd s i : Nat) : Int)
abbrev eP (s : Nat) : Value := .agg #[wv s 0, wv s 1, wv s 2, wv s 3]
structure Cb where
 m : Nat
 v : Nat
 deriving DecidableEq, Repr
structure Rw where
 c : Cb
 o : Nat
 deriving DecidableEq, Repr
def rV (b : Bool) : List Value := [.bool b]
def d9 (z : Int) : List Value := [.int .i64 z]
def gU (c : Cb) : List Value := [.int .u8 (c.m : Int), .int .u8 (c.v : Int)]
def gv (r : Rw) : List Value := [.int .u8 (r.c.m : Int), .int .u8 (r.c.v : Int), .int .u8 (r.o : Int)]
def gp (s : Nat) : List Value := [wv s 0, wv s 1, wv s 2, wv s 3]
theorem tA (s i : Nat) : wd s i < 18446744073709551616 := Nat.mod_lt _ (by decide)
theorem C3 (s i : Nat) : wd s i < d5 .u64 := tA s i
theorem il (s i j : Nat) : (wd s i).testBit j = (decide (j < 64) && s.testBit (64 * i + j)) := by
 unfold wd
 rw [Nat.testBit_mod_two_pow, Nat.testBit_div_two_pow, Nat.add_comm]
theorem jP {s i x : Nat} (hx : x < 2 ^ 64) (h : ∀ j, j < 64 → x.testBit j = s.testBit (64 * i + j)) : wd s i = x := by
 refine Nat.eq_of_testBit_eq fun j => ?_
 rw [il]
 by_cases hj : j < 64
 ·simp [hj, h j hj]
 ·have hle : 2 ^ 64 ≤ 2 ^ j := Nat.pow_le_pow_right (by decide) (by omega)
  simp [hj, Nat.testBit_lt_two_pow (Nat.lt_of_lt_of_le hx hle)]
theorem Mn (s t i : Nat) : wd (s ||| t) i = wd s i ||| wd t i :=
 jP (Nat.or_lt_two_pow (tA s i) (tA t i)) fun j hj => by simp [Nat.testBit_or, il, hj]
theorem Og (s t i : Nat) : wd (s &&& t) i = wd s i &&& wd t i :=
 jP (Nat.and_lt_two_pow _ (tA t i)) fun j hj => by simp [Nat.testBit_and, il, hj]
theorem Fx (s t i : Nat) : wd (andNot s t) i = andNot (wd s i) (wd t i) :=
 jP (Nat.lt_of_le_of_lt (qx _ _) (tA s i)) fun j hj => by simp [eh, il, hj]
def mv (p : Int) : Bool := decide (0 ≤ p) && decide (p < 256)
def wV (s : Nat) (p : Int) : Bool := mv p && s.testBit p.toNat
def kI (s : Nat) (p : Int) : Nat := if mv p then s ||| 2 ^ p.toNat else s
theorem NL (p i : Nat) : wd (2 ^ p) i = if p / 64 = i then 2 ^ (p % 64) else 0 := by
 split
 ·rename_i e
  refine jP (Nat.pow_lt_pow_right (by decide) (Nat.mod_lt _ (by decide))) fun j hj => ?_
  rw [Nat.testBit_two_pow, Nat.testBit_two_pow]
  congr 1
  refine propext ?_
  omega
 ·rename_i e
  refine jP (by decide) fun j hj => ?_
  rw [Nat.zero_testBit, Nat.testBit_two_pow]
  symm
  rw [decide_eq_false_iff_not]
  omega
theorem JY (x j : Nat) : x &&& 2 ^ j = if x.testBit j then 2 ^ j else 0 := by
 refine Nat.eq_of_testBit_eq fun i => ?_
 rw [Nat.testBit_and, Nat.testBit_two_pow]
 by_cases e : j = i
 ·subst e
  cases h : x.testBit j <;> simp
 ·cases h : x.testBit j <;> simp [e]
theorem kD (b : Bool) : (rV b).length = 1 := rfl
theorem eD (z : Int) : (d9 z).length = 1 := rfl
theorem gj (c : Cb) : (gU c).length = 2 := rfl
theorem ej (r : Rw) : (gv r).length = 3 := rfl
theorem dG (s : Nat) : (gp s).length = 4 := rfl
theorem nU (s i : Nat) (h : i < 4) : (#[wv s 0, wv s 1, wv s 2, wv s 3] : Array Value)[0 + ((i : Nat) : Int).toNat * 1]? = some (wv s i) := by
 have : i = 0 ∨ i = 1 ∨ i = 2 ∨ i = 3 := by omega
 rcases this with rfl | rfl | rfl | rfl <;> rfl
theorem BW {s s' i x : Nat} (h : i < 4) (hs : ∀ j, j < 4 → wd s' j = if j = i then x else wd s j) :
  (#[wv s 0, wv s 1, wv s 2, wv s 3] : Array Value).setIfInBounds (0 + ((i : Nat) : Int).toNat * 1) (.int .u64 (x : Int)) = #[wv s' 0, wv s' 1, wv s' 2, wv s' 3] := by
 have h0 := hs 0 (by decide)
 have h1 := hs 1 (by decide)
 have h2 := hs 2 (by decide)
 have h3 := hs 3 (by decide)
 unfold wv
 rw [h0, h1, h2, h3]
 have : i = 0 ∨ i = 1 ∨ i = 2 ∨ i = 3 := by omega
 rcases this with rfl | rfl | rfl | rfl <;> rfl
theorem Af {s q : Nat} (hq : q < 256) : ∀ j, j < 4 → wd (kI s q) j = if j = q / 64 then wd s (q / 64) ||| 2 ^ (q % 64) else wd s j := by
 intro j _
 have hm : mv (q : Int) = true := by simp [mv]; omega
 simp only [kI, hm, if_true, Int.toNat_natCast, Mn, NL]
 by_cases e : j = q / 64
 ·subst e; simp
 ·rw [if_neg (fun h => e h.symm), if_neg e]; simp
theorem xu {s q : Nat} (hq : q < 256) : decide ((0 : Int) < ((wd s (q / 64) &&& 2 ^ (q % 64) : Nat) : Int)) = wV s q := by
 have hm : mv (q : Int) = true := by simp [mv]; omega
 rw [JY, il]
 have e : 64 * (q / 64) + q % 64 = q := by omega
 simp only [wV, hm, Bool.true_and, Int.toNat_natCast, e, Nat.mod_lt q (show 64 > 0 by decide), decide_true]
 cases h : s.testBit q with
 | false => simp
 | true =>
  have := Nat.two_pow_pos (q % 64)
  simp
  exact_mod_cast this
def Ch (op : Nat → Nat → Nat) (s t k : Nat) : Array Value :=
 #[.int .u64 ((if 0 < k then op (wd s 0) (wd t 0) else 0 : Nat) : Int), .int .u64 ((if 1 < k then op (wd s 1) (wd t 1) else 0 : Nat) : Int),
  .int .u64 ((if 2 < k then op (wd s 2) (wd t 2) else 0 : Nat) : Int), .int .u64 ((if 3 < k then op (wd s 3) (wd t 3) else 0 : Nat) : Int)]
theorem FW (op : Nat → Nat → Nat) (s t k : Nat) : (Ch op s t k).size = 4 := rfl
theorem Hm (op : Nat → Nat → Nat) (s t k : Nat) (h : k < 4) : (Ch op s t k).setIfInBounds (0 + ((k : Nat) : Int).toNat * 1) (.int .u64 ((op (wd s k) (wd t k) : Nat) : Int)) = Ch op s t (k + 1) := by
 have : k = 0 ∨ k = 1 ∨ k = 2 ∨ k = 3 := by omega
 rcases this with rfl | rfl | rfl | rfl <;> rfl
theorem uS {op : Nat → Nat → Nat} {s t r : Nat} (h : ∀ j, wd r j = op (wd s j) (wd t j)) : Value.agg (Ch op s t 4) = eP r := by
 simp [Ch, h]
theorem vD {s k : Nat} (h : k < 256) : wV s (k : Int) = s.testBit k := by
 have hm : mv (k : Int) = true := by simp [mv]; omega
 simp [wV, hm]
def eg (s : Nat) : List Int := ((List.range 256).filter fun p : Nat => s.testBit p).map fun p : Nat => (p : Int)
def pl (s k : Nat) : List Int := ((List.range k).filter fun p : Nat => s.testBit p).map fun p : Nat => (p : Int)
theorem iD (s k : Nat) : pl s (k + 1) = if s.testBit k then pl s k ++ [(k : Int)] else pl s k := by
 unfold pl
 rw [List.range_succ, List.filter_append, List.map_append]
 cases h : s.testBit k <;> simp [h]
theorem oz (s k : Nat) : (pl s k).length ≤ k := by
 unfold pl
 rw [List.length_map]
 exact Nat.le_trans (List.length_filter_le _ _) (by simp)
theorem iZ {s : Nat} {x : Int} : x ∈ eg s ↔ ∃ p : Nat, p < 256 ∧ s.testBit p = true ∧ x = p := by
 simp only [eg, List.mem_map, List.mem_filter, List.mem_range]
 constructor
 ·rintro ⟨p, ⟨h1, h2⟩, rfl⟩; exact ⟨p, h1, h2, rfl⟩
 ·rintro ⟨p, h1, h2, rfl⟩; exact ⟨p, ⟨h1, h2⟩, rfl⟩
theorem kT (s : Nat) : (eg s).length ≤ 256 := oz s 256
theorem dS {α : Type} {l : List α} {i : Nat} {d : α} (h : i < l.length) : l.getD i d ∈ l := by
 simp only [List.getD_eq_getElem?_getD, List.getElem?_eq_getElem h, Option.getD_some]
 exact List.getElem_mem h
theorem kO {s i : Nat} (h : i < (eg s).length) : ∃ p : Nat, p < 256 ∧ s.testBit p = true ∧ (eg s).getD i 0 = p := iZ.1 (dS h)
def fj (n : Nat) : Nat := 2 ^ 2 ^ n - 1
def pQ (k : Nat) : Nat := 2 ^ k - 1
theorem pE (k p : Nat) : (pQ k).testBit p = decide (p < k) := Nat.testBit_two_pow_sub_one k p
theorem fP (n p : Nat) : (fj n).testBit p = decide (p < 2 ^ n) := Nat.testBit_two_pow_sub_one _ p
theorem yq {k : Nat} (h : k < 256) : kI (pQ k) (k : Int) = pQ (k + 1) := by
 have hm : mv (k : Int) = true := by simp [mv]; omega
 refine Nat.eq_of_testBit_eq fun p => ?_
 simp only [kI, hm, if_true, Int.toNat_natCast, Nat.testBit_or, pE, Nat.testBit_two_pow]
 rw [Bool.eq_iff_iff]
 simp
 omega
def oV (s i : Nat) (one : Bool) : Nat := (eg s).foldl (fun o p => if decide (p.toNat / 2 ^ i % 2 = 1) == one then kI o p else o) 0
def ep (s t : Nat) : Bool := decide (wd (andNot s t) 0 = 0 ∧ wd (andNot s t) 1 = 0 ∧ wd (andNot s t) 2 = 0 ∧ wd (andNot s t) 3 = 0)
theorem KZ (i : Nat) : wd 0 i = 0 := by simp [wd]
theorem Dt {s i : Nat} : wd s i = 0 ↔ ∀ j, j < 64 → s.testBit (64 * i + j) = false := by
 constructor
 ·intro h j hj
  have h2 := il s i j
  rw [h, Nat.zero_testBit] at h2
  simpa [hj] using h2.symm
 ·intro h
  refine jP (by decide) fun j hj => ?_
  rw [h j hj, Nat.zero_testBit]
theorem d6 {s t : Nat} : ep s t = true ↔ ∀ p, p < 256 → s.testBit p = true → t.testBit p = true := by
 simp only [ep, decide_eq_true_eq, Dt, eh]
 constructor
 ·rintro ⟨h0, h1, h2, h3⟩ p hp hs
  have key : ∀ i, p / 64 = i → (∀ j, j < 64 → (s.testBit (64 * i + j) && !t.testBit (64 * i + j)) = false) → t.testBit p = true := fun i e h => by
   have h5 := h (p % 64) (Nat.mod_lt _ (by decide))
   have e2 : 64 * i + p % 64 = p := by omega
   rw [e2, hs] at h5
   simpa using h5
  have : p / 64 = 0 ∨ p / 64 = 1 ∨ p / 64 = 2 ∨ p / 64 = 3 := by omega
  rcases this with e | e | e | e
  ·exact key 0 e h0
  ·exact key 1 e h1
  ·exact key 2 e h2
  ·exact key 3 e h3
 ·intro h
  have key : ∀ i, i < 4 → ∀ j, j < 64 → (s.testBit (64 * i + j) && !t.testBit (64 * i + j)) = false := fun i hi j hj => by
   have h5 := h (64 * i + j) (by omega)
   cases hs : s.testBit (64 * i + j) with
   | false => rfl
   | true => simp [h5 hs]
  exact ⟨key 0 (by decide), key 1 (by decide), key 2 (by decide), key 3 (by decide)⟩
def nr (l : List Int) (i : Nat) (one : Bool) (k : Nat) : Nat := (l.take k).foldl (fun o p => if (decide (p.toNat / 2 ^ i % 2 = 1) == one) = true then kI o p else o) 0
theorem m7 {l : List Int} {i k : Nat} {one : Bool} (h : k < l.length) :
  nr l i one (k + 1) = if (decide ((l.getD k 0).toNat / 2 ^ i % 2 = 1) == one) = true then kI (nr l i one k) (l.getD k 0) else nr l i one k := by
 unfold nr
 rw [List.take_succ_eq_append_getElem h, List.foldl_append]
 simp [List.getD_eq_getElem?_getD, List.getElem?_eq_getElem h]
theorem Hj (s i : Nat) (one : Bool) : oV s i one = nr (eg s) i one (eg s).length := by
 unfold oV nr
 rw [List.take_length]
theorem uF (x : Nat) : x &&& 1 = x % 2 := Nat.and_one_is_mod x
theorem vJ (q : Nat) : decide (((q % 2 : Nat) : Int) = 1) = decide (q % 2 = 1) := by
 rw [Bool.eq_iff_iff]
 simp only [decide_eq_true_eq]
 omega
def dY (m v : Nat) (n : Int) : Bool := decide (0 ≤ n) && (decide (n ≤ 8) && (decide (m < 2 ^ n.toNat) && decide (andNot v m = 0)))
def m5 (m v k : Nat) : Nat :=
 match k with
 | 0 => 0
 | k + 1 => if k &&& m = v then kI (m5 m v k) (k : Int) else m5 m v k
def qI (m v n : Nat) : Nat := m5 m v (2 ^ n)
def jx (m : Nat) (i : Int) : Nat := if 0 ≤ i ∧ i < 8 then andNot m (2 ^ i.toNat) else m
theorem k9 {s k : Nat} (h : k < 256) (p : Nat) : (kI s (k : Int)).testBit p = (decide (p = k) || s.testBit p) := by
 have hm : mv (k : Int) = true := by simp [mv]; omega
 have e : decide (k = p) = decide (p = k) := by rw [Bool.eq_iff_iff]; simp; omega
 simp only [kI, hm, if_true, Int.toNat_natCast, Nat.testBit_or, Nat.testBit_two_pow, e]
 exact Bool.or_comm _ _
theorem wY {m v : Nat} : ∀ (k : Nat), k ≤ 256 → ∀ p, (m5 m v k).testBit p = (decide (p < k) && decide (p &&& m = v)) := by
 intro k
 induction k with
 | zero => intro _ p; simp [m5]
 | succ k ih =>
  intro hk p
  have ih' := ih (by omega) p
  simp only [m5]
  split
  ·rename_i h
   rw [k9 (by omega), ih']
   by_cases e : p = k
   ·subst e; simp [h]
   ·simp only [e, decide_false, Bool.false_or]
    congr 1
    rw [Bool.eq_iff_iff]
    simp
    omega
  ·rename_i h
   rw [ih']
   by_cases e : p = k
   ·subst e; simp [h]
   ·congr 1
    rw [Bool.eq_iff_iff]
    simp
    omega
theorem fh {n : Int} (h : n ≤ 8) : 2 ^ n.toNat ≤ 256 := by
 have : 2 ^ n.toNat ≤ 2 ^ 8 := Nat.pow_le_pow_right (by decide) (by omega)
 simpa using this
theorem jq {m v n : Nat} (h : n ≤ 8) (p : Nat) : (qI m v n).testBit p = (decide (p < 2 ^ n) && decide (p &&& m = v)) :=
 wY _ (by have := fh (n := (n : Int)) (by omega); simpa using this) p
end
section
open Go Go.RowKit Go.ChangeShapes Go.WideShapes Go.ChangeAt Go.Joins
theorem zl {n : Int} (h : (Lit.int .u64 n).wf = true) : ∃ k : Nat, n = k ∧ k < 18446744073709551616 := by
 simp [Lit.wf, IntKind.min, IntKind.max, IntKind.signed, IntKind.bits] at h
 exact ⟨n.toNat, by omega, by omega⟩
theorem HB {n : Int} (h : (Lit.int .u8 n).wf = true) : ∃ k : Nat, n = k ∧ k < 256 := by
 simp [Lit.wf, IntKind.min, IntKind.max, IntKind.signed, IntKind.bits] at h
 exact ⟨n.toNat, by omega, by omega⟩
theorem O7 {n : Int} (h : (Lit.int .i64 n).wf = true) : -9223372036854775808 ≤ n ∧ n ≤ 9223372036854775807 := by
 simp [Lit.wf, IntKind.min, IntKind.max, IntKind.signed, IntKind.bits] at h
 omega
theorem y8 {a b c d : Nat} (ha : a < 18446744073709551616) (hb : b < 18446744073709551616) (hc : c < 18446744073709551616) (hd : d < 18446744073709551616) :
  ∃ s : Nat, s < 2 ^ 256 ∧ Value.agg #[.int .u64 (a : Int), .int .u64 (b : Int), .int .u64 (c : Int), .int .u64 (d : Int)] = eP s := by
 refine ⟨a + 18446744073709551616 * (b + 18446744073709551616 * (c + 18446744073709551616 * d)), by omega, ?_⟩
 have e0 : wd (a + 18446744073709551616 * (b + 18446744073709551616 * (c + 18446744073709551616 * d))) 0 = a := by
  simp only [wd, Nat.mul_zero, Nat.pow_zero, Nat.div_one]; omega
 have e1 : wd (a + 18446744073709551616 * (b + 18446744073709551616 * (c + 18446744073709551616 * d))) 1 = b := by
  simp only [wd, Nat.mul_one]; omega
 have e2 : wd (a + 18446744073709551616 * (b + 18446744073709551616 * (c + 18446744073709551616 * d))) 2 = c := by
  simp only [wd, Nat.reduceMul]; omega
 have e3 : wd (a + 18446744073709551616 * (b + 18446744073709551616 * (c + 18446744073709551616 * d))) 3 = d := by
  simp only [wd, Nat.reduceMul]; omega
 rw [eP, wv, wv, wv, wv, e0, e1, e2, e3]
section
variable {H : Type} {enc : TypeId × Value → H} {P : Program} {w : World} {base : Nat} {spare : Nat → Bool} {held : Bool} {r : Reach} {b0 : Nat} {t e : TypeId} {v : Value} {d : DataW H} {ps : List MemPlace}
end
section
variable {H : Type} {enc : TypeId × Value → H} {P : Program} {W W' : World}
theorem qU (hl : laidOutB P = true) (hE : eo W W') (sp : Nat → Bool) : ∀ {ts : List TypeId} {vs : List Value} {ds : List (DataW H)} {ps : List MemPlace}, (ts.all fun t => P.readableRec t && decide (t < P.types.size)) = true →
  DataW.TrodAll enc P W 0 (fun _ => true) true ts vs ds ps → (∀ p ∈ ps, p.block < W.heap.size) → (∀ p ∈ ps, sp p.block = true) → DataW.TrodAll enc P W' 0 sp true ts vs ds ps
 | [], [], [], _, _, h, _, _ => h
 | t :: ts, vs, ds, ps, ht, h, hlt, hsp => by
  obtain ⟨v, vs', d, ds', p, q, rfl, rfl, rfl, h1, h2⟩ := trodAll_cons h
  simp only [List.all_cons, Bool.and_eq_true, decide_eq_true_eq] at ht
  refine trodAll_cons_mk (WideElems.Trod_stays hl ht.1.1 ht.1.2 h1 (fun x hx => Below.same hE (hlt x (by simp [hx]))) (fun x hx => hsp x (by simp [hx]))) ?_
  exact qU hl hE sp ht.2 h2 (fun x hx => hlt x (by simp [hx])) (fun x hx => hsp x (by simp [hx]))
 | [], [], _ :: _, _, _, h, _, _ => h.elim
 | [], _ :: _, _, _, _, h, _, _ => by cases h
theorem Jz {f : Func} {s : ChangeSpec} {apart fresh handsOn again : Bool} {args : Array Value} {ds gs : List (DataW H)} {before : List MemPlace} {t : TypeId}
  (hl : laidOutB P = true) (hW : DataW.Whole enc P f.params.toList s.vars apart W args.toList ds gs before) (hvs : s.vars = []) (hE : eo W W') (hts : (f.params.toList.all fun t => P.readableRec t && decide (t < P.types.size)) = true)
  (hrt : f.resultTypes = #[t]) (htb : P.underlying t = some .bool) (hr : (s.fn H (ds ++ gs)).results = [.lit (.bool true)]) (ha : (s.fn H (ds ++ gs)).args = ds) (hv : (s.fn H (ds ++ gs)).vars = []) :
  s.post enc P f apart fresh handsOn again W args (.bool true) W' := by
 have hlt := hW.lt
 have hW' := hW
 obtain ⟨p, q, hA, hV, rfl, hz, hn⟩ := hW
 rw [hvs] at hV
 obtain ⟨rfl, rfl⟩ := trodVars_none hV
 have hargs : ∀ sp : Nat → Bool, (∀ x ∈ p ++ [], sp x.block = true) → DataW.TrodAll enc P W' 0 sp true f.params.toList args.toList (s.fn H (ds ++ [])).args p := fun sp hsp => by
  rw [ha]
  exact qU hl hE sp hts hA (fun x hx => hlt x (by simp [hx])) (fun x hx => hsp x (by simp [hx]))
 have hres : ∀ (b : Nat) (sp : Nat → Bool) (hd : Bool), DataW.TrodAll enc P W' b sp hd f.resultTypes.toList ((Value.bool true).resultList f.resultTypes.size) (s.fn H (ds ++ [])).results [] := fun b sp hd => by
  rw [hr, hrt]
  exact trodAll_mk1 (shut_bool htb true)
 have hvars : ∀ sp : Nat → Bool, DataW.TrodVars enc P W' sp s.vars (s.fn H (ds ++ [])).vars [] := fun sp => by
  rw [hv, hvs]; rfl
 have hold : ∀ x ∈ p ++ [], (fun b => decide (b < W.heap.size)) x.block = true := fun x hx => by simpa using hlt x hx
 refine ⟨ds, [], p ++ [], [], p, [], hW', hres _ _ _, hargs _ hold, hvars _, World.keptBut_mono (fun x hx => ⟨hx, ?_⟩) (Below.frame hE (· ∈ p ++ [])), fun _ => ?_⟩
 ·simpa using hx
 ·refine ⟨ok_one hrt rfl (okWide_bool_mk htb true), _, _, ([] ++ p) ++ [], ⟨[] ++ p, [], trodAll_append (hargs _ (fun _ _ => rfl)) (hres _ _ _), hvars _, rfl, ?_, ?_⟩, ?_⟩
  ·intro b off hp
   have hm : MemPlace.cell b off ∈ p ++ [] := by simpa using hp
   rw [Below.frozen hE (p := ⟨b, off, none⟩) (hlt _ hm)]
   exact hz b off hm
  ·intro ha
   have := hn ha
   simpa using this
  ·intro x hx _
   simpa using hx
end
end
section
open Go Go.RowKit Go.ChangeShapes Go.WideShapes Go.ChangeAt Go.Joins Go.Deep
section
variable {H : Type} {encH : TypeId × Value → H} {P : Program} {w : World} {base : Nat} {held : Bool} {r : Reach} {b0 : Nat} {t e : TypeId}
theorem FY {a : Addr} {v : Value} (h : w.cell? a = some v) : a.spot = none := by
 unfold World.cell? at h
 split at h
 ·split at h
  ·cases h
  ·rename_i hn
   cases hq : a.spot with
   | none => rfl
   | some _ => rw [hq] at hn; simp at hn
 ·cases h
theorem open_sl {α : Type} [Inhabited α] {enc : α → List Value} {sz fuel : Nat} {Q : α → Prop} {v : Value} {x : DataW H × List MemPlace} (ht : P.underlying t = some (.slice e)) (hc : P.cellsOf e = sz) (hsz : 0 < sz) (he : ∀ a, (enc a).length = sz)
  (hopen : ∀ n cs y, cs.length = sz → DataW.trod encH P w base (fun _ => true) held n e cs = some y → ∃ a, cs = enc a ∧ Q a)
  (h : DataW.trod encH P w base (fun _ => true) held fuel t [v] = some x) : ∃ l : List α, dM enc sz w v l ∧ ∀ a ∈ l, Q a := by
 rcases open_slice ht h with ⟨h0, _⟩ | ⟨a, len, cap, m, n, D, Pl, h1, hb, hl, hm, hmm, hx, hel⟩
 ·simp only [List.cons.injEq, and_true] at h0
  subst h0
  exact ⟨[], dM.nil, by simp⟩
 ·simp only [List.cons.injEq, and_true] at h1
  subst h1
  simp only [if_true] at hmm
  subst hmm
  rw [hc] at hel
  obtain ⟨A, hA⟩ := choose_lt (α := α) (p := fun i b => Q b ∧ ∀ r u, (enc b)[r]? = some u → w.cell? (a.add (i * sz + r)) = some u) (fun i hi => by
   obtain ⟨cs', g1, g2⟩ := hel i hi
   obtain ⟨_, hlen, hcell⟩ := World.cells?_some g1
   obtain ⟨b, rfl, hq⟩ := hopen n cs' _ hlen g2
   refine ⟨b, hq, fun r u hu => ?_⟩
   have hr : r < sz := by
    have := (List.getElem?_eq_some_iff.1 hu).1
    rwa [he] at this
   have := hcell r hr
   rw [add_add] at this
   rw [this]; exact hu)
  have hspot : 0 < m → a.spot = none := fun h0 => by
   obtain ⟨_, g⟩ := hA 0 h0
   have hlen := he (A 0)
   have : (enc (A 0))[0]? = some ((enc (A 0))[0]'(by omega)) := List.getElem?_eq_getElem _
   have hg := g 0 _ this
   rw [Nat.zero_mul] at hg
   exact FY hg
  have hl2 : ∀ k, k < len → ((List.range len).map A).getD k default = A k := fun k hk => by simp [hk]
  have hlen0 : ((List.range len).map A).length = len := by simp
  refine ⟨(List.range len).map A, ⟨⟨some a, by simp [iU], by rw [hlen0]; exact hl, (fun h => (nomatch h)), fun a' h' h0 => ?_⟩, by rw [ky he], fun j u hu => ?_⟩, fun b hb => ?_⟩
  ·obtain rfl := Option.some.inj h'
   have := hspot h0
   cases a
   simp only at this
   subst this
   rfl
  ·have hlen2 : ((List.range len).map A).length = len := by simp
   have hj : j < len * sz := by
    have := (List.getElem?_eq_some_iff.1 hu).1
    rwa [ky he, hlen2] at this
   have h1 : j / sz < len := Nat.div_lt_of_lt_mul (by rwa [Nat.mul_comm] at hj)
   have h2 : j % sz < sz := Nat.mod_lt _ hsz
   have e1 : j = j / sz * sz + j % sz := by rw [Nat.mul_comm]; exact (Nat.div_add_mod j sz).symm
   have h3 := rH he ((List.range len).map A) (j / sz) (j % sz) default (by rw [hlen2]; exact h1) h2
   rw [← e1, hu, hl2 _ h1] at h3
   have h4 := (hA (j / sz) (by omega)).2 (j % sz) u h3.symm
   rw [← e1] at h4
   have hs := hspot (Nat.lt_of_le_of_lt (Nat.zero_le _) (Nat.lt_of_lt_of_le h1 hl))
   cases a
   simp only at hs
   subst hs
   rw [gR] at h4
   exact h4
  ·obtain ⟨i, hi, rfl⟩ := List.mem_map.1 hb
   exact (hA i (by have := List.mem_range.1 hi; omega)).1
end
end
end Go.Proofs.YteimkklmmanncaaGreat
