/- Short forms of the laws of walking: what a step asks for of itself is checked by itself (no condition). The walks of package set. The walks of the document's first two layers. The walks of package cube, and of the document's answer for primes. -/
import Derived.Test.YteimkklmmanncaaGreatPrime
import Derived.Test.YteimkklmmanncaaGreatProg
namespace Go.Proofs.YteimkklmmanncaaGreat
set_option linter.unusedVariables false
set_option linter.unusedSimpArgs false
section
open Go Go.RowKit
class KL (b : Bool) (p : outParam Prop) : Prop where
 t : b = true → p
 f : b = false → ¬ p
instance (priority := low) tst_0 (b : Bool) : KL b (b = true) := ⟨id, fun h => by simp [h]⟩
instance tst_1 (p : Prop) [Decidable p] : KL (decide p) p := ⟨of_decide_eq_true, of_decide_eq_false⟩
class KP (b : Bool) (p : outParam Prop) : Prop where
 f : b = false → p
instance (priority := low) tsf_0 (b : Bool) : KP b (b = false) := ⟨id⟩
instance tsf_1 (p : Prop) [Decidable p] : KP (decide p) (¬ p) := ⟨of_decide_eq_false⟩
theorem Om {p : Prop} (h : p := by omega) : p := h
theorem Dd {p : Prop} (h : p := by decide) : p := h
theorem Za {p : Prop} (h : p := by repeat (first | exact fz.mask _ _ _ | exact fz.refl _ _ | refine fz.updo ?_ rfl _ | refine fz.updL ?_ _ rfl | refine fz.maskS rfl ?_)) : p := h
theorem Zo {p : Prop} (h : p := by first | omega | (dsimp only; omega)) : p := h
def t0 (ops : Array Oper) (f : Nat → Value) (o : Oper) (n : Nat) : Bool := gw ops f o && jz n o.dst
def Ql (ops : Array Oper) (f : Nat → Value) (o : Oper) (n : Nat) : Bool := !gw ops f o && jz n o.dst
theorem tJ {ops : Array Oper} {f : Nat → Value} {o : Oper} {n : Nat} (h : t0 ops f o n = true) : gw ops f o = true := (Bool.and_eq_true_iff.1 h).1
theorem tR {ops : Array Oper} {f : Nat → Value} {o : Oper} {n : Nat} (h : t0 ops f o n = true) : jz n o.dst = true := (Bool.and_eq_true_iff.1 h).2
theorem Mf {ops : Array Oper} {f : Nat → Value} {o : Oper} {n : Nat} (h : Ql ops f o n = true) : gw ops f o = false := by simpa using (Bool.and_eq_true_iff.1 h).1
theorem MH {ops : Array Oper} {f : Nat → Value} {o : Oper} {n : Nat} (h : Ql ops f o n = true) : jz n o.dst = true := (Bool.and_eq_true_iff.1 h).2
def JM (f : Nat → Value) : Op → Option Value
 | .move x => some (dO f x)
 | .assign x => some (dO f x)
 | .pick c x y => match dO f c with
  | .bool true => some (dO f x)
  | .bool false => some (dO f y)
  | _ => none
 | _ => none
section
variable {P : Program} {n : Nat} {ops : Array Oper} {Q : (Nat → Value) → World → Prop} {f : Nat → Value} {w : World} {rest : List Oper} {d : Option Nat} {op : Op} {ty : TypeId} {ps : String} {af : Array Edge} {g : Option (Nat × Bool)}
theorem lZ {v : Value} (h : JM f op = some v) : (execOp (dO f) ⟨d, op, ty, ps, af, g⟩).run P w = .ok (.value v) w := by
 unfold JM at h
 split at h
 ·obtain rfl := Option.some.inj h; exact kN rfl
 ·obtain rfl := Option.some.inj h; exact A2 rfl
 ·split at h
  ·obtain rfl := Option.some.inj h; rename_i e; exact Ji e rfl
  ·obtain rfl := Option.some.inj h; rename_i e; exact IF e rfl
  ·cases h
 ·cases h
theorem Zv {v : Value} {w' : World} (hr : (execOp (dO f) ⟨d, op, ty, ps, af, g⟩).run P w = .ok (.value v) w') (h : WL P n ops Q rest (updo f d v) w') (hk : t0 ops f ⟨d, op, ty, ps, af, g⟩ n = true := by exact rfl) :
  WL P n ops Q (⟨d, op, ty, ps, af, g⟩ :: rest) f w := C6 (tJ hk) rfl (tR hk) hr h
theorem Zw (v : Value) (hv : JM f op = some v) (h : WL P n ops Q rest (updo f d v) w) (hk : t0 ops f ⟨d, op, ty, ps, af, g⟩ n = true := by exact rfl) :
  WL P n ops Q (⟨d, op, ty, ps, af, g⟩ :: rest) f w := Zv (lZ hv) h hk
theorem Zi {k : IntKind} {z : Int} (hv : JM f op = some (.int k z)) (h : WL P n ops Q rest (updo f d (.int k z)) w) (hk : t0 ops f ⟨d, op, ty, ps, af, g⟩ n = true := by exact rfl) :
  WL P n ops Q (⟨d, op, ty, ps, af, g⟩ :: rest) f w := Zv (lZ hv) h hk
theorem Zb {b : Bool} (hv : JM f op = some (.bool b)) (h : WL P n ops Q rest (updo f d (.bool b)) w) (hk : t0 ops f ⟨d, op, ty, ps, af, g⟩ n = true := by exact rfl) :
  WL P n ops Q (⟨d, op, ty, ps, af, g⟩ :: rest) f w := Zv (lZ hv) h hk
theorem Zp {b o : Nat} (hv : JM f op = some (.pointer (some ⟨b, o, none⟩))) (h : WL P n ops Q rest (updo f d (.pointer (some ⟨b, o, none⟩))) w) (hk : t0 ops f ⟨d, op, ty, ps, af, g⟩ n = true := by exact rfl) :
  WL P n ops Q (⟨d, op, ty, ps, af, g⟩ :: rest) f w := Zv (lZ hv) h hk
theorem Zf {x : Operand} {t : TypeId} {k q b o : Nat} (hx : dO f x = .pointer (some ⟨b, o, none⟩)) (hT : fx P t k = some q) (h : WL P n ops Q rest (updo f d (.pointer (some ⟨b, o + q, none⟩))) w)
  (hk : t0 ops f ⟨d, .fieldAddr t x k, ty, ps, af, g⟩ n = true := by exact rfl) : WL P n ops Q (⟨d, .fieldAddr t x k, ty, ps, af, g⟩ :: rest) f w := Zv (tz hx hT) h hk
theorem Zc {x : Operand} {a : Addr} (hx : dO f x = .pointer (some a)) (h : WL P n ops Q rest (updo f d (.pointer (some a))) w)
  (hk : t0 ops f ⟨d, .nilCheck x, ty, ps, af, g⟩ n = true := by exact rfl) : WL P n ops Q (⟨d, .nilCheck x, ty, ps, af, g⟩ :: rest) f w := Zv (pp hx) h hk
theorem Zl {x : Operand} {t : TypeId} {b o : Nat} {k : IntKind} {z : Int} {c : Array Value} {T : TypeId} (hx : dO f x = .pointer (some ⟨b, o, none⟩)) (hT : fp P t = true) (hm : At w b c T) (hc : c[o]? = some (.int k z))
  (h : WL P n ops Q rest (updo f d (.int k z)) w) (hk : t0 ops f ⟨d, .load t x, ty, ps, af, g⟩ n = true := by exact rfl) : WL P n ops Q (⟨d, .load t x, ty, ps, af, g⟩ :: rest) f w := Zv (dk hx hT (At.cell hm hc)) h hk
theorem ZL (v : Value) {x : Operand} {t : TypeId} {b o : Nat} {c : Array Value} {T : TypeId} (hx : dO f x = .pointer (some ⟨b, o, none⟩)) (hT : fp P t = true) (hm : At w b c T) (hc : c[o]? = some v)
  (h : WL P n ops Q rest (updo f d v) w) (hk : t0 ops f ⟨d, .load t x, ty, ps, af, g⟩ n = true := by exact rfl) : WL P n ops Q (⟨d, .load t x, ty, ps, af, g⟩ :: rest) f w := Zv (dk hx hT (At.cell hm hc)) h hk
theorem Zs (h : WL P n ops Q rest (updo f d undef) w) (hk : Ql ops f ⟨d, op, ty, ps, af, g⟩ n = true := by exact rfl) : WL P n ops Q (⟨d, op, ty, ps, af, g⟩ :: rest) f w := Lf (Mf hk) rfl (MH hk) h
theorem Zy (h : Yd P ⟨d, op, ty, ps, af, g⟩ f w fun v w' => WL P n ops Q rest (updo f d v) w') (hk : t0 ops f ⟨d, op, ty, ps, af, g⟩ n = true := by exact rfl) : WL P n ops Q (⟨d, op, ty, ps, af, g⟩ :: rest) f w :=
 gS (tJ hk) rfl (tR hk) h
theorem Zx {b : Bool} {p q : Prop} [KL b p] [KP b q] (hr : (execOp (dO f) ⟨d, op, ty, ps, af, g⟩).run P w = .ok (.value (.bool b)) w) (ht : p → WL P n ops Q rest (updo f d (.bool true)) w) (hf : q → WL P n ops Q rest (updo f d (.bool false)) w)
  (hk : t0 ops f ⟨d, op, ty, ps, af, g⟩ n = true := by exact rfl) : WL P n ops Q (⟨d, op, ty, ps, af, g⟩ :: rest) f w := Iw (tJ hk) rfl (tR hk) hr (fun h => ht (KL.t h)) (fun h => hf (KP.f h))
theorem ZX {b : Bool} {p q : Prop} [KL b p] [KP b q] (hv : JM f op = some (.bool b)) (ht : p → WL P n ops Q rest (updo f d (.bool true)) w) (hf : q → WL P n ops Q rest (updo f d (.bool false)) w)
  (hk : t0 ops f ⟨d, op, ty, ps, af, g⟩ n = true := by exact rfl) : WL P n ops Q (⟨d, op, ty, ps, af, g⟩ :: rest) f w := Zx (lZ hv) ht hf hk
theorem sI {q : Nat} {tys : Array TypeId} {ao : List Operand} {vs : List Value} (hc : dC P q = true) (hv : ao.map (dO f) = vs) :
  (execOp (dO f) ⟨d, .call ⟨.value (.func q), ao.toArray, tys⟩, ty, ps, af, g⟩).run P w = .ok (.enter q vs.toArray) w := jV (first := #[]) (cap := #[]) rfl hc (by simp [hv])
theorem ZC {q : Nat} {tys : Array TypeId} {ao : List Operand} {vs : List Value} {Post : Value → World → Prop} (hb : dC P q = true) (hc : Fn P q vs.toArray w Post) (hv : ao.map (dO f) = vs)
  (h : ∀ v w', eo w w' → Post v w' → WL P n ops Q rest (updo f d v) w') (hk : t0 ops f ⟨d, .call ⟨.value (.func q), ao.toArray, tys⟩, ty, ps, af, g⟩ n = true := by exact rfl) :
  WL P n ops Q (⟨d, .call ⟨.value (.func q), ao.toArray, tys⟩, ty, ps, af, g⟩ :: rest) f w := qp (tJ hk) rfl (tR hk) (sI hb hv) hc h
theorem ZH {q : Nat} {tys : Array TypeId} {ao : List Operand} {vs : List Value} {Post : Value → World → Prop} (hb : dC P q = true) (hc : qJ P q vs.toArray w Post) (hv : ao.map (dO f) = vs)
  (h : ∀ v w', Post v w' → WL P n ops Q rest (updo f d v) w') (hk : t0 ops f ⟨d, .call ⟨.value (.func q), ao.toArray, tys⟩, ty, ps, af, g⟩ n = true := by exact rfl) :
  WL P n ops Q (⟨d, .call ⟨.value (.func q), ao.toArray, tys⟩, ty, ps, af, g⟩ :: rest) f w := mG (tJ hk) rfl (tR hk) (sI hb hv) hc h
end
section
variable {P : Program} {n : Nat} {ops : Array Oper} {Q : (Nat → Value) → World → Prop} {S : World → Prop} {f : Nat → Value} {w : World} {k : Nat} {L : Array Bool} {d : Option Nat} {op : Op} {ty : TypeId} {ps : String} {af : Array Edge} {g : Option (Nat × Bool)}
def GF (ops : Array Oper) (L : Array Bool) (i : Nat) : Bool := Region.noSelect ops && Region.free .any ops L i && (Region.ready .any ops L).contains i
theorem H7 {i : Nat} (h : GF ops L i = true) : Region.noSelect ops = true ∧ Region.free .any ops L i = true ∧ (Region.ready .any ops L).contains i = true := by
 unfold GF at h
 rw [Bool.and_eq_true, Bool.and_eq_true] at h
 exact ⟨h.1.1, h.1.2, h.2⟩
theorem Tk (i : Nat) {v : Value} (hi : ops[i]? = some ⟨d, op, ty, ps, af, g⟩) (hv : ∀ w', S w' → (execOp (dO f) ⟨d, op, ty, ps, af, g⟩).run P w' = .ok (.value v) w') (hS : S w)
  (h : WT P n ops Q S k (L.setIfInBounds i true) (updo f d v) w) (hk : t0 ops f ⟨d, op, ty, ps, af, g⟩ n = true := by exact rfl) (ht : GF ops L i = true := by kernel_rfl) : WT P n ops Q S (k + 1) L f w :=
 have q := H7 ht
 yM i hi q.1 q.2.1 q.2.2 (tJ hk) rfl (tR hk) hv hS h
theorem Tw (i : Nat) (v : Value) (hi : ops[i]? = some ⟨d, op, ty, ps, af, g⟩) (hv : JM f op = some v) (hS : S w)
  (h : WT P n ops Q S k (L.setIfInBounds i true) (updo f d v) w) (hk : t0 ops f ⟨d, op, ty, ps, af, g⟩ n = true := by exact rfl) (ht : GF ops L i = true := by kernel_rfl) : WT P n ops Q S (k + 1) L f w :=
 Tk i hi (fun _ _ => lZ hv) hS h hk ht
theorem Ti (i : Nat) {q : IntKind} {z : Int} (hi : ops[i]? = some ⟨d, op, ty, ps, af, g⟩) (hv : JM f op = some (.int q z)) (hS : S w)
  (h : WT P n ops Q S k (L.setIfInBounds i true) (updo f d (.int q z)) w) (hk : t0 ops f ⟨d, op, ty, ps, af, g⟩ n = true := by exact rfl) (ht : GF ops L i = true := by kernel_rfl) : WT P n ops Q S (k + 1) L f w :=
 Tk i hi (fun _ _ => lZ hv) hS h hk ht
theorem Ty (i : Nat) {b : Bool} (hi : ops[i]? = some ⟨d, op, ty, ps, af, g⟩) (hv : JM f op = some (.bool b)) (hS : S w)
  (h : WT P n ops Q S k (L.setIfInBounds i true) (updo f d (.bool b)) w) (hk : t0 ops f ⟨d, op, ty, ps, af, g⟩ n = true := by exact rfl) (ht : GF ops L i = true := by kernel_rfl) : WT P n ops Q S (k + 1) L f w :=
 Tk i hi (fun _ _ => lZ hv) hS h hk ht
theorem Tq (i : Nat) {b o : Nat} (hi : ops[i]? = some ⟨d, op, ty, ps, af, g⟩) (hv : JM f op = some (.pointer (some ⟨b, o, none⟩))) (hS : S w)
  (h : WT P n ops Q S k (L.setIfInBounds i true) (updo f d (.pointer (some ⟨b, o, none⟩))) w) (hk : t0 ops f ⟨d, op, ty, ps, af, g⟩ n = true := by exact rfl) (ht : GF ops L i = true := by kernel_rfl) : WT P n ops Q S (k + 1) L f w :=
 Tk i hi (fun _ _ => lZ hv) hS h hk ht
theorem Tf (i : Nat) {x : Operand} {t : TypeId} {m q b o : Nat} (hi : ops[i]? = some ⟨d, .fieldAddr t x m, ty, ps, af, g⟩) (hx : dO f x = .pointer (some ⟨b, o, none⟩)) (hT : fx P t m = some q) (hS : S w)
  (h : WT P n ops Q S k (L.setIfInBounds i true) (updo f d (.pointer (some ⟨b, o + q, none⟩))) w) (hk : t0 ops f ⟨d, .fieldAddr t x m, ty, ps, af, g⟩ n = true := by exact rfl) (ht : GF ops L i = true := by kernel_rfl) : WT P n ops Q S (k + 1) L f w :=
 Tk i hi (fun _ _ => tz hx hT) hS h hk ht
theorem Tc (i : Nat) {x : Operand} {a : Addr} (hi : ops[i]? = some ⟨d, .nilCheck x, ty, ps, af, g⟩) (hx : dO f x = .pointer (some a)) (hS : S w)
  (h : WT P n ops Q S k (L.setIfInBounds i true) (updo f d (.pointer (some a))) w) (hk : t0 ops f ⟨d, .nilCheck x, ty, ps, af, g⟩ n = true := by exact rfl) (ht : GF ops L i = true := by kernel_rfl) : WT P n ops Q S (k + 1) L f w :=
 Tk i hi (fun _ _ => pp hx) hS h hk ht
theorem Tp (i : Nat) (hi : ops[i]? = some ⟨d, op, ty, ps, af, g⟩) (hS : S w) (h : WT P n ops Q S k (L.setIfInBounds i true) (updo f d undef) w) (hk : Ql ops f ⟨d, op, ty, ps, af, g⟩ n = true := by exact rfl)
  (ht : GF ops L i = true := by kernel_rfl) : WT P n ops Q S (k + 1) L f w :=
 have q := H7 ht
 Ll i hi q.1 q.2.1 q.2.2 (Mf hk) rfl (MH hk) hS h
theorem Tx (i : Nat) {b : Bool} {p q : Prop} [KL b p] [KP b q] (hi : ops[i]? = some ⟨d, op, ty, ps, af, g⟩) (hv : ∀ w', S w' → (execOp (dO f) ⟨d, op, ty, ps, af, g⟩).run P w' = .ok (.value (.bool b)) w') (hS : S w)
  (h1 : p → WT P n ops Q S k (L.setIfInBounds i true) (updo f d (.bool true)) w) (h0 : q → WT P n ops Q S k (L.setIfInBounds i true) (updo f d (.bool false)) w)
  (hk : t0 ops f ⟨d, op, ty, ps, af, g⟩ n = true := by exact rfl) (ht : GF ops L i = true := by kernel_rfl) : WT P n ops Q S (k + 1) L f w :=
 have q := H7 ht
 IV i hi q.1 q.2.1 q.2.2 (tJ hk) rfl (tR hk) hv hS (fun e => h1 (KL.t e)) (fun e => h0 (KP.f e))
theorem To (i : Nat) (hi : ops[i]? = some ⟨d, op, ty, ps, af, g⟩) (h : Yd P ⟨d, op, ty, ps, af, g⟩ f w fun v w' => (S w' ∨ m4 ops L i = true) ∧ WT P n ops Q S k (L.setIfInBounds i true) (updo f d v) w')
  (hk : t0 ops f ⟨d, op, ty, ps, af, g⟩ n = true := by exact rfl) (hr : Region.ready .any ops L = [i] := by kernel_rfl) : WT P n ops Q S (k + 1) L f w := q8 i hr hi (tJ hk) rfl (tR hk) h
theorem Td (h : Q f w) (hr : Region.ready .any ops L = [] := by kernel_rfl) : WT P n ops Q S k L f w := KT hr h
theorem TC {q : Nat} {tys : Array TypeId} {ao : List Operand} {vs : List Value} {Post K : Value → World → Prop} (hb : dC P q = true) (hc : Fn P q vs.toArray w Post) (hv : ao.map (dO f) = vs)
  (h : ∀ v w', eo w w' → Post v w' → K v w') : Yd P ⟨d, .call ⟨.value (.func q), ao.toArray, tys⟩, ty, ps, af, g⟩ f w K := Yd.call (sI hb hv) hc h
theorem TG {q : Nat} {tys : Array TypeId} {ao : List Operand} {vs : List Value} {Post K : Value → World → Prop} (hb : dC P q = true) (hc : qJ P q vs.toArray w Post) (hv : ao.map (dO f) = vs)
  (h : ∀ v w', Post v w' → K v w') : Yd P ⟨d, .call ⟨.value (.func q), ao.toArray, tys⟩, ty, ps, af, g⟩ f w K := Yd.callG (sI hb hv) hc h
end
section
variable {P : Program} {n : Nat} {Q : Exit → (Nat → Value) → World → Prop} {f : Nat → Value} {w : World}
theorem En {x y : Code} (h : WC P n x (wI (WC P n y Q) Q) f w) : WC P n (.seq x y) Q f w := by
 refine ⟨fun a ha => ?_⟩
 refine wp_seq (Code.wp_mono (fun e a' w' hq => ?_) (h.out a ha))
 obtain ⟨f', hr, hq⟩ := hq
 cases e with
 | normal => exact hq.out a' hr
 | _ => exact ⟨f', hr, hq⟩
theorem LV {σ : Type} (S : List Nat) (L : σ → List (Nat × Value)) (I0 : World → Prop) (h0 : I0 w) (I : σ → World → Prop) {x y : Code}
  (h1 : ∀ J : (Nat → Value) → World → Prop, (∀ f2 w2 s2, fz S f2 f → pY f2 (L s2) → I0 w2 → I s2 w2 → J f2 w2) → WC P n x (wI J Q) f w)
  (h2 : ∀ s g w1, I0 w1 → I s w1 → WC P n y Q (updL (L s) (mask S f g)) w1) : WC P n (.seq x y) Q f w :=
 cY fun K hK => h1 K fun f2 w2 s2 ha hl hk hi => hK _ _ (by rw [uc ha (L s2) hl]; exact h2 s2 f2 w2 hk hi)
theorem Zr {id : Nat} {l : List Oper} {y : Code} (h : WL P n l.toArray (fun f w => WC P n y Q f w) l f w) : WC P n (.seq (.region id l.toArray false) y) Q f w := En (cZ h)
theorem Zd (S : World → World → Prop) {id : Nat} {ops : Array Oper} {y : Code} (h : ∀ w1, eo w w1 → WT P n ops (fun f w => WC P n y Q f w) (S w1) ops.size (Array.replicate ops.size false) f w1) (hm : P.follows .mixedOrders = true := by kernel_rfl) :
  WC P n (.seq (.region id ops true) y) Q f w := En (gx S hm h)
end
class BL (Q : Exit → (Nat → Value) → World → Prop) (Q' : outParam (Exit → (Nat → Value) → World → Prop)) : Prop where
 out : ∀ f w, Q' .ret f w → Q .ret f w
instance retQ_then {K : (Nat → Value) → World → Prop} {Q Q' : Exit → (Nat → Value) → World → Prop} [h : BL Q Q'] : BL (wI K Q) Q' := ⟨fun f w q => h.out f w q⟩
instance retQ_block {id : Nat} {Q Q' : Exit → (Nat → Value) → World → Prop} [h : BL Q Q'] : BL (re id Q) Q' := ⟨fun f w q => h.out f w q⟩
instance retQ_body {P : Program} {rs : Array ResultVar} {Post : Value → World → Prop} : BL (mK P rs Post) (mK P rs Post) := ⟨fun _ _ q => q⟩
theorem Zt {P : Program} {n : Nat} {Q Q' : Exit → (Nat → Value) → World → Prop} {f : Nat → Value} {w : World} [h : BL Q Q'] (k : Q' .ret f w) : WC P n .ret Q f w := vW (h.out f w k)
theorem ZQ {P : Program} {n : Nat} {c : Operand} {x y : Code} {Q : Exit → (Nat → Value) → World → Prop} {f : Nat → Value} {w : World} {b : Bool} {p q : Prop} [KL b p] [KP b q] (hc : dO f c = .bool b) (ht : p → WC P n x Q f w) (hf : q → WC P n y Q f w) : WC P n (.cond c x y) Q f w :=
 y6 hc (fun h => ht (KL.t h)) (fun h => hf (KP.f h))
section
variable {a w w' : World} {b : Nat} {c : Array Value} {T : TypeId}
theorem Ze (h : Below a.heap.size a w) (k : eo w w') : Below a.heap.size a w' := dF h k (Nat.le_refl _)
theorem Zg (h : Below a.heap.size a w) (hg : w.grownBy w' (some b)) (lo : a.heap.size ≤ b) : Below a.heap.size a w' := dy h hg (Nat.le_refl _) (fun j hj => by cases hj; exact lo)
theorem ZG {α : Type} {enc : α → List Value} {sz : Nat} {v : Value} {l : List α} (h : Below a.heap.size a w) (hg : w.grownBy w' v.ownBlock) (k : dh enc sz T w a.heap.size v l) : Below a.heap.size a w' := dy h hg (Nat.le_refl _) (dh.lt k)
theorem ZO {N : Nat} (e : b = w.heap.size) (h : Below N a w) : a.heap.size ≤ b := e ▸ Below.size h
theorem Zn {b' : Nat} (e : b = w.heap.size) (h : b' < w.heap.size) : b' ≠ b := Nat.ne_of_lt (e ▸ h)
end
end
section
open Go Go.RowKit
theorem im : Tryz.prog.follows .mixedOrders = true := by kernel_rfl
theorem Iy : dC Tryz.prog 93 = true := by kernel_rfl
theorem JE : dC Tryz.prog 94 = true := by kernel_rfl
theorem l4 : Gg Tryz.prog 49 = some (4, 1) := by kernel_rfl
theorem l6 : fp Tryz.prog 47 = true := by kernel_rfl
theorem eM : eL Tryz.prog 49 = some (.agg #[.int .u64 0, .int .u64 0, .int .u64 0, .int .u64 0]) := by kernel_rfl
theorem df : kY Tryz.prog 49 = some 4 := by kernel_rfl
theorem K0 : dC Tryz.prog 130 = true := by kernel_rfl
theorem CO : dC Tryz.prog 56 = true := by kernel_rfl
theorem MV : dC Tryz.prog 57 = true := by kernel_rfl
theorem NQ : dC Tryz.prog 98 = true := by kernel_rfl
theorem wg : dC Tryz.prog 64 = true := by kernel_rfl
theorem yg : (Tryz.prog.info? 47).map (·.size) = some 1 := by kernel_rfl
theorem gD {f : Nat → Value} {w : World} {d : Option Nat} {ty : TypeId} {ps : String} {af : Array Edge} {g : Option (Nat × Bool)}    :
    (execOp (dO f) ⟨d, .build 49 #[], ty, ps, af, g⟩).run Tryz.prog w = .ok (.value (.agg #[.int .u64 0, .int .u64 0, .int .u64 0, .int .u64 0])) w := by
  obtain ⟨i0, hi0, hz0⟩ := Option.bind_eq_some_iff.1 (show (Tryz.prog.info? 49).bind (·.zero) = _ from eM)
  obtain ⟨j47, hj47, hs47⟩ := Option.map_eq_some_iff.1 yg
  simp [execOp, Instr.build, zeroValue, typeInfo, sizeOf, hi0, hz0, run_underlying Tryz.underlying49, Instr.fill, eW, hj47, hs47]
theorem rD {f : Nat → Value} {w : World} {d : Option Nat} {ty t2 : TypeId} {ps : String} {af : Array Edge} {g : Option (Nat × Bool)} {x y : Operand} {a0 a1 a2 a3 b0 b1 b2 b3 : Int} (hx : dO f x = .agg #[.int .u64 a0, .int .u64 a1, .int .u64 a2, .int .u64 a3]) (hy : dO f y = .agg #[.int .u64 b0, .int .u64 b1, .int .u64 b2, .int .u64 b3]) :
    (execOp (dO f) ⟨d, .binOp .eql 49 x y t2, ty, ps, af, g⟩).run Tryz.prog w = .ok (.value (.bool (decide ((a0 = b0 ∧ a1 = b1 ∧ a2 = b2 ∧ a3 = b3))))) w := by
  have hg : Tryz.prog.eqGuardType Tryz.prog.depth 49 = false := by kernel_rfl
  have ha := oP (P := Tryz.prog) w 9999 4 49 47 #[.int .u64 a0, .int .u64 a1, .int .u64 a2, .int .u64 a3] #[.int .u64 b0, .int .u64 b1, .int .u64 b2, .int .u64 b3]
    (fun i => .int .u64 ([a0, a1, a2, a3].getD i 0)) (fun i => .int .u64 ([b0, b1, b2, b3].getD i 0)) (fun i => [a0, a1, a2, a3].getD i 0 == [b0, b1, b2, b3].getD i 0) Tryz.underlying49 (by kernel_rfl) (by simp [isAgg, run_underlying Tryz.underlying47])
    (fun i hi => by
      have : i = 0 ∨ i = 1 ∨ i = 2 ∨ i = 3 := by omega
      rcases this with rfl | rfl | rfl | rfl <;> rfl)
    (fun i hi => by
      have : i = 0 ∨ i = 1 ∨ i = 2 ∨ i = 3 := by omega
      rcases this with rfl | rfl | rfl | rfl <;> rfl)
    (fun i hi => run_equalIn_int w 9998 47 .u64 .u64 _ _ Tryz.underlying47)
  simp only [execOp, hx, hy, Sem.run_bind, run_eqGuard_agg _ _ _ _ _ _ _ hg, Result.andThen_ok, run_eql_struct, ha]
  simp [List.range, List.range.loop]
  by_cases q0 : a0 = b0 <;> by_cases q1 : a1 = b1 <;> by_cases q2 : a2 = b2 <;> by_cases q3 : a3 = b3 <;> simp [q0, q1, q2, q3]
theorem vq : dC Tryz.prog 55 = true := by kernel_rfl
theorem IW : dC Tryz.prog 69 = true := by kernel_rfl
theorem du : fO Tryz.prog 80 = some (3, 1, 8) := by kernel_rfl
theorem fv : (eL Tryz.prog 3).map (fun z => z.cells.size) = some 1 := by kernel_rfl
theorem vC : dC Tryz.prog 58 = true := by kernel_rfl
theorem dB : fp Tryz.prog 3 = true := by kernel_rfl
theorem yj (p : Int) (w : World) :
    Fn Tryz.prog 93 #[.int .i64 p] w fun v w' => v = .bool (mv p) := by
 refine dq (n := 9) Tryz.func93 rfl rfl (Nat.le_of_ble_eq_true rfl) ?_
 have hB : Below w.heap.size w w := Below.refl _ _
 refine Zr <| Zw (.bool false) rfl <| cT <| Zr <| Zi rfl <| Zv (nJ rfl rfl) <| ZX rfl (fun a => ?_) fun a => ?_
 refine Zi rfl <| Zv (dL rfl rfl) <| Zb rfl <| Zb rfl <| cT <| Zt <| dE (v := .bool _) rfl ⟨hB, ?_⟩
 simp [mv]; omega
 refine Zs <| Zs <| Zw (.bool false) rfl <| Zw (.bool false) rfl <| cT <| Zt <| dE (v := .bool false) rfl ⟨hB, ?_⟩
 simp [mv]; omega
theorem AD (p : Int) (w : World) (h0 : 0 ≤ p) (h1 : p < 256) :
    Fn Tryz.prog 94 #[.int .i64 p] w fun v w' => v = .tuple #[.int .i64 ((p.toNat / 64 : Nat) : Int), .int .u64 ((2 ^ (p.toNat % 64) : Nat) : Int)] := by
 refine dq (n := 9) Tryz.func94 rfl rfl (Nat.le_of_ble_eq_true rfl) ?_
 have hB : Below w.heap.size w w := Below.refl _ _
 obtain ⟨q, rfl⟩ := Int.eq_ofNat_of_zero_le h0
 have hq : q < 256 := by omega
 refine Zr <| Zw (.int .i64 0) rfl <| Zw (.int .u64 0) rfl <| cT <| Zd eo fun W5 a => ?_
 replace hB := Ze hB a
 have hS := eo.refl W5
 refine Ti 0 rfl rfl hS <| Tk 1 rfl (fun _ _ => ro (n := 64) rfl rfl rfl Om (by first | assumption | (simp only [d5]; omega) | (simp only [d5]; decide))) hS <| Ti 2 rfl rfl hS <| Tk 3 rfl (fun _ _ => vl (n := 64) rfl rfl rfl Om) hS <| Tk 4 rfl (fun _ _ => jB (m := 1) rfl rfl Om (by simp only [IntKind.bits]; omega) (by exact rO _ _ (by simp only [lN]; omega))) hS <| Ti 5 rfl rfl hS <| Ti 6 rfl rfl hS <| Td <| Zt <| dZ (v := .int .i64 _) rfl (v1 := .int .u64 _) rfl ⟨hB, ?_⟩
 have e : ((q : Int) % 64).toNat = q % 64 := by omega
 simp [e]
theorem xD (s : Nat) (p : Int) (w : World) :
    Fn Tryz.prog 69 #[eP s, .int .i64 p] w fun v w' => v = .bool (wV s p) := by
 refine dq (n := 21) Tryz.func69 rfl rfl (Nat.le_of_ble_eq_true rfl) ?_
 have hB : Below w.heap.size w w := Below.refl _ _
 refine Zr <| Zy (dU (c := #[_, _, _, _]) rfl rfl fun k W3 d g b => ?_)
 have l := ZO d hB
 clear d
 replace hB := Ze hB g
 refine Zw (.bool false) rfl <| cT <| cY fun K6 h => Zr <| Zi rfl <| ZC Iy (yj _ _) rfl fun m o e i => ?_
 replace hB := Ze hB e
 replace b := e.at b
 obtain rfl := i
 refine Zv (fy rfl) <| cT <| ZQ rfl (fun a => ?_) fun a => ?_
 refine Zr <| Zw (.bool false) rfl <| cT <| Zt <| dE (v := .bool false) rfl ⟨hB, ?_⟩
 first | exact congrArg Value.bool (xu hq) | (simp at a; simp [wV, a])
 refine c9 <| h _ _ <| Zr <| Zi rfl <| ZC JE (AD _ _ (by simp [mv] at a; omega) (by simp [mv] at a; omega)) rfl fun r t f j => ?_
 replace hB := Ze hB f
 replace b := f.at b
 obtain rfl := j
 obtain ⟨q, rfl⟩ := Int.eq_ofNat_of_zero_le (show 0 ≤ p by simp [mv] at a; omega)
 have hq : q < 256 := by simp [mv] at a; omega
 simp only [Int.toNat_natCast]
 refine Zw (.tuple #[.int .i64 _, .int .u64 _]) rfl <| Zv (dI rfl) <| Zv (dK rfl) <| Zi rfl <| Zi rfl <| cT <| Zr <| Zi rfl <| Zv (e7 rfl rfl l4 Om Om) <| Zv (dk (v := wv s _) rfl l6 (At.cell b (nU s _ Om))) <| Zi rfl <| Zv (nE (n := _) rfl rfl rfl (by exact C3 _ _) (by rw [← Nat.one_mul (2 ^ _)]; exact rO _ _ (by simp only [lN]; omega))) <| Zv (iQ rfl rfl) <| Zb rfl ?_
 refine cT <| Zt <| dE (v := .bool _) rfl ⟨hB, ?_⟩
 first | exact congrArg Value.bool (xu hq) | (simp at a; simp [wV, a])
theorem mr (s : Nat) (p : Int) (w : World) :
    Fn Tryz.prog 55 #[eP s, .int .i64 p] w fun v w' => v = eP (kI s p) := by
 refine dq (n := 21) Tryz.func55 rfl rfl (Nat.le_of_ble_eq_true rfl) ?_
 have hB : Below w.heap.size w w := Below.refl _ _
 refine Zr <| Zy (dU (c := #[_, _, _, _]) rfl rfl fun D W3 i t a => ?_)
 have u := ZO i hB
 clear i
 replace hB := Ze hB t
 refine Zy (dt eM rfl fun x W6 e j b => ?_)
 have k := ZO e hB
 have f := Zn e a.lt
 clear e
 replace hB := Ze hB j
 replace a := j.at a
 replace b : At W6 x #[wv 0 0, wv 0 1, wv 0 2, wv 0 3] 49 := b
 refine cT <| cY fun K9 l => Zr <| Zi rfl <| ZC Iy (yj _ _) rfl fun E F g y => ?_
 replace hB := Ze hB g
 replace a := g.at a
 replace b := g.at b
 obtain rfl := y
 refine cT <| ZQ rfl (fun d => ?_) fun d => ?_
 refine Zr <| Zi rfl <| ZC JE (AD _ _ (by simp [mv] at d; omega) (by simp [mv] at d; omega)) rfl fun G H h z => ?_
 replace hB := Ze hB h
 replace a := h.at a
 replace b := h.at b
 obtain rfl := z
 obtain ⟨q, rfl⟩ := Int.eq_ofNat_of_zero_le (show 0 ≤ p by simp [mv] at d; omega)
 have hq : q < 256 := by simp [mv] at d; omega
 simp only [Int.toNat_natCast]
 refine Zw (.tuple #[.int .i64 _, .int .u64 _]) rfl <| Zv (dI rfl) <| Zv (dK rfl) <| Zi rfl <| Zi rfl <| cT <| cZ <| Zi rfl <| Zv (e7 rfl rfl l4 Om Om) <| Zv (dk (v := wv s _) rfl l6 (At.cell a (nU s _ Om))) <| Zi rfl <| Zv (Cq (n := _) rfl rfl rfl (by exact C3 _ _) (by rw [← Nat.one_mul (2 ^ _)]; exact rO _ _ (by simp only [lN]; omega))) <| Zv (e7 rfl rfl l4 Om Om) <| Zy (eC (v := .int .u64 _) rfl rfl l6 rfl a (by simp; omega) fun I m A => ?_)
 replace hB := Zg hB m u
 replace b := At.grownNe b (Ne.symm f) m
 replace a := A
 rw [BW (s' := kI s q) (by omega) (Af hq)] at a
 refine cT <| l _ _ <| Zr <| Zv (db rfl df rfl a) <| Zy (dg rfl rfl df rfl b rfl rfl fun J o B => ?_)
 replace hB := Zg hB o k
 replace a := At.grownNe a f o
 replace b := B
 refine cT <| Zt <| jD rfl df b rfl ⟨hB, ?_⟩
 first | rfl | (simp [kI, d])
 refine c9 <| l _ _ <| Zr <| Zv (db rfl df rfl a) <| Zy (dg rfl rfl df rfl b rfl rfl fun K r C => ?_)
 replace hB := Zg hB r k
 replace a := At.grownNe a f r
 replace b := C
 refine cT <| Zt <| jD rfl df b rfl ⟨hB, ?_⟩
 first | rfl | (simp [kI, d])
theorem rp (s t q : Nat) (op : Nat → Nat → Nat) (w : World) (hq : dC Tryz.prog q = true) (hdo : ∀ (x y : Nat) (w : World), x < 18446744073709551616 → y < 18446744073709551616 → Fn Tryz.prog q #[.int .u64 (x : Int), .int .u64 (y : Int)] w fun v w' => v = .int .u64 ((op x y : Nat) : Int)) :
    Fn Tryz.prog 56 #[eP s, eP t, .func (.func q) #[] #[]] w fun v w' => v = .agg (Ch op s t 4) := by
 refine dq (n := 24) Tryz.func56 rfl rfl (Nat.le_of_ble_eq_true rfl) ?_
 have hB : Below w.heap.size w w := Below.refl _ _
 refine Zr <| Zy (dU (c := #[_, _, _, _]) rfl rfl fun C W3 r D a => ?_)
 have V := ZO r hB
 clear r
 replace hB := Ze hB D
 refine Zy (dU (c := #[_, _, _, _]) rfl rfl fun E W6 o u b => ?_)
 have X := ZO o hB
 have Y := Zn o a.lt
 clear o
 replace hB := Ze hB u
 replace a := u.at a
 refine Zy (dt eM rfl fun z W9 i p d => ?_)
 have F := ZO i hB
 have G := Zn i a.lt
 have H := Zn i b.lt
 clear i
 replace hB := Ze hB p
 replace a := p.at a
 replace b := p.at b
 replace d : At W9 z #[wv 0 0, wv 0 1, wv 0 2, wv 0 3] 49 := d
 refine cT <| Zr <| Zy (dt eM rfl fun A I g j e => ?_)
 have J := ZO g hB
 have K := Zn g a.lt
 have L := Zn g b.lt
 have B := Zn g d.lt
 clear g
 replace hB := Ze hB j
 replace a := j.at a
 replace b := j.at b
 replace d := j.at d
 replace e : At I A #[wv 0 0, wv 0 1, wv 0 2, wv 0 3] 49 := e
 refine cT <| cY fun Z M => Zr <| Zw (.int .i64 0) rfl <| cT <| c7 ?_
 refine dw (σ := (Nat)) [8, 9, 10, 11, 12, 13, 14, 15, 16, 17, 18, 19, 20, 21, 22] (fun k => [(9, .int .i64 (k : Int))]) (fun k W => (Below w.heap.size w W) ∧ (At W C _ 49) ∧ (At W E _ 49) ∧ (At W z _ 49) ∧ (At W A (Ch op s t k) 49) ∧ (k ≤ 4) ∧ (True)) (fun k => 4 - k) (0) ⟨rfl, trivial⟩ ⟨hB, a, b, d, e, Om, trivial⟩ ?_
 clear hB a b d e
 rintro k aa ab ⟨hB, a, b, d, e, hk, _⟩ ac N
 refine Zr <| Zv (dL rfl rfl) <| cT <| cY fun ad O => ZQ rfl (fun P => ?_) fun P => ?_
 refine c9 <| O _ _ <| cY fun ae Q => c7 <| Zr <| Zi rfl <| Zi rfl <| cT ?_
 refine gx eo im (fun R h => ?_)
 replace hB := Ze hB h
 replace a := h.at a
 replace b := h.at b
 replace d := h.at d
 replace e := h.at e
 have hS := eo.refl R
 refine Ti 0 rfl rfl hS <| Tw 1 (.func (.func q) #[] #[]) rfl rfl hS <| Ti 2 rfl rfl hS <| Tk 3 rfl (fun _ _ => e7 rfl rfl l4 Om Om) hS <| Tk 4 rfl (fun _ hq => dk (v := .int .u64 _) rfl l6 (At.cell (hq.at a) (nU s k Om))) hS <| Ti 5 rfl rfl hS <| Tk 6 rfl (fun _ _ => e7 rfl rfl l4 Om Om) hS <| Tk 7 rfl (fun _ hq => dk (v := .int .u64 _) rfl l6 (At.cell (hq.at b) (nU t k Om))) hS <| To 8 rfl (Yd.call (vQ (q := q) rfl hq (v0 := .int .u64 _) rfl (v1 := .int .u64 _) rfl) (hdo _ _ _ (tA _ _) (tA _ _)) fun af ag f S => ⟨.inl (hS.trans f), ?_⟩)
 replace hB := Ze hB f
 replace a := f.at a
 replace b := f.at b
 replace d := f.at d
 replace e := f.at e
 replace hS := hS.trans f
 obtain rfl := S
 refine Tk 9 rfl (fun _ _ => e7 rfl rfl l4 Om Om) hS <| To 10 rfl (eC (v := .int .u64 _) rfl rfl l6 rfl e (by simp [FW]; omega) fun ah l T => ⟨.inr (by kernel_rfl), ?_⟩)
 replace hB := Zg hB l J
 replace a := At.grownNe a K l
 replace b := At.grownNe b L l
 replace d := At.grownNe d B l
 replace e := T
 rw [Hm op s t k (by omega)] at e
 refine Td <| Q _ _ <| cZ <| Zv (dp rfl rfl Om Om) <| Zi rfl <| cT ?_
 exact N _ _ (k + 1) Za ⟨rfl, trivial⟩ ⟨hB, a, b, d, e, Om, trivial⟩ Zo
 refine dr <| M _ _ <| Zr <| Zv (db rfl df rfl e) <| Zy (dg rfl rfl df rfl d rfl rfl fun ai m U => ?_)
 replace hB := Zg hB m F
 replace a := At.grownNe a G m
 replace b := At.grownNe b H m
 replace e := At.grownNe e (Ne.symm B) m
 replace d := U
 refine cT <| Zt <| jD rfl df d rfl ⟨hB, ?_⟩
 obtain rfl : k = 4 := by omega
 rfl
theorem Ct (x y : Nat) (w : World) (hx : x < 18446744073709551616) (hy : y < 18446744073709551616) :
    Fn Tryz.prog 130 #[.int .u64 (x : Int), .int .u64 (y : Int)] w fun v w' => v = .int .u64 ((x ||| y : Nat) : Int) := by
 refine dq (n := 8) Tryz.func130 rfl rfl (Nat.le_of_ble_eq_true rfl) ?_
 have hB : Below w.heap.size w w := Below.refl _ _
 refine Zr <| Zw (.int .u64 0) rfl <| cT <| Zr <| Zi rfl <| Zi rfl <| Zv (Cq (n := _) rfl rfl rfl (by first | assumption | (simp only [d5]; omega) | (simp only [d5]; decide)) (by first | assumption | (simp only [d5]; omega) | (simp only [d5]; decide))) <| Zi rfl <| cT <| Zt <| dE (v := .int .u64 _) rfl ⟨hB, ?_⟩
 rfl
theorem rZ (s t : Nat) (w : World) :
    Fn Tryz.prog 114 #[eP s, eP t] w fun v w' => v = eP (s ||| t) := by
 refine dq (n := 8) Tryz.func114 rfl rfl (Nat.le_of_ble_eq_true rfl) ?_
 have hB : Below w.heap.size w w := Below.refl _ _
 refine Zr <| Zy (dU (c := #[_, _, _, _]) rfl rfl fun B W3 k o a => ?_)
 have C := ZO k hB
 clear k
 replace hB := Ze hB o
 refine Zy (dU (c := #[_, _, _, _]) rfl rfl fun D W6 g l b => ?_)
 have E := ZO g hB
 have F := Zn g a.lt
 clear g
 replace hB := Ze hB l
 replace a := l.at a
 refine Zy (dt eM rfl fun p W9 e h d => ?_)
 have q := ZO e hB
 have u := Zn e a.lt
 have z := Zn e b.lt
 clear e
 replace hB := Ze hB h
 replace a := h.at a
 replace b := h.at b
 replace d : At W9 p #[wv 0 0, wv 0 1, wv 0 2, wv 0 3] 49 := d
 refine cT <| Zr <| Zv (db rfl df rfl a) <| Zv (db rfl df rfl b) <| ZC (vs := [.agg #[_, _, _, _], .agg #[_, _, _, _], .func (.func 130) #[] #[]]) CO (rp s t 130 (fun x y => x ||| y) _ K0 (fun x y w hx hy => Ct x y w hx hy)) rfl fun G H f m => ?_
 replace hB := Ze hB f
 replace a := f.at a
 replace b := f.at b
 replace d := f.at d
 rw [uS (r := s ||| t) (fun j => Mn s t j)] at m
 obtain rfl := m
 refine Zy (dg rfl rfl df rfl d rfl rfl fun I i A => ?_)
 replace hB := Zg hB i q
 replace a := At.grownNe a u i
 replace b := At.grownNe b z i
 replace d := A
 refine cT <| Zt <| jD rfl df d rfl ⟨hB, ?_⟩
 rfl
theorem z6 (x y : Nat) (w : World) (hx : x < 18446744073709551616) (hy : y < 18446744073709551616) :
    Fn Tryz.prog 57 #[.int .u64 (x : Int), .int .u64 (y : Int)] w fun v w' => v = .int .u64 ((x &&& y : Nat) : Int) := by
 refine dq (n := 8) Tryz.func57 rfl rfl (Nat.le_of_ble_eq_true rfl) ?_
 have hB : Below w.heap.size w w := Below.refl _ _
 refine Zr <| Zw (.int .u64 0) rfl <| cT <| Zr <| Zi rfl <| Zi rfl <| Zv (nE (n := _) rfl rfl rfl (by first | assumption | (simp only [d5]; omega) | (simp only [d5]; decide)) (by first | assumption | (simp only [d5]; omega) | (simp only [d5]; decide))) <| Zi rfl <| cT <| Zt <| dE (v := .int .u64 _) rfl ⟨hB, ?_⟩
 rfl
theorem qs (s t : Nat) (w : World) :
    Fn Tryz.prog 34 #[eP s, eP t] w fun v w' => v = eP (s &&& t) := by
 refine dq (n := 8) Tryz.func34 rfl rfl (Nat.le_of_ble_eq_true rfl) ?_
 have hB : Below w.heap.size w w := Below.refl _ _
 refine Zr <| Zy (dU (c := #[_, _, _, _]) rfl rfl fun B W3 k o a => ?_)
 have C := ZO k hB
 clear k
 replace hB := Ze hB o
 refine Zy (dU (c := #[_, _, _, _]) rfl rfl fun D W6 g l b => ?_)
 have E := ZO g hB
 have F := Zn g a.lt
 clear g
 replace hB := Ze hB l
 replace a := l.at a
 refine Zy (dt eM rfl fun p W9 e h d => ?_)
 have q := ZO e hB
 have u := Zn e a.lt
 have z := Zn e b.lt
 clear e
 replace hB := Ze hB h
 replace a := h.at a
 replace b := h.at b
 replace d : At W9 p #[wv 0 0, wv 0 1, wv 0 2, wv 0 3] 49 := d
 refine cT <| Zr <| Zv (db rfl df rfl a) <| Zv (db rfl df rfl b) <| ZC (vs := [.agg #[_, _, _, _], .agg #[_, _, _, _], .func (.func 57) #[] #[]]) CO (rp s t 57 (fun x y => x &&& y) _ MV (fun x y w hx hy => z6 x y w hx hy)) rfl fun G H f m => ?_
 replace hB := Ze hB f
 replace a := f.at a
 replace b := f.at b
 replace d := f.at d
 rw [uS (r := s &&& t) (fun j => Og s t j)] at m
 obtain rfl := m
 refine Zy (dg rfl rfl df rfl d rfl rfl fun I i A => ?_)
 replace hB := Zg hB i q
 replace a := At.grownNe a u i
 replace b := At.grownNe b z i
 replace d := A
 refine cT <| Zt <| jD rfl df d rfl ⟨hB, ?_⟩
 rfl
theorem y4 (x y : Nat) (w : World) (hx : x < 18446744073709551616) (hy : y < 18446744073709551616) :
    Fn Tryz.prog 98 #[.int .u64 (x : Int), .int .u64 (y : Int)] w fun v w' => v = .int .u64 ((andNot x y : Nat) : Int) := by
 refine dq (n := 8) Tryz.func98 rfl rfl (Nat.le_of_ble_eq_true rfl) ?_
 have hB : Below w.heap.size w w := Below.refl _ _
 refine Zr <| Zw (.int .u64 0) rfl <| cT <| Zr <| Zi rfl <| Zi rfl <| Zv (pB (n := _) rfl rfl rfl (by first | assumption | (simp only [d5]; omega) | (simp only [d5]; decide)) (by first | assumption | (simp only [d5]; omega) | (simp only [d5]; decide))) <| Zi rfl <| cT <| Zt <| dE (v := .int .u64 _) rfl ⟨hB, ?_⟩
 rfl
theorem mB (s t : Nat) (w : World) :
    Fn Tryz.prog 64 #[eP s, eP t] w fun v w' => v = eP (andNot s t) := by
 refine dq (n := 8) Tryz.func64 rfl rfl (Nat.le_of_ble_eq_true rfl) ?_
 have hB : Below w.heap.size w w := Below.refl _ _
 refine Zr <| Zy (dU (c := #[_, _, _, _]) rfl rfl fun B W3 k o a => ?_)
 have C := ZO k hB
 clear k
 replace hB := Ze hB o
 refine Zy (dU (c := #[_, _, _, _]) rfl rfl fun D W6 g l b => ?_)
 have E := ZO g hB
 have F := Zn g a.lt
 clear g
 replace hB := Ze hB l
 replace a := l.at a
 refine Zy (dt eM rfl fun p W9 e h d => ?_)
 have q := ZO e hB
 have u := Zn e a.lt
 have z := Zn e b.lt
 clear e
 replace hB := Ze hB h
 replace a := h.at a
 replace b := h.at b
 replace d : At W9 p #[wv 0 0, wv 0 1, wv 0 2, wv 0 3] 49 := d
 refine cT <| Zr <| Zv (db rfl df rfl a) <| Zv (db rfl df rfl b) <| ZC (vs := [.agg #[_, _, _, _], .agg #[_, _, _, _], .func (.func 98) #[] #[]]) CO (rp s t 98 (fun x y => andNot x y) _ NQ (fun x y w hx hy => y4 x y w hx hy)) rfl fun G H f m => ?_
 replace hB := Ze hB f
 replace a := f.at a
 replace b := f.at b
 replace d := f.at d
 rw [uS (r := andNot s t) (fun j => Fx s t j)] at m
 obtain rfl := m
 refine Zy (dg rfl rfl df rfl d rfl rfl fun I i A => ?_)
 replace hB := Zg hB i q
 replace a := At.grownNe a u i
 replace b := At.grownNe b z i
 replace d := A
 refine cT <| Zt <| jD rfl df d rfl ⟨hB, ?_⟩
 rfl
theorem ij (s t : Nat) (w : World) :
    Fn Tryz.prog 41 #[eP s, eP t] w fun v w' => v = .bool (ep s t) := by
 refine dq (n := 10) Tryz.func41 rfl rfl (Nat.le_of_ble_eq_true rfl) ?_
 have hB : Below w.heap.size w w := Below.refl _ _
 refine Zr <| Zy (dU (c := #[_, _, _, _]) rfl rfl fun j W3 f h a => ?_)
 have k := ZO f hB
 clear f
 replace hB := Ze hB h
 refine Zy (dU (c := #[_, _, _, _]) rfl rfl fun l W6 b g d => ?_)
 have m := ZO b hB
 have o := Zn b a.lt
 clear b
 replace hB := Ze hB g
 replace a := g.at a
 refine Zw (.bool false) rfl <| cT <| Zr <| Zv (db rfl df rfl a) <| Zv (db rfl df rfl d) <| ZC (vs := [.agg #[_, _, _, _], .agg #[_, _, _, _]]) wg (mB _ _ _) rfl fun p q e i => ?_
 replace hB := Ze hB e
 replace a := e.at a
 replace d := e.at d
 obtain rfl := i
 refine Zv (v := eP 0) (gD ) <| Zv (rD rfl rfl) <| Zb rfl <| cT <| Zt <| dE (v := .bool _) rfl ⟨hB, ?_⟩
 simp [ep, KZ]
theorem nR (n : Int) (w : World) :
    Fn Tryz.prog 33 #[.int .i64 n] w fun v w' => v = if 0 ≤ n ∧ n ≤ 8 then .tuple #[eP (fj n.toNat), .int .i64 0] else .tuple #[eP 0, .int .i64 1] := by
 refine dq (n := 23) Tryz.func33 rfl rfl (Nat.le_of_ble_eq_true rfl) ?_
 have hB : Below w.heap.size w w := Below.refl _ _
 refine Zr <| Zy (dt eM rfl fun g W3 h q a => ?_)
 have d := ZO h hB
 clear h
 replace hB := Ze hB q
 replace a : At W3 g #[wv 0 0, wv 0 1, wv 0 2, wv 0 3] 49 := a
 refine Zw (.int .i64 0) rfl <| cT <| cY fun K6 r => Zr <| Zi rfl <| Zv (dL rfl rfl) <| ZX rfl (fun s => ?_) fun s => ?_
 refine Zs <| Zs <| Zw (.bool true) rfl <| cT <| dz rfl <| Zr <| Zv (v := eP 0) (gD ) <| Zy (dg rfl rfl df rfl a rfl rfl fun J t u => ?_)
 replace hB := Zg hB t d
 replace a := u
 refine Zw (.int .i64 1) rfl <| cT <| Zt <| fw rfl df a rfl (v1 := .int .i64 1) rfl ⟨hB, ?_⟩
 rw [if_neg (by omega)]
 refine Zi rfl <| Zv (iQ rfl rfl) <| Zb rfl <| cT <| ZQ rfl (fun x => ?_) fun x => ?_
 refine Zr <| Zv (v := eP 0) (gD ) <| Zy (dg rfl rfl df rfl a rfl rfl fun K y z => ?_)
 replace hB := Zg hB y d
 replace a := z
 refine Zw (.int .i64 1) rfl <| cT <| Zt <| fw rfl df a rfl (v1 := .int .i64 1) rfl ⟨hB, ?_⟩
 rw [if_neg (by omega)]
 refine c9 <| r _ _ ?_
 have hn : 0 ≤ n ∧ n ≤ 8 := by omega
 refine Zr <| Zy (dt eM rfl fun i A e j b => ?_)
 have B := ZO e hB
 have l := Zn e a.lt
 clear e
 replace hB := Ze hB j
 replace a := j.at a
 replace b : At A i #[wv 0 0, wv 0 1, wv 0 2, wv 0 3] 49 := b
 refine cT <| cY fun L C => ?_
 have hp := fh hn.2
 refine Zr <| Zi rfl <| Zv (jB (m := 1) rfl rfl Om (by simp only [IntKind.bits]; omega) (by exact rO _ _ (by simp only [lN]; omega))) <| Zw (.int .i64 0) rfl <| cT <| c7 ?_
 refine dw (σ := (Nat)) [5, 15, 16, 17, 18, 19, 20, 21] (fun k => [(15, .int .i64 (k : Int))]) (fun k W => (Below w.heap.size w W) ∧ (At W g _ 49) ∧ (At W i #[wv (pQ k) 0, wv (pQ k) 1, wv (pQ k) 2, wv (pQ k) 3] 49) ∧ (k ≤ 2 ^ n.toNat) ∧ (True)) (fun k => 2 ^ n.toNat - k) (0) ⟨rfl, trivial⟩ ⟨hB, a, b, (Nat.zero_le _), trivial⟩ ?_
 clear hB a b
 rintro k M N ⟨hB, a, b, hk, _⟩ O D
 refine Zr <| Zv (dL rfl rfl) <| cT <| cY fun P E => ZQ rfl (fun c => ?_) fun c => ?_
 refine c9 <| E _ _ <| cY fun Q F => c7 <| Zr <| Zi rfl <| Zi rfl <| cT <| cZ <| Zv (db rfl df rfl b) <| Zi rfl <| ZC (vs := [.agg #[_, _, _, _], .int .i64 _]) vq (mr _ _ _) rfl fun R S f G => ?_
 replace hB := Ze hB f
 replace a := f.at a
 replace b := f.at b
 obtain rfl := G
 rw [yq (by simp only [Nat.one_mul] at c; omega)]
 refine Zy (dg rfl rfl df rfl b rfl rfl fun T o H => ?_)
 replace hB := Zg hB o B
 replace a := At.grownNe a l o
 replace b := H
 refine cT <| F _ _ <| cZ <| Zv (dp rfl rfl Om Om) <| Zi rfl <| cT ?_
 exact D _ _ (k + 1) Za ⟨rfl, trivial⟩ ⟨hB, a, b, (by simp only [Nat.one_mul] at c; omega), trivial⟩ (by simp only [Nat.one_mul] at c; omega)
 refine dr <| C _ _ <| Zr <| Zv (db rfl df rfl b) <| Zy (dg rfl rfl df rfl a rfl rfl fun U p I => ?_)
 replace hB := Zg hB p d
 replace b := At.grownNe b (Ne.symm l) p
 replace a := I
 refine Zw (.int .i64 0) rfl <| cT <| Zt <| fw rfl df a rfl (v1 := .int .i64 0) rfl ⟨hB, ?_⟩
 obtain rfl : k = 2 ^ n.toNat := by simp only [Nat.one_mul] at c; omega
 rw [if_pos hn]; rfl
theorem mh (s : Nat) (w : World) :
    Fn Tryz.prog 58 #[eP s] w fun v w' => dh d9 1 3 w' w.heap.size v (eg s) := by
 refine dq (n := 17) Tryz.func58 rfl rfl (Nat.le_of_ble_eq_true rfl) ?_
 have hB : Below w.heap.size w w := Below.refl _ _
 refine Zr <| Zy (dU (c := #[_, _, _, _]) rfl rfl fun q W3 i r a => ?_)
 have C := ZO i hB
 clear i
 replace hB := Ze hB r
 refine Zw (.slice none 0 0) rfl <| cT <| Zr <| Zw (.slice none 0 0) rfl <| cT <| cY fun K8 t => Zr <| Zw (.int .i64 0) rfl <| cT <| c7 ?_
 refine dw (σ := (Nat) × (Value)) [3, 4, 5, 6, 7, 8, 9, 10, 11, 12, 13, 14, 15] (fun (k, v0) => [(5, .int .i64 (k : Int)), (3, v0)]) (fun sg W => match sg with | (k, v0) => (Below w.heap.size w W) ∧ (At W q _ 49) ∧ (dh d9 1 3 W w.heap.size v0 (pl s k)) ∧ (k ≤ 256) ∧ (True)) (fun (k, v0) => 256 - k) ((0, .slice none 0 0)) ⟨rfl, rfl, trivial⟩ ⟨hB, a, dh.nil, Om, trivial⟩ ?_
 clear hB a
 rintro ⟨k, v0⟩ D E ⟨hB, a, ho, hk, _⟩ F j
 refine Zr <| Zv (dL rfl rfl) <| cT <| cY fun G y => ZQ rfl (fun z => ?_) fun z => ?_
 refine c9 <| y _ _ <| cY fun H l => c7 <| Zr <| Zi rfl <| Zi rfl <| cT <| Zr <| Zv (db rfl df rfl a) <| Zi rfl <| ZC (vs := [.agg #[_, _, _, _], .int .i64 _]) IW (xD _ _ _) rfl fun I J f A => ?_
 replace hB := Ze hB f
 replace a := f.at a
 replace ho := f.ow ho
 obtain rfl := A
 refine cT <| ZQ rfl (fun d => ?_) fun d => ?_
 refine cZ <| Zw v0 rfl <| Zi rfl <| Zy (fc (u := .int .i64 _) rfl du fv rfl Dd Dd fun m K g h B => ?_)
 have L := ZO g hB
 have M := dh.neB (b := m) ho (Nat.le_of_eq g.symm)
 clear g
 replace hB := Ze hB h
 replace a := h.at a
 replace ho := h.ow ho
 refine Zy (ez (v := v0) (v2 := .slice (some ⟨m, 0, none⟩) 1 1) rfl rfl du fv Dd ho (fG B rfl) rfl (by have := Below.size hB; omega) (by have := oz s k; omega) (by have := oz s k; omega) fun o N p e => ?_)
 replace e := dh.snoc (enc := d9) (x := _) rfl rfl rfl rfl e
 replace hB := ZG hB p ho
 replace a := At.grownOw a ho p Dd
 clear ho
 refine Zw o rfl <| cT <| l _ _ <| cZ <| Zv (dp rfl rfl Om Om) <| Zi rfl <| cT ?_
 rw [vD (by omega)] at d
 exact j _ _ ((k + 1, o)) Za ⟨rfl, rfl, trivial⟩ ⟨hB, a, (by first | (rw [iD, if_pos d]; exact e) | (rw [iD, if_neg (by rw [d]; decide)]; exact e)), Om, trivial⟩ (by show 256 - (k + 1) < 256 - k; omega)
 refine c9 <| l _ _ <| cZ <| Zv (dp rfl rfl Om Om) <| Zi rfl <| cT ?_
 rw [vD (by omega)] at d
 exact j _ _ ((k + 1, v0)) Za ⟨rfl, rfl, trivial⟩ ⟨hB, a, (by first | (rw [iD, if_pos d]; exact ho) | (rw [iD, if_neg (by rw [d]; decide)]; exact ho)), Om, trivial⟩ (by show 256 - (k + 1) < 256 - k; omega)
 refine dr <| t _ _ <| Zr <| Zw v0 rfl <| Zw v0 rfl <| cT <| Zt <| dE (v := v0) rfl ⟨hB, ?_⟩
 obtain rfl : k = 256 := by omega
 exact ho
theorem uX (s : Nat) (i : Int) (one : Bool) (w : World) :
    Fn Tryz.prog 117 #[eP s, .int .i64 i, .bool one] w fun v w' => v = eP (if 0 ≤ i ∧ i < 8 then oV s i.toNat one else 0) := by
 refine dq (n := 36) Tryz.func117 rfl rfl (Nat.le_of_ble_eq_true rfl) ?_
 have hB : Below w.heap.size w w := Below.refl _ _
 refine Zr <| Zy (dU (c := #[_, _, _, _]) rfl rfl fun H W3 B I d => ?_)
 have aa := ZO B hB
 clear B
 replace hB := Ze hB I
 refine Zy (dt eM rfl fun C W6 r D a => ?_)
 have t := ZO r hB
 have u := Zn r d.lt
 clear r
 replace hB := Ze hB D
 replace d := D.at d
 replace a : At W6 C #[wv 0 0, wv 0 1, wv 0 2, wv 0 3] 49 := a
 refine cT <| Zr <| Zy (dt eM rfl fun E J j x b => ?_)
 have K := ZO j hB
 have L := Zn j d.lt
 have l := Zn j a.lt
 clear j
 replace hB := Ze hB x
 replace d := x.at d
 replace a := x.at a
 replace b : At J E #[wv 0 0, wv 0 1, wv 0 2, wv 0 3] 49 := b
 refine cT <| cY fun ab M => Zr <| Zi rfl <| Zv (dL rfl rfl) <| ZX rfl (fun N => ?_) fun N => ?_
 refine Zs <| Zs <| Zw (.bool true) rfl <| cT <| dz rfl <| Zr <| Zv (db rfl df rfl b) <| Zy (dg rfl rfl df rfl a rfl rfl fun ac y O => ?_)
 replace hB := Zg hB y t
 replace d := At.grownNe d u y
 replace b := At.grownNe b (Ne.symm l) y
 replace a := O
 refine cT <| Zt <| jD rfl df a rfl ⟨hB, ?_⟩
 rw [if_neg (by omega)]
 refine Zi rfl <| Zv (nJ rfl rfl) <| Zb rfl <| cT <| ZQ rfl (fun P => ?_) fun P => ?_
 refine Zr <| Zv (db rfl df rfl b) <| Zy (dg rfl rfl df rfl a rfl rfl fun ad z Q => ?_)
 replace hB := Zg hB z t
 replace d := At.grownNe d u z
 replace b := At.grownNe b (Ne.symm l) z
 replace a := Q
 refine cT <| Zt <| jD rfl df a rfl ⟨hB, ?_⟩
 rw [if_neg (by omega)]
 refine c9 <| M _ _ <| cY fun ae R => ?_
 have hi : 0 ≤ i ∧ i < 8 := by omega
 have hl := kT s
 refine Zr <| Zv (db rfl df rfl d) <| ZC (vs := [.agg #[_, _, _, _]]) vC (mh _ _) rfl fun A af m e => ?_
 have S := (Below.size hB)
 replace hB := Ze hB m
 replace d := m.at d
 replace a := m.at a
 replace b := m.at b
 replace e := dh.mono e S
 refine Zv (dA (v := A) rfl e.sl du) <| Zw (.int .i64 0) rfl <| cT <| c7 ?_
 refine dw (σ := (Nat)) [9, 20, 21, 22, 23, 24, 25, 26, 27, 28, 29, 30, 31, 32, 33, 34] (fun k => [(20, .int .i64 (k : Int))]) (fun k W => (Below w.heap.size w W) ∧ (At W H _ 49) ∧ (At W C _ 49) ∧ (dh d9 1 3 W w.heap.size A _) ∧ (At W E #[wv (nr (eg s) i.toNat one k) 0, wv (nr (eg s) i.toNat one k) 1, wv (nr (eg s) i.toNat one k) 2, wv (nr (eg s) i.toNat one k) 3] 49) ∧ (k ≤ (eg s).length) ∧ (True)) (fun k => (eg s).length - k) (0) ⟨rfl, trivial⟩ ⟨hB, d, a, e, b, (Nat.zero_le _), trivial⟩ ?_
 clear hB d a b e
 rintro k ag ah ⟨hB, d, a, e, b, hk, _⟩ ai F
 refine Zr <| Zv (dL rfl rfl) <| cT <| cY fun aj T => ZQ rfl (fun U => ?_) fun U => ?_
 refine c9 <| T _ _ <| cY fun ak G => c7 <| Zr <| Zv (dJ (v := A) rfl e.sl rfl du Om Om) <| Zv (dk (v := .int .i64 _) rfl dB (dM.cell e.sl eD 0 Om Om 0 rfl)) <| Zi rfl <| cT ?_
 obtain ⟨p, al, ao, g⟩ := kO (s := s) (i := k) (by omega)
 have V : (eg s).getD (k : Int).toNat 0 = (p : Int) := g
 rw [V]
 refine Zr <| Zi rfl <| Zi rfl <| Zv (sL rfl rfl Om (by simp only [IntKind.bits]; omega)) <| Zv (nE (n := 1) rfl rfl rfl (by exact Nat.lt_of_le_of_lt (Nat.div_le_self _ _) (by simp only [d5]; omega)) (by first | assumption | (simp only [d5]; omega) | (simp only [d5]; decide))) <| Zv (eB rfl rfl) <| Zb rfl <| Zv (OL rfl rfl Tryz.underlying4) <| cT <| ZQ rfl (fun f => ?_) fun f => ?_
 refine cZ <| Zv (db rfl df rfl b) <| Zi rfl <| ZC (vs := [.agg #[_, _, _, _], .int .i64 _]) vq (mr _ _ _) rfl fun ap aq h X => ?_
 replace hB := Ze hB h
 replace d := h.at d
 replace a := h.at a
 replace e := h.ow e
 replace b := h.at b
 obtain rfl := X
 refine Zy (dg rfl rfl df rfl b rfl rfl fun ar o Y => ?_)
 replace hB := Zg hB o K
 replace d := At.grownNe d L o
 replace a := At.grownNe a l o
 replace e := dh.grownAt e b o Dd
 replace b := Y
 refine cT <| G _ _ <| cZ <| Zv (dp rfl rfl Om Om) <| Zi rfl <| cT ?_
 rw [uF, vJ] at f
 exact F _ _ (k + 1) Za ⟨rfl, trivial⟩ ⟨hB, d, a, e, (by first | (rw [m7 Om, g, Int.toNat_natCast, if_pos (by simpa using f)]; exact b) | (rw [m7 Om, g, Int.toNat_natCast, if_neg (by simpa using f)]; exact b)), Om, trivial⟩ Zo
 refine c9 <| G _ _ <| cZ <| Zv (dp rfl rfl Om Om) <| Zi rfl <| cT ?_
 rw [uF, vJ] at f
 exact F _ _ (k + 1) Za ⟨rfl, trivial⟩ ⟨hB, d, a, e, (by first | (rw [m7 Om, g, Int.toNat_natCast, if_pos (by simpa using f)]; exact b) | (rw [m7 Om, g, Int.toNat_natCast, if_neg (by simpa using f)]; exact b)), Om, trivial⟩ Zo
 refine dr <| R _ _ <| Zr <| Zv (db rfl df rfl b) <| Zy (dg rfl rfl df rfl a rfl rfl fun au q Z => ?_)
 replace hB := Zg hB q t
 replace d := At.grownNe d u q
 replace e := dh.grownAt e a q Dd
 replace b := At.grownNe b (Ne.symm l) q
 replace a := Z
 refine cT <| Zt <| jD rfl df a rfl ⟨hB, ?_⟩
 obtain rfl : k = (eg s).length := by omega
 rw [if_pos hi, Hj]
end
section
open Go Go.RowKit
theorem Ol25_0 {p : Prop} (h : p := by first | omega | (simp only [cV, cW, cX, da]; omega)) : p := h
theorem Dk : dC Tryz.prog 50 = true := by kernel_rfl
theorem kE : fO Tryz.prog 54 = some (4, 1, 1) := by kernel_rfl
theorem G7 : (eL Tryz.prog 4).map (fun z => z.cells.size) = some 1 := by kernel_rfl
theorem qb : fp Tryz.prog 4 = true := by kernel_rfl
theorem oN : eL Tryz.prog 4 = some (.bool false) := by kernel_rfl
theorem vX : dC Tryz.prog 27 = true := by kernel_rfl
theorem eQ : fx Tryz.prog 40 0 = some 0 := by kernel_rfl
theorem ef : fp Tryz.prog 5 = true := by kernel_rfl
theorem gr : fx Tryz.prog 40 1 = some 1 := by kernel_rfl
theorem i4 : eL Tryz.prog 40 = some (.agg #[.int .u8 0, .int .u8 0]) := by kernel_rfl
theorem dN : kY Tryz.prog 40 = some 2 := by kernel_rfl
theorem Ir : dC Tryz.prog 91 = true := by kernel_rfl
theorem MY : dC Tryz.prog 92 = true := by kernel_rfl
theorem EX {f : Nat → Value} {w : World} {d : Option Nat} {ty t2 : TypeId} {ps : String} {af : Array Edge} {g : Option (Nat × Bool)} {x y : Operand} {a0 a1 b0 b1 : Int} (hx : dO f x = .agg #[.int .u8 a0, .int .u8 a1]) (hy : dO f y = .agg #[.int .u8 b0, .int .u8 b1]) :
    (execOp (dO f) ⟨d, .binOp .eql 40 x y t2, ty, ps, af, g⟩).run Tryz.prog w = .ok (.value (.bool (decide ((a0 = b0 ∧ a1 = b1))))) w := by
  have hg : Tryz.prog.eqGuardType Tryz.prog.depth 40 = false := by kernel_rfl
  have hp40 : Tryz.prog.stoodInHeld 40 = false := by kernel_rfl
  have hu40 : Tryz.prog.underlying 40 = some (.struct (Tryz.prog.fieldsOf 40)) := by kernel_rfl
  simp only [execOp, hx, hy, Sem.run_bind, run_eqGuard_agg _ _ _ _ _ _ _ hg, Result.andThen_ok, run_eql_struct, run_equalIn_agg _ 9999 40 _ _ hu40 hp40]
  simp only [Program.fieldsOf, Tryz.underlying40]
  simp [Op.eqFields, part, isAgg, run_equalIn_int _ 9998 5 _ _ _ _ Tryz.underlying5, run_underlying Tryz.underlying5]
  by_cases q0 : a0 = b0 <;> by_cases q1 : a1 = b1 <;> simp [q0, q1]
theorem Im : dC Tryz.prog 54 = true := by kernel_rfl
theorem HF : dC Tryz.prog 25 = true := by kernel_rfl
theorem N4 : dC Tryz.prog 53 = true := by kernel_rfl
theorem HG : dC Tryz.prog 24 = true := by kernel_rfl
theorem iH (n : Nat) (w : World) (hn : n ≤ 63) :
    Fn Tryz.prog 50 #[.int .i64 (n : Int)] w fun v w' => v = .int .u64 ((2 ^ n : Nat) : Int) := by
 refine dq (n := 13) Tryz.func50 rfl rfl (Nat.le_of_ble_eq_true rfl) ?_
 have hB : Below w.heap.size w w := Below.refl _ _
 refine Zr <| Zw (.int .u64 0) rfl <| cT <| Zr <| Zw (.int .u64 1) rfl <| cT <| cY fun K5 a => Zr <| Zw (.int .i64 0) rfl <| cT <| c7 ?_
 refine dw (σ := (Nat)) [3, 4, 5, 6, 7, 8, 9, 10, 11] (fun k => [(4, .int .i64 (k : Int)), (3, .int .u64 ((2 ^ k : Nat) : Int))]) (fun k W => (Below w.heap.size w W) ∧ (k ≤ n) ∧ (True)) (fun k => n - k) (0) ⟨rfl, rfl, trivial⟩ ⟨hB, Om, trivial⟩ ?_
 clear hB
 rintro k f W9 ⟨hB, hk, _⟩ g b
 refine cY fun h c => Zr <| Zi rfl <| Zi rfl <| Zv (dL rfl rfl) <| cT <| ZQ rfl (fun d => ?_) fun d => ?_
 refine c9 <| c _ _ <| cY fun i e => c7 <| cZ <| Zi rfl <| Zv (Jc rfl (n := 2) rfl rfl (by exact PS Om)) <| Zi rfl <| cT <| e _ _ <| cZ <| Zi rfl <| Zv (dp rfl rfl Om Om) <| Zi rfl ?_
 refine cT ?_
 exact b _ _ (k + 1) Za ⟨rfl, rfl, trivial⟩ ⟨hB, Om, trivial⟩ Zo
 refine dr <| a _ _ <| Zr <| Zi rfl <| Zi rfl <| cT <| Zt <| dE (v := .int .u64 _) rfl ⟨hB, ?_⟩
 obtain rfl : k = n := by omega
 rfl
theorem lf (p i : Nat) (w : World) (hp : p < 9223372036854775808) (hi : i < 8) :
    Fn Tryz.prog 54 #[.int .i64 (p : Int), .int .i64 (i : Int)] w fun v w' => v = .int .i64 ((p / 2 ^ i % 2 : Nat) : Int) := by
 refine dq (n := 11) Tryz.func54 rfl rfl (Nat.le_of_ble_eq_true rfl) ?_
 have hB : Below w.heap.size w w := Below.refl _ _
 have h7 := zE hi
 have h0 := Nat.two_pow_pos i
 refine Zr <| Zw (.int .i64 0) rfl <| cT <| Zr <| Zi rfl <| Zi rfl <| ZC Dk (iH _ _ (by first | assumption | omega)) rfl fun c W5 a b => ?_
 replace hB := Ze hB a
 obtain rfl := b
 refine Zv (jt rfl Tryz.underlying47 Tryz.underlying3 (by simp only [d5]; omega)) <| Zv (ro (n := (2 ^ i)) rfl rfl rfl Om (by simp only [d5]; omega)) <| Zv (vl (n := 2) rfl rfl rfl Om) <| Zi rfl <| cT <| Zt <| dE (v := .int .i64 _) rfl ⟨hB, ?_⟩
 rfl
theorem gg (s : Nat) (w : World) :
    Fn Tryz.prog 27 #[eP s] w fun v w' => dh rV 1 4 w' w.heap.size v (pr s) := by
 refine dq (n := 27) Tryz.func27 rfl rfl (Nat.le_of_ble_eq_true rfl) ?_
 have hB : Below w.heap.size w w := Below.refl _ _
 refine Zr <| Zy (dU (c := #[_, _, _, _]) rfl rfl fun j W3 l q a => ?_)
 have G := ZO l hB
 clear l
 replace hB := Ze hB q
 refine Zw (.slice none 0 0) rfl <| cT <| Zr <| Zw (.slice none 0 0) rfl <| cT <| cY fun K8 r => Zr <| Zw (.int .i64 0) rfl <| cT <| c7 ?_
 refine dw (σ := (Nat) × (Value)) [3, 4, 5, 6, 7, 8, 9, 10, 11, 12, 13, 14, 15, 16, 17, 18, 19, 20, 21, 22, 23, 24, 25] (fun (i, v0) => [(4, .int .i64 (i : Int)), (3, v0)]) (fun sg W => match sg with | (i, v0) => (Below w.heap.size w W) ∧ (At W j _ 49) ∧ (dh rV 1 4 W w.heap.size v0 (lY s (64 * i))) ∧ (i ≤ 4) ∧ (True)) (fun (i, v0) => 4 - i) ((0, .slice none 0 0)) ⟨rfl, rfl, trivial⟩ ⟨hB, a, dh.nil, Om, trivial⟩ ?_
 clear hB a
 rintro ⟨i, v0⟩ H I ⟨hB, a, ho, hi, _⟩ J t
 refine cY fun K y => Zr <| Zi rfl <| Zv (dL rfl rfl) <| cT <| ZQ rfl (fun z => ?_) fun z => ?_
 refine c9 <| y _ _ <| cY fun L A => c7 <| Zr <| Zi rfl <| Zv (e7 rfl rfl l4 Om Om) <| Zv (dk (v := wv s i) rfl l6 (At.cell a (nU s i Om))) <| Zi rfl <| cT <| Zr <| Zw (.int .i64 0) rfl <| cT <| c7 ?_
 refine dw (σ := (Nat) × (Value)) [3, 5, 6, 14, 15, 16, 17, 18, 19, 20, 21, 22, 23, 24, 25] (fun (k, v1) => [(6, .int .i64 (k : Int)), (5, .int .u64 ((wd s i / 2 ^ k : Nat) : Int)), (3, v1)]) (fun sg W => match sg with | (k, v1) => (Below w.heap.size w W) ∧ (At W j _ 49) ∧ (dh rV 1 4 W w.heap.size v1 (lY s (64 * i + k))) ∧ (k ≤ 64) ∧ (True)) (fun (k, v1) => 64 - k) ((0, v0)) ⟨rfl, congrArg (fun x : Nat => Value.int .u64 (x : Int)) (Nat.div_one _).symm, rfl, trivial⟩ ⟨hB, a, ho, Om, trivial⟩ ?_
 clear hB a ho
 rintro ⟨k, v1⟩ M N ⟨hB, a, d, hk, _⟩ O B
 refine cY fun P C => Zr <| Zi rfl <| Zv (dL rfl rfl) <| cT <| ZQ rfl (fun D => ?_) fun D => ?_
 refine c9 <| C _ _ <| cY fun Q E => c7 <| Zr <| Zw v1 rfl <| Zi rfl <| Zv (vl (n := 2) rfl rfl rfl Om) <| Zv (eB rfl rfl) <| Zy (fc (u := .bool _) rfl kE G7 rfl Dd Dd fun m R f g F => ?_)
 have S := ZO f hB
 have T := dh.neB (b := m) d (Nat.le_of_eq f.symm)
 clear f
 replace hB := Ze hB g
 replace a := g.at a
 replace d := g.ow d
 refine Zy (ez (v := v1) (v2 := .slice (some ⟨m, 0, none⟩) 1 1) rfl rfl kE G7 Dd d (fG F rfl) rfl (by have := Below.size hB; omega) (by simp only [cV]; omega) (by simp only [cV]; omega) fun o U p h => ?_)
 replace h := dh.snoc (enc := rV) (x := _) rfl rfl rfl rfl h
 replace hB := ZG hB p d
 replace a := At.grownOw a d p Dd
 clear d
 refine Zw o rfl <| cT <| cZ <| Zi rfl <| Zv (ro (n := 2) rfl rfl rfl Om (by exact Nat.lt_of_le_of_lt (Nat.div_le_self _ _) (C3 s i))) <| Zi rfl <| cT <| E _ _ <| cZ <| Zi rfl <| Zv (dp rfl rfl Om Om) <| Zi rfl <| cT ?_
 exact B _ _ ((k + 1, o)) Za ⟨rfl, congrArg (fun x : Nat => Value.int .u64 (x : Int)) (rY (wd s i) k), rfl, trivial⟩ ⟨hB, a, (by rw [← Nat.add_assoc, zb, ← Ff Om]; exact h), Om, trivial⟩ (by show 64 - (k + 1) < 64 - k; omega)
 refine dr <| A _ _ <| cZ <| Zi rfl <| Zv (dp rfl rfl Om Om) <| Zi rfl <| cT ?_
 exact t _ _ ((i + 1, v1)) Za ⟨rfl, rfl, trivial⟩ ⟨hB, a, (by have e : 64 * i + k = 64 * (i + 1) := Om; rw [← e]; exact d), Om, trivial⟩ (by show 4 - (i + 1) < 4 - i; omega)
 refine dr <| r _ _ <| Zr <| Zw v0 rfl <| Zw v0 rfl <| cT <| Zt <| dE (v := v0) rfl ⟨hB, ?_⟩
 obtain rfl : i = 4 := by omega
 exact ho
theorem lg (x : Value) (l : List Bool) (w : World) (hl : dM rV 1 w x l) (hn : l.length = 256) :
    Fn Tryz.prog 24 #[x] w fun v w' => v = eP (HV l) := by
 refine dq (n := 30) Tryz.func24 rfl rfl (Nat.le_of_ble_eq_true rfl) ?_
 have hB : Below w.heap.size w w := Below.refl _ _
 refine Zr <| Zy (dt eM rfl fun f W3 m u b => ?_)
 have y := ZO m hB
 clear m
 replace hB := Ze hB u
 replace b : At W3 f #[wv 0 0, wv 0 1, wv 0 2, wv 0 3] 49 := b
 refine cT <| Zr <| Zy (dt eM rfl fun g W8 h o a => ?_)
 have z := ZO h hB
 have p := Zn h b.lt
 clear h
 replace hB := Ze hB o
 replace b := o.at b
 replace a : At W8 g #[wv 0 0, wv 0 1, wv 0 2, wv 0 3] 49 := a
 refine cT <| cY fun L A => Zr <| Zw (.int .i64 0) rfl <| cT <| c7 ?_
 refine dw (σ := (Nat)) [4, 5, 6, 7, 8, 9, 10, 11, 12, 13, 14, 15, 16, 17, 18, 19, 20, 21, 22, 23, 24, 25, 26, 27, 28] (fun i => [(4, .int .i64 (i : Int))]) (fun i W => (Below w.heap.size w W) ∧ (At W f _ 49) ∧ (At W g #[wv (gt l (64 * i)) 0, wv (gt l (64 * i)) 1, wv (gt l (64 * i)) 2, wv (gt l (64 * i)) 3] 49) ∧ (i ≤ 4) ∧ (True)) (fun i => 4 - i) (0) ⟨rfl, trivial⟩ ⟨hB, b, a, Om, trivial⟩ ?_
 clear hB b a
 rintro i M N ⟨hB, b, a, hi, _⟩ O B
 refine cY fun P C => Zr <| Zi rfl <| Zv (dL rfl rfl) <| cT <| ZQ rfl (fun D => ?_) fun D => ?_
 refine c9 <| C _ _ <| cY fun Q E => c7 <| Zr <| Zw (.int .i64 0) rfl <| cT <| c7 ?_
 refine dw (σ := (Nat)) [5, 10, 11, 12, 13, 14, 15, 16, 17, 18, 19, 20, 21, 22, 23, 24, 25, 26, 27, 28] (fun k => [(5, .int .i64 (k : Int))]) (fun k W => (Below w.heap.size w W) ∧ (At W f _ 49) ∧ (At W g #[wv (gt l (64 * i + k)) 0, wv (gt l (64 * i + k)) 1, wv (gt l (64 * i + k)) 2, wv (gt l (64 * i + k)) 3] 49) ∧ (k ≤ 64) ∧ (True)) (fun k => 64 - k) (0) ⟨rfl, trivial⟩ ⟨hB, b, a, Om, trivial⟩ ?_
 clear hB b a
 rintro k R S ⟨hB, b, a, hk, _⟩ T q
 refine cY fun U F => Zr <| Zi rfl <| Zv (dL rfl rfl) <| cT <| ZQ rfl (fun G => ?_) fun G => ?_
 refine c9 <| F _ _ <| cY fun V r => c7 <| Zr <| Zw x rfl <| Zi rfl <| Zv (I9 rfl rfl Om Om) <| Zi rfl <| Zv (dp rfl rfl Om Om) <| Zv (dJ (v := x) rfl (Below.slT hB hl) rfl kE Om Ol25_0) <| Zv (dk (v := .bool _) rfl qb (dM.cell (Below.slT hB hl) kD false Om Ol25_0 0 rfl)) <| cT <| ZQ rfl (fun c => ?_) fun c => ?_
 replace c : l.getD (64 * i + k) false = true := by rw [← c]; congr 1
 refine gx eo im (fun H j => ?_)
 replace hB := Ze hB j
 replace b := j.at b
 replace a := j.at a
 have hS := eo.refl H
 refine Ti 0 rfl rfl hS <| Ti 1 rfl rfl hS <| Tk 2 rfl (fun _ _ => e7 rfl rfl l4 Om Om) hS <| Tk 3 rfl (fun _ hq => dk (v := wv _ i) rfl l6 (At.cell (hq.at a) (nU _ i Om))) hS <| Ti 4 rfl rfl hS <| To 5 rfl (TC Dk (iH k _ Om) rfl fun X Y d I => ⟨.inl (hS.trans d), ?_⟩)
 replace hB := Ze hB d
 replace b := d.at b
 replace a := d.at a
 replace hS := hS.trans d
 obtain rfl := I
 refine Tk 6 rfl (fun _ _ => Cn rfl (n := _) rfl rfl (by exact zd l Om Om)) hS <| Tk 7 rfl (fun _ _ => e7 rfl rfl l4 Om Om) hS <| To 8 rfl (eC (v := .int .u64 _) rfl rfl l6 rfl a (by simp; omega) fun Z s J => ⟨.inr (by kernel_rfl), ?_⟩)
 replace hB := Zg hB s z
 replace b := At.grownNe b p s
 replace a := J
 rw [BW (by omega) (F7 l (by omega) (by omega) c)] at a
 refine Td <| r _ _ <| cZ <| Zi rfl <| Zv (dp rfl rfl Om Om) <| Zi rfl <| cT ?_
 exact q _ _ (k + 1) Za ⟨rfl, trivial⟩ ⟨hB, b, (by first | exact a | (rw [show 64 * i + (k + 1) = 64 * i + k + 1 from rfl, tH (by rw [← c]; congr 1)]; exact a)), Om, trivial⟩ Zo
 refine c9 <| r _ _ <| cZ <| Zi rfl <| Zv (dp rfl rfl Om Om) <| Zi rfl <| cT ?_
 exact q _ _ (k + 1) Za ⟨rfl, trivial⟩ ⟨hB, b, (by first | exact a | (rw [show 64 * i + (k + 1) = 64 * i + k + 1 from rfl, tH (by rw [← c]; congr 1)]; exact a)), Om, trivial⟩ Zo
 refine dr <| E _ _ <| cZ <| Zi rfl <| Zv (dp rfl rfl Om Om) <| Zi rfl <| cT ?_
 exact B _ _ (i + 1) Za ⟨rfl, trivial⟩ ⟨hB, b, (by have e : 64 * i + k = 64 * (i + 1) := Om; rw [← e]; exact a), Om, trivial⟩ Zo
 refine dr <| A _ _ <| Zr <| Zv (db rfl df rfl a) <| Zy (dg rfl rfl df rfl b rfl rfl fun aa t K => ?_)
 replace hB := Zg hB t y
 replace a := At.grownNe a (Ne.symm p) t
 replace b := K
 refine cT <| Zt <| jD rfl df b rfl ⟨hB, ?_⟩
 obtain rfl : i = 4 := by omega
 rfl
theorem lB (n : Int) (w : World) (h0 : 0 ≤ n) (h1 : n ≤ 8) :
    Fn Tryz.prog 25 #[.int .i64 n] w fun v w' => dh rV 1 4 w' w.heap.size v (lE (2 ^ n.toNat)) := by
 refine dq (n := 17) Tryz.func25 rfl rfl (Nat.le_of_ble_eq_true rfl) ?_
 have hB : Below w.heap.size w w := Below.refl _ _
 obtain ⟨n, rfl⟩ := Int.eq_ofNat_of_zero_le h0
 have hn : n ≤ 8 := by omega
 have h8 := QT hn
 refine Zr <| Zw (.slice none 0 0) rfl <| cT <| Zr <| Zy (NT (n := 256) (N := w.heap.size) rfl rfl kE oN Dd Dd (Below.size hB) fun b W5 f c => ?_)
 replace c := dh.made kD false rfl Dd c
 replace hB := Ze hB f
 rw [Bh] at c
 refine Zw b rfl <| cT <| cY fun K8 g => Zr <| Zw (.int .i64 0) rfl <| cT <| c7 ?_
 refine dw (σ := (Nat)) [4, 6, 7, 8, 9, 10, 11, 12, 13, 14, 15] (fun k => [(4, .int .i64 (k : Int))]) (fun k W => (Below w.heap.size w W) ∧ (dh rV 1 4 W w.heap.size b (lE k)) ∧ (k ≤ 2 ^ n) ∧ (True)) (fun k => 2 ^ n - k) (0) ⟨rfl, trivial⟩ ⟨hB, c, (Nat.zero_le _), trivial⟩ ?_
 clear hB c
 rintro k q r ⟨hB, ho, hk, _⟩ s h
 refine cY fun t i => Zr <| Zi rfl <| Zv (jt rfl Tryz.underlying3 Tryz.underlying47 (by simp only [d5]; omega)) <| Zi rfl <| ZC Dk (iH _ _ (by first | assumption | omega)) rfl fun x y d l => ?_
 replace hB := Ze hB d
 replace ho := d.ow ho
 obtain rfl := l
 refine Zv (dL rfl rfl) <| cT <| ZQ rfl (fun m => ?_) fun m => ?_
 refine c9 <| i _ _ <| cY fun z o => c7 <| cZ <| Zw b rfl <| Zi rfl <| Zv (dJ (v := b) rfl ho.sl rfl kE Om Ol25_0) <| Zy (GU (v := b) (u := .bool true) (a := true) (j := _) rfl rfl (.inl ⟨qb, rfl⟩) kD rfl rfl ho Om Ol25_0 fun A e p => ?_)
 replace hB := ZG hB e ho
 clear e ho
 replace ho := p
 rw [Cy] at ho
 refine cT <| o _ _ <| cZ <| Zi rfl <| Zv (dp rfl rfl Om Om) <| Zi rfl <| cT ?_
 exact h _ _ (k + 1) Za ⟨rfl, trivial⟩ ⟨hB, (by exact ho), Om, trivial⟩ Zo
 refine dr <| g _ _ <| Zr <| Zw b rfl <| Zw b rfl <| cT <| Zt <| dE (v := b) rfl ⟨hB, ?_⟩
 obtain rfl : k = 2 ^ n := by omega
 exact ho
theorem jZ (a b : Nat) (w : World) :
    Fn Tryz.prog 23 #[eP a, eP b] w fun v w' => v = .bool (ep a b) := by
 refine dq (n := 27) Tryz.func23 rfl rfl (Nat.le_of_ble_eq_true rfl) ?_
 have hB : Below w.heap.size w w := Below.refl _ _
 refine Zr <| Zy (dU (c := #[_, _, _, _]) rfl rfl fun z W3 t A d => ?_)
 have J := ZO t hB
 clear t
 replace hB := Ze hB A
 refine Zy (dU (c := #[_, _, _, _]) rfl rfl fun B W6 r u e => ?_)
 have K := ZO r hB
 have L := Zn r d.lt
 clear r
 replace hB := Ze hB u
 replace d := u.at d
 refine Zw (.bool false) rfl <| cT <| Zd eo fun C s => ?_
 replace hB := Ze hB s
 replace d := s.at d
 replace e := s.at e
 have hS := eo.refl C
 refine Tk 0 rfl (fun _ hq => db rfl df rfl (hq.at d)) hS <| Tk 2 rfl (fun _ hq => db rfl df rfl (hq.at e)) hS <| To 1 rfl (TC (vs := [.agg #[_, _, _, _]]) vX (gg _ _) rfl fun i M j f => ⟨.inl (hS.trans j), ?_⟩)
 have D := (Below.size hB)
 replace hB := Ze hB j
 replace d := j.at d
 replace e := j.at e
 replace hS := hS.trans j
 replace f := dh.mono f D
 refine To 3 rfl (TC (vs := [.agg #[_, _, _, _]]) vX (gg _ _) rfl fun l N h g => ⟨.inl (hS.trans h), ?_⟩)
 have E := dh.lt2 f
 have F := (Below.size hB)
 replace hB := Ze hB h
 replace d := h.at d
 replace e := h.at e
 replace f := h.ow f
 replace hS := hS.trans h
 have m := eO.new E g
 replace g := dh.mono g F
 refine Tw 4 i rfl rfl hS <| Tw 5 l rfl rfl hS <| Td <| cY fun O G => Zr <| Zw (.int .i64 0) rfl <| cT <| c7 ?_
 refine dw (σ := (Nat)) [4, 7, 12, 13, 14, 15, 16, 17, 18, 19, 20, 21, 22, 23, 24, 25, 26] (fun k => [(7, .int .i64 (k : Int))]) (fun k W => (Below w.heap.size w W) ∧ (At W z _ 49) ∧ (At W B _ 49) ∧ (dh rV 1 4 W w.heap.size i _) ∧ (eO i l) ∧ (dh rV 1 4 W w.heap.size l _) ∧ (k ≤ 256) ∧ (∀ p, p < k → a.testBit p = true → b.testBit p = true) ∧ (True)) (fun k => 256 - k) (0) ⟨rfl, trivial⟩ ⟨hB, d, e, f, m, g, Om, ff, trivial⟩ ?_
 clear hB d e f m g
 rintro k P Q ⟨hB, d, e, f, m, g, hk, hw, _⟩ R x
 refine cY fun S H => Zr <| Zi rfl <| Zv (dL rfl rfl) <| cT <| ZQ rfl (fun I => ?_) fun I => ?_
 refine c9 <| H _ _ <| cY fun T y => c7 <| Zr <| Zw i rfl <| Zi rfl <| Zv (dJ (v := i) rfl f.sl rfl kE Om Ol25_0) <| Zv (dk (v := .bool _) rfl qb (dM.cell f.sl kD false Om Ol25_0 0 rfl)) <| ZX rfl (fun o => ?_) fun o => ?_
 refine Zw l rfl <| Zi rfl <| Zv (dJ (v := l) rfl g.sl rfl kE Om Ol25_0) <| Zv (dk (v := .bool _) rfl qb (dM.cell g.sl kD false Om Ol25_0 0 rfl)) <| Zv (fy rfl) <| Zb rfl <| cT <| ZQ rfl (fun q => ?_) fun q => ?_
 refine Zr <| Zw (.bool false) rfl <| cT <| Zt <| dE (v := .bool false) rfl ⟨hB, ?_⟩
 exact congrArg Value.bool (yZ Om o q).symm
 refine c9 <| y _ _ <| cZ <| Zi rfl <| Zv (dp rfl rfl Om Om) <| Zi rfl <| cT ?_
 exact x _ _ (k + 1) Za ⟨rfl, trivial⟩ ⟨hB, d, e, f, m, g, Om, (ey hw (tB Om (by first | exact .inl o | exact .inr q))), trivial⟩ Zo
 refine Zs <| Zs <| Zs <| Zs <| Zs <| Zw (.bool false) rfl <| cT <| d4 rfl <| c9 <| y _ _ <| cZ <| Zi rfl <| Zv (dp rfl rfl Om Om) <| Zi rfl ?_
 refine cT ?_
 exact x _ _ (k + 1) Za ⟨rfl, trivial⟩ ⟨hB, d, e, f, m, g, Om, (ey hw (tB Om (by first | exact .inl o | exact .inr q))), trivial⟩ Zo
 refine dr <| G _ _ <| Zr <| Zw (.bool true) rfl <| cT <| Zt <| dE (v := .bool true) rfl ⟨hB, ?_⟩
 exact congrArg Value.bool (Aj Om hw).symm
theorem pa (s : Nat) (w : World) :
    Fn Tryz.prog 52 #[eP s] w fun v w' => dh d9 1 3 w' w.heap.size v (eg s) := by
 refine dq (n := 21) Tryz.func52 rfl rfl (Nat.le_of_ble_eq_true rfl) ?_
 have hB : Below w.heap.size w w := Below.refl _ _
 refine Zr <| Zy (dU (c := #[_, _, _, _]) rfl rfl fun t W3 l y d => ?_)
 have E := ZO l hB
 clear l
 replace hB := Ze hB y
 refine Zw (.slice none 0 0) rfl <| cT <| Zr <| Zv (db rfl df rfl d) <| ZC (vs := [.agg #[_, _, _, _]]) vX (gg _ _) rfl fun f W8 m a => ?_
 have z := (Below.size hB)
 replace hB := Ze hB m
 replace d := m.at d
 replace a := dh.mono a z
 refine Zw f rfl <| cT <| Zr <| Zw (.slice none 0 0) rfl <| cT <| cY fun F A => Zr <| Zw (.int .i64 0) rfl <| cT <| c7 ?_
 refine dw (σ := (Nat) × (Value)) [4, 5, 8, 9, 10, 11, 12, 13, 14, 15, 16, 17, 18, 19] (fun (k, v0) => [(5, .int .i64 (k : Int)), (4, v0)]) (fun sg W => match sg with | (k, v0) => (Below w.heap.size w W) ∧ (At W t _ 49) ∧ (dh rV 1 4 W w.heap.size f _) ∧ (dh d9 1 3 W w.heap.size v0 (pl s k)) ∧ (k ≤ 256) ∧ (True)) (fun (k, v0) => 256 - k) ((0, .slice none 0 0)) ⟨rfl, rfl, trivial⟩ ⟨hB, d, a, dh.nil, Om, trivial⟩ ?_
 clear hB d a
 rintro ⟨k, v0⟩ G H ⟨hB, d, a, ho, hk, _⟩ I o
 refine cY fun J B => Zr <| Zi rfl <| Zv (dL rfl rfl) <| cT <| ZQ rfl (fun C => ?_) fun C => ?_
 refine c9 <| B _ _ <| cY fun K p => c7 ?_
 have hll := oz s k
 refine Zr <| Zw f rfl <| Zi rfl <| Zv (dJ (v := f) rfl a.sl rfl kE Om Ol25_0) <| Zv (dk (v := .bool _) rfl qb (dM.cell a.sl kD false Om Ol25_0 0 rfl)) <| cT <| ZQ rfl (fun e => ?_) fun e => ?_
 refine cZ <| Zw v0 rfl <| Zi rfl <| Zy (fc (u := .int .i64 _) rfl du fv rfl Dd Dd fun q L i g D => ?_)
 have M := ZO i hB
 have N := dh.neB (b := q) ho (Nat.le_of_eq i.symm)
 clear i
 replace hB := Ze hB g
 replace d := g.at d
 replace a := g.ow a
 replace ho := g.ow ho
 refine Zy (ez (v := v0) (v2 := .slice (some ⟨q, 0, none⟩) 1 1) rfl rfl du fv Dd ho (fG D rfl) rfl (by have := Below.size hB; omega) (by first | omega | (simp; omega) | (simp only [cV, cW, cX, da]; omega)) (by first | omega | (simp; omega) | (simp only [cV, cW, cX, da]; omega)) fun r O j h => ?_)
 replace h := dh.snoc (enc := d9) (x := _) rfl rfl rfl rfl h
 replace hB := ZG hB j ho
 replace d := At.grownOw d ho j Dd
 replace a := dh.grownOw a ho j Dd
 clear ho
 refine Zw r rfl <| cT <| p _ _ <| cZ <| Zi rfl <| Zv (dp rfl rfl Om Om) <| Zi rfl <| cT ?_
 exact o _ _ ((k + 1, r)) Za ⟨rfl, rfl, trivial⟩ ⟨hB, d, a, (by first | (rw [iD, if_pos (by rw [← e]; exact (iE Om).symm)]; exact h) | (rw [iD, if_neg (by rw [← iE (show k < 256 by omega)]; exact Bool.eq_false_iff.1 e)]; exact h)), Om, trivial⟩ (by show 256 - (k + 1) < 256 - k; omega)
 refine c9 <| p _ _ <| cZ <| Zi rfl <| Zv (dp rfl rfl Om Om) <| Zi rfl <| cT ?_
 exact o _ _ ((k + 1, v0)) Za ⟨rfl, rfl, trivial⟩ ⟨hB, d, a, (by first | (rw [iD, if_pos (by rw [← e]; exact (iE Om).symm)]; exact ho) | (rw [iD, if_neg (by rw [← iE (show k < 256 by omega)]; exact Bool.eq_false_iff.1 e)]; exact ho)), Om, trivial⟩ (by show 256 - (k + 1) < 256 - k; omega)
 refine dr <| A _ _ <| Zr <| Zw v0 rfl <| Zw v0 rfl <| cT <| Zt <| dE (v := v0) rfl ⟨hB, ?_⟩
 obtain rfl : k = 256 := by omega
 exact ho
theorem jy (m u : Nat) (w : World) (hm : m < 256) (hv : u < 256) :
    Fn Tryz.prog 91 #[.agg #[.int .u8 (m : Int), .int .u8 (u : Int)]] w fun v w' => dh d9 1 3 w' w.heap.size v (lQ m u) := by
 refine dq (n := 32) Tryz.func91 rfl rfl (Nat.le_of_ble_eq_true rfl) ?_
 have hB : Below w.heap.size w w := Below.refl _ _
 refine Zr <| Zy (dU (c := #[_, _]) rfl rfl fun B W3 j C a => ?_)
 have K := ZO j hB
 clear j
 replace hB := Ze hB C
 refine Zw (.slice none 0 0) rfl <| cT <| Zr <| Zw (.slice none 0 0) rfl <| cT <| Zd eo fun D l => ?_
 replace hB := Ze hB l
 replace a := l.at a
 have hS := eo.refl D
 refine Tf 0 rfl rfl eQ hS <| Tk 1 rfl (fun _ hq => dk (v := .int .u8 _) rfl ef (At.cell (hq.at a) rfl)) hS <| Tf 2 rfl rfl gr hS <| Tk 3 rfl (fun _ hq => dk (v := .int .u8 _) rfl ef (At.cell (hq.at a) rfl)) hS <| Ti 4 rfl rfl hS <| Ti 5 rfl rfl hS <| Td <| cY fun L E => Zr <| Zw (.int .i64 0) rfl <| cT <| c7 ?_
 refine dw (σ := (Nat) × (Value)) [3, 4, 5, 6, 11, 12, 13, 14, 15, 16, 17, 18, 19, 20, 21, 22, 23, 24, 25, 26, 27, 28, 29, 30] (fun (k, v0) => [(6, .int .i64 (k : Int)), (4, .int .u8 ((m / 2 ^ k : Nat) : Int)), (5, .int .u8 ((u / 2 ^ k : Nat) : Int)), (3, v0)]) (fun sg W => match sg with | (k, v0) => (Below w.heap.size w W) ∧ (At W B _ 40) ∧ (dh d9 1 3 W w.heap.size v0 (pS m u k)) ∧ (k ≤ 8) ∧ (True)) (fun (k, v0) => 8 - k) ((0, .slice none 0 0)) ⟨rfl, congrArg (fun x : Nat => Value.int .u8 (x : Int)) (Nat.div_one _).symm, congrArg (fun x : Nat => Value.int .u8 (x : Int)) (Nat.div_one _).symm, rfl, trivial⟩ ⟨hB, a, dh.nil, Om, trivial⟩ ?_
 clear hB a
 rintro ⟨k, v0⟩ M N ⟨hB, a, ho, hk, _⟩ O o
 refine cY fun P F => Zr <| Zi rfl <| Zv (dL rfl rfl) <| cT <| ZQ rfl (fun G => ?_) fun G => ?_
 refine c9 <| F _ _ <| cY fun Q p => c7 <| cY fun R q => ?_
 have hmk : m / 2 ^ k < 256 := Nat.lt_of_le_of_lt (Nat.div_le_self _ _) hm
 have hvk : u / 2 ^ k < 256 := Nat.lt_of_le_of_lt (Nat.div_le_self _ _) hv
 refine Zr <| Zi rfl <| Zv (vl (n := 2) rfl rfl rfl Om) <| Zv (eB rfl rfl) <| cT <| ZQ rfl (fun H => ?_) fun H => ?_
 refine cZ <| Zw v0 rfl <| Zy (fc (u := .int .i64 2) rfl du fv rfl Dd Dd fun r S f g I => ?_)
 have T := ZO f hB
 have U := dh.neB (b := r) ho (Nat.le_of_eq f.symm)
 clear f
 replace hB := Ze hB g
 replace a := g.at a
 replace ho := g.ow ho
 refine Zy (ez (v := v0) (v2 := .slice (some ⟨r, 0, none⟩) 1 1) rfl rfl du fv Dd ho (fG I rfl) rfl (by have := Below.size hB; omega) (by simp only [cW]; omega) (by simp only [cW]; omega) fun s V t d => ?_)
 replace d := dh.snoc (enc := d9) (x := _) rfl rfl rfl rfl d
 replace hB := ZG hB t ho
 replace a := At.grownOw a ho t Dd
 clear ho
 refine Zw s rfl <| cT <| q _ _ <| Zr <| Zi rfl <| Zv (ro (n := 2) rfl rfl rfl Om (by first | assumption | (simp only [d5]; omega) | (simp only [d5]; decide))) <| Zi rfl <| cT <| cZ <| Zi rfl <| Zv (ro (n := 2) rfl rfl rfl Om (by first | assumption | (simp only [d5]; omega) | (simp only [d5]; decide))) <| Zi rfl <| cT <| p _ _ ?_
 refine cZ <| Zi rfl <| Zv (dp rfl rfl Om Om) <| Zi rfl <| cT ?_
 exact o _ _ ((k + 1, s)) Za ⟨rfl, congrArg (fun x : Nat => Value.int .u8 (x : Int)) (rY m k), congrArg (fun x : Nat => Value.int .u8 (x : Int)) (rY u k), rfl, trivial⟩ ⟨hB, a, (by first | (rw [nb, lit, if_pos Om]; exact d) | (rw [nb, lit, if_neg Om]; exact d)), Om, trivial⟩ (by show 8 - (k + 1) < 8 - k; omega)
 refine cZ <| Zw v0 rfl <| Zi rfl <| Zv (vl (n := 2) rfl rfl rfl Om) <| Zv (jt rfl Tryz.underlying5 Tryz.underlying3 (by simp only [d5]; omega)) <| Zy (fc (u := .int .i64 _) rfl du fv rfl Dd Dd fun y X h i J => ?_)
 have Y := ZO h hB
 have Z := dh.neB (b := y) ho (Nat.le_of_eq h.symm)
 clear h
 replace hB := Ze hB i
 replace a := i.at a
 replace ho := i.ow ho
 refine Zy (ez (v := v0) (v2 := .slice (some ⟨y, 0, none⟩) 1 1) rfl rfl du fv Dd ho (fG J rfl) rfl (by have := Below.size hB; omega) (by simp only [cW]; omega) (by simp only [cW]; omega) fun z aa A e => ?_)
 replace e := dh.snoc (enc := d9) (x := _) rfl rfl rfl rfl e
 replace hB := ZG hB A ho
 replace a := At.grownOw a ho A Dd
 clear ho
 refine Zw z rfl <| cT <| q _ _ <| Zr <| Zi rfl <| Zv (ro (n := 2) rfl rfl rfl Om (by first | assumption | (simp only [d5]; omega) | (simp only [d5]; decide))) <| Zi rfl <| cT <| cZ <| Zi rfl <| Zv (ro (n := 2) rfl rfl rfl Om (by first | assumption | (simp only [d5]; omega) | (simp only [d5]; decide))) <| Zi rfl <| cT <| p _ _ ?_
 refine cZ <| Zi rfl <| Zv (dp rfl rfl Om Om) <| Zi rfl <| cT ?_
 exact o _ _ ((k + 1, z)) Za ⟨rfl, congrArg (fun x : Nat => Value.int .u8 (x : Int)) (rY m k), congrArg (fun x : Nat => Value.int .u8 (x : Int)) (rY u k), rfl, trivial⟩ ⟨hB, a, (by first | (rw [nb, lit, if_pos Om]; exact e) | (rw [nb, lit, if_neg Om]; exact e)), Om, trivial⟩ (by show 8 - (k + 1) < 8 - k; omega)
 refine dr <| E _ _ <| Zr <| Zw v0 rfl <| Zw v0 rfl <| cT <| Zt <| dE (v := v0) rfl ⟨hB, ?_⟩
 obtain rfl : k = 8 := by omega
 exact ho
theorem o7 (x : Value) (l : List Int) (w : World) (hl : dM d9 1 w x l) (hL : Kg l) :
    Fn Tryz.prog 92 #[x] w fun v w' => v = .agg #[.int .u8 ((jn l l.length : Nat) : Int), .int .u8 ((lA l l.length : Nat) : Int)] := by
 refine dq (n := 36) Tryz.func92 rfl rfl (Nat.le_of_ble_eq_true rfl) ?_
 have hB : Below w.heap.size w w := Below.refl _ _
 have h8 := hL.1
 refine Zr <| Zy (dt i4 rfl fun u W3 g y b => ?_)
 have z := ZO g hB
 clear g
 replace hB := Ze hB y
 refine cT <| Zr <| Zy (dt i4 rfl fun A W8 d h a => ?_)
 have i := ZO d hB
 have e := Zn d b.lt
 clear d
 replace hB := Ze hB h
 replace b := h.at b
 refine cT <| Zr <| Zw (.int .u8 1) rfl <| cT <| cY fun I B => Zr <| Zw (.int .i64 0) rfl <| cT <| c7 ?_
 refine dw (σ := (Nat)) [4, 5, 6, 7, 8, 9, 10, 11, 12, 13, 14, 15, 16, 17, 18, 19, 20, 21, 22, 23, 24, 25, 26, 27, 28, 29, 30, 31, 32, 33, 34] (fun k => [(5, .int .i64 (k : Int)), (4, .int .u8 ((2 ^ k % 256 : Nat) : Int))]) (fun k W => (Below w.heap.size w W) ∧ (At W u _ 40) ∧ (At W A #[.int .u8 ((jn l k : Nat) : Int), .int .u8 ((lA l k : Nat) : Int)] 40) ∧ (k ≤ l.length) ∧ (True)) (fun k => l.length - k) (0) ⟨rfl, rfl, trivial⟩ ⟨hB, b, a, (Nat.zero_le _), trivial⟩ ?_
 clear hB b a
 rintro k J K ⟨hB, b, a, hk, _⟩ L j
 refine cY fun M C => Zr <| Zi rfl <| Zw x rfl <| Zv (dA (v := x) rfl (Below.slT hB hl) du) <| Zv (dL rfl rfl) <| cT <| ZQ rfl (fun D => ?_) fun D => ?_
 refine c9 <| C _ _ <| cY fun N o => c7 <| cY fun O p => ?_
 have h7 := zE (show k < 8 by omega)
 rw [Nat.mod_eq_of_lt (show 2 ^ k < 256 by omega)]
 have hA := yh l k
 have hB2 := z4 l k
 refine Zr <| Zw x rfl <| Zi rfl <| Zv (dJ (v := x) rfl (Below.slT hB hl) rfl du Om Ol25_0) <| Zv (dk (v := .int .i64 _) rfl dB (dM.cell (Below.slT hB hl) eD 0 Om Ol25_0 0 rfl)) <| Zv (dL rfl rfl) <| cT <| ZQ rfl (fun c => ?_) fun c => ?_
 obtain ⟨q, hq0, hq1⟩ := hL.get (k := k) (by omega) c
 refine Zr <| Zf rfl eQ <| Zl rfl ef a rfl <| Zi rfl <| Zv (Cn rfl (n := _) rfl rfl (by simp only [d5]; omega)) <| Zf rfl eQ <| Zy (eC (v := .int .u8 _) rfl rfl ef rfl a (by simp) fun P r E => ?_)
 replace hB := Zg hB r i
 replace b := At.grownNe b e r
 replace a := E
 replace a : At _ _ #[_, _] _ := a
 refine cT ?_
 have hq2 : 2 ^ k * q ≤ 2 ^ k * 1 := Nat.mul_le_mul_left _ hq0
 have hq3 : l.getD (k : Int).toNat 0 = (q : Int) := hq1
 refine gx eo im (fun F f => ?_)
 replace hB := Ze hB f
 replace b := f.at b
 replace a := f.at a
 have hS := eo.refl F
 refine Tf 0 rfl rfl gr hS <| Tk 1 rfl (fun _ hq => dk (v := .int .u8 _) rfl ef (At.cell (hq.at a) rfl)) hS <| Ti 2 rfl rfl hS <| Tw 3 x rfl rfl hS <| Ti 4 rfl rfl hS <| Tk 5 rfl (fun _ hq => dJ (v := x) rfl (hq.slT (Below.slT hB hl)) rfl du Om Ol25_0) hS <| Tk 6 rfl (fun _ hq => dk (v := .int .i64 _) rfl dB (dM.cell (hq.slT (Below.slT hB hl)) eD 0 Om Ol25_0 0 rfl)) hS <| Tk 7 rfl (fun _ _ => jt (m := q) (congrArg (Value.int .i64) hq3) Tryz.underlying3 Tryz.underlying5 (by simp only [d5]; omega)) hS <| Tk 8 rfl (fun _ _ => Jc rfl (n := q) rfl rfl (by simp only [d5]; omega)) hS <| Tk 9 rfl (fun _ _ => Cn rfl (n := (2 ^ k * q)) rfl rfl (by simp only [d5]; omega)) hS <| Tf 10 rfl rfl gr hS <| To 11 rfl (eC (v := .int .u8 _) rfl rfl ef rfl a (by simp) fun Q s G => ⟨.inr (by kernel_rfl), ?_⟩)
 replace hB := Zg hB s i
 replace b := At.grownNe b e s
 replace a := G
 replace a : At _ _ #[_, _] _ := a
 refine Td <| p _ _ <| cZ <| Zi rfl <| Zv (DN (n := 2) rfl rfl rfl) <| Zi rfl <| cT <| o _ _ <| cZ <| Zi rfl <| Zv (dp rfl rfl Om Om) <| Zi rfl <| cT ?_
 exact j _ _ (k + 1) Za ⟨rfl, rfl, trivial⟩ ⟨hB, b, (by first | (rw [(ou (k := k) hq1 hq0).1, (ou (k := k) hq1 hq0).2]; exact a) | (rw [(oo (k := k) c).1, (oo (k := k) c).2]; exact a)), Om, trivial⟩ Zo
 refine c9 <| p _ _ <| cZ <| Zi rfl <| Zv (DN (n := 2) rfl rfl rfl) <| Zi rfl <| cT <| o _ _ <| cZ <| Zi rfl <| Zv (dp rfl rfl Om Om) <| Zi rfl <| cT ?_
 exact j _ _ (k + 1) Za ⟨rfl, rfl, trivial⟩ ⟨hB, b, (by first | (rw [(ou (k := k) hq1 hq0).1, (ou (k := k) hq1 hq0).2]; exact a) | (rw [(oo (k := k) c).1, (oo (k := k) c).2]; exact a)), Om, trivial⟩ Zo
 refine dr <| B _ _ <| Zr <| Zv (db rfl dN rfl a) <| Zy (dg rfl rfl dN rfl b rfl rfl fun R t H => ?_)
 replace hB := Zg hB t z
 replace a := At.grownNe a (Ne.symm e) t
 replace b := H
 refine cT <| Zt <| jD rfl dN b rfl ⟨hB, ?_⟩
 obtain rfl : k = l.length := by omega
 rfl
theorem oB (m u : Nat) (n : Int) (w : World) (hm : m < 256) (hv : u < 256) :
    Fn Tryz.prog 51 #[.agg #[.int .u8 (m : Int), .int .u8 (u : Int)], .int .i64 n] w fun v w' => v = .bool (dY m u n) := by
 refine dq (n := 29) Tryz.func51 rfl rfl (Nat.le_of_ble_eq_true rfl) ?_
 have hB : Below w.heap.size w w := Below.refl _ _
 refine Zr <| Zy (dU (c := #[_, _]) rfl rfl fun k W3 h l b => ?_)
 have D := ZO h hB
 clear h
 replace hB := Ze hB l
 refine Zw (.bool false) rfl <| cT <| cY fun K6 o => Zr <| Zi rfl <| Zv (dL rfl rfl) <| ZX rfl (fun p => ?_) fun p => ?_
 refine Zs <| Zs <| Zw (.bool true) rfl <| cT <| dz rfl <| Zr <| Zw (.bool false) rfl <| cT <| Zt <| dE (v := .bool false) rfl ⟨hB, ?_⟩
 exact congrArg Value.bool (mf Om).symm
 refine Zi rfl <| Zv (iQ rfl rfl) <| Zb rfl <| cT <| ZQ rfl (fun r => ?_) fun r => ?_
 refine Zr <| Zw (.bool false) rfl <| cT <| Zt <| dE (v := .bool false) rfl ⟨hB, ?_⟩
 exact congrArg Value.bool (mf Om).symm
 refine c9 <| o _ _ <| Zr <| Zv (db rfl dN rfl b) <| ZC (vs := [.agg #[_, _]]) Ir (jy _ _ _ (by first | assumption | omega) (by first | assumption | omega)) rfl fun d E j a => ?_
 have s := (Below.size hB)
 replace hB := Ze hB j
 replace b := j.at b
 replace a := dh.mono a s
 refine Zw d rfl <| cT <| cY fun F t => ?_
 have hn : 0 ≤ n ∧ n ≤ 8 := by omega
 refine Zr <| Zi rfl <| Zi rfl <| cT <| c7 ?_
 refine dw (σ := (Nat)) [4, 6, 16, 17, 18, 19, 20, 21, 22, 23, 24] (fun i => [(6, .int .i64 (i : Int))]) (fun i W => (Below w.heap.size w W) ∧ (At W k _ 40) ∧ (dh d9 1 3 W w.heap.size d _) ∧ (n.toNat ≤ i ∧ i ≤ 8) ∧ (∀ q, n.toNat ≤ q → q < i → lit m u q = 2) ∧ (True)) (fun i => 8 - i) (n.toNat) ⟨congrArg (Value.int .i64) (by omega : n = (n.toNat : Int)), trivial⟩ ⟨hB, b, a, Om, (fun q h1 h2 => by omega), trivial⟩ ?_
 clear hB b a
 rintro i G H ⟨hB, b, a, hi, hw, _⟩ I x
 refine cY fun J y => Zr <| Zi rfl <| Zv (dL rfl rfl) <| cT <| ZQ rfl (fun z => ?_) fun z => ?_
 refine c9 <| y _ _ <| cY fun K A => c7 <| Zr <| Zw d rfl <| Zi rfl <| Zv (dJ (v := d) rfl a.sl rfl du Om Ol25_0) <| Zv (dk (v := .int .i64 _) rfl dB (dM.cell a.sl eD 0 Om Ol25_0 0 rfl)) <| Zv (f7 rfl rfl) <| cT <| ZQ rfl (fun f => ?_) fun f => ?_
 refine Zr <| Zw (.bool false) rfl <| cT <| Zt <| dE (v := .bool false) rfl ⟨hB, ?_⟩
 exact congrArg Value.bool (Fy hm Om f).symm
 refine c9 <| A _ _ <| cZ <| Zi rfl <| Zv (dp rfl rfl Om Om) <| Zi rfl <| cT ?_
 exact x _ _ (i + 1) Za ⟨rfl, trivial⟩ ⟨hB, b, a, Om, (Cs hw Om (Decidable.not_not.1 f)), trivial⟩ Zo
 refine dr <| t _ _ <| Zd eo fun B g => ?_
 replace hB := Ze hB g
 replace b := g.at b
 replace a := g.ow a
 have hS := eo.refl B
 refine Tw 0 d rfl rfl hS <| Tk 2 rfl (fun _ hq => db rfl dN rfl (hq.at b)) hS <| To 1 rfl (TC (vs := [d]) MY (o7 _ _ _ a.sl (by first | assumption | exact vf _ _ | (rw [yp (by assumption)]; exact vf _ _))) rfl fun L M e C => ⟨.inl (hS.trans e), ?_⟩)
 replace hB := Ze hB e
 replace b := e.at b
 replace a := e.ow a
 replace hS := hS.trans e
 obtain rfl := C
 refine Tk 3 rfl (fun _ _ => EX rfl rfl) hS <| Ty 4 rfl rfl hS <| Td <| Zt <| dE (v := .bool _) rfl ⟨hB, ?_⟩
 obtain rfl : i = 8 := by omega
 exact congrArg Value.bool (Fi hm hv hn hw)
theorem pF (m u p : Nat) (w : World) (hm : m < 256) (hv : u < 256) (hp : p < 256) :
    Fn Tryz.prog 53 #[.agg #[.int .u8 (m : Int), .int .u8 (u : Int)], .int .i64 (p : Int)] w fun v w' => v = .bool (pf m u p) := by
 refine dq (n := 28) Tryz.func53 rfl rfl (Nat.le_of_ble_eq_true rfl) ?_
 have hB : Below w.heap.size w w := Below.refl _ _
 refine Zr <| Zy (dU (c := #[_, _]) rfl rfl fun r W3 i s b => ?_)
 have C := ZO i hB
 clear i
 replace hB := Ze hB s
 refine Zw (.bool false) rfl <| cT <| Zr <| Zv (db rfl dN rfl b) <| ZC (vs := [.agg #[_, _]]) Ir (jy _ _ _ (by first | assumption | omega) (by first | assumption | omega)) rfl fun d W8 j a => ?_
 have t := (Below.size hB)
 replace hB := Ze hB j
 replace b := j.at b
 replace a := dh.mono a t
 refine Zw d rfl <| cT <| cY fun D x => Zr <| Zw (.int .i64 0) rfl <| cT <| c7 ?_
 refine dw (σ := (Nat)) [4, 6, 9, 10, 11, 12, 13, 14, 15, 16, 17, 18, 19, 20, 21, 22, 23, 24, 25, 26, 27] (fun k => [(6, .int .i64 (k : Int))]) (fun k W => (Below w.heap.size w W) ∧ (At W r _ 40) ∧ (dh d9 1 3 W w.heap.size d _) ∧ (k ≤ 8) ∧ (∀ q, q < k → lit m u q = 2 ∨ lit m u q = ((p / 2 ^ q % 2 : Nat) : Int)) ∧ (True)) (fun k => 8 - k) (0) ⟨rfl, trivial⟩ ⟨hB, b, a, Om, ff, trivial⟩ ?_
 clear hB b a
 rintro k E F ⟨hB, b, a, hk, hw, _⟩ G l
 refine cY fun H y => Zr <| Zi rfl <| Zv (dL rfl rfl) <| cT <| ZQ rfl (fun z => ?_) fun z => ?_
 refine c9 <| y _ _ <| cY fun I o => c7 <| Zd eo fun A h => ?_
 replace hB := Ze hB h
 replace b := h.at b
 replace a := h.ow a
 have hS := eo.refl A
 refine Tw 0 d rfl rfl hS <| Ti 1 rfl rfl hS <| Tk 2 rfl (fun _ hq => dJ (v := d) rfl ((hq.ow a)).sl rfl du Om Ol25_0) hS <| Tk 3 rfl (fun _ hq => dk (v := .int .i64 _) rfl dB (dM.cell ((hq.ow a)).sl eD 0 Om Ol25_0 0 rfl)) hS <| Tk 4 rfl (fun _ _ => f7 rfl rfl) hS <| Tx 5 rfl (fun _ _ => kN (v := .bool _) rfl) hS (fun f => ?_) fun f => ?_
 refine Tw 6 d rfl rfl hS <| Ti 7 rfl rfl hS <| Tk 8 rfl (fun _ hq => dJ (v := d) rfl ((hq.ow a)).sl rfl du Om Ol25_0) hS <| Tk 9 rfl (fun _ hq => dk (v := .int .i64 _) rfl dB (dM.cell ((hq.ow a)).sl eD 0 Om Ol25_0 0 rfl)) hS <| Ti 10 rfl rfl hS <| Ti 11 rfl rfl hS <| To 12 rfl (TC Im (lf _ _ _ (by first | assumption | omega) (by first | assumption | omega)) rfl fun J K e B => ⟨.inl (hS.trans e), ?_⟩)
 replace hB := Ze hB e
 replace b := e.at b
 replace a := e.ow a
 replace hS := hS.trans e
 obtain rfl := B
 refine Tk 13 rfl (fun _ _ => f7 rfl rfl) hS <| Ty 14 rfl rfl hS <| Td <| ZQ rfl (fun g => ?_) fun g => ?_
 refine Zr <| Zw (.bool false) rfl <| cT <| Zt <| dE (v := .bool false) rfl ⟨hB, ?_⟩
 exact congrArg Value.bool (J4 hm Om f g).symm
 refine c9 <| o _ _ <| cZ <| Zi rfl <| Zv (dp rfl rfl Om Om) <| Zi rfl <| cT ?_
 exact l _ _ (k + 1) Za ⟨rfl, trivial⟩ ⟨hB, b, a, Om, (ey hw (AZ Om (by first | exact .inl f | exact .inr g))), trivial⟩ Zo
 refine Tp 6 rfl hS <| Tp 7 rfl hS <| Tp 8 rfl hS <| Tp 9 rfl hS <| Tp 10 rfl hS <| Tp 11 rfl hS <| Tp 12 rfl hS <| Tp 13 rfl hS <| Tw 14 (.bool false) rfl rfl hS <| Td <| d4 rfl <| c9 <| o _ _ <| cZ ?_
 refine Zi rfl <| Zv (dp rfl rfl Om Om) <| Zi rfl <| cT ?_
 exact l _ _ (k + 1) Za ⟨rfl, trivial⟩ ⟨hB, b, a, Om, (ey hw (AZ Om (by first | exact .inl f | exact .inr g))), trivial⟩ Zo
 refine dr <| x _ _ <| Zr <| Zw (.bool true) rfl <| cT <| Zt <| dE (v := .bool true) rfl ⟨hB, ?_⟩
 obtain rfl : k = 8 := by omega
 exact congrArg Value.bool (LK hm hw)
end
section
open Go Go.RowKit
theorem Fb : dC Tryz.prog 107 = true := by kernel_rfl
theorem rJ : (Tryz.prog.info? 5).map (·.size) = some 1 := by kernel_rfl
theorem mt {f : Nat → Value} {w : World} {d : Option Nat} {ty : TypeId} {ps : String} {af : Array Edge} {g : Option (Nat × Bool)} {x0 x1 : Operand} {c0_0 c1_0 : Value} (h0 : dO f x0 = c0_0) (k0 : c0_0.cells = #[c0_0]) (h1 : dO f x1 = c1_0) (k1 : c1_0.cells = #[c1_0]) :
    (execOp (dO f) ⟨d, .build 40 #[(0, x0), (1, x1)], ty, ps, af, g⟩).run Tryz.prog w = .ok (.value (.agg #[c0_0, c1_0])) w := by
  obtain ⟨i0, hi0, hz0⟩ := Option.bind_eq_some_iff.1 (show (Tryz.prog.info? 40).bind (·.zero) = _ from i4)
  obtain ⟨j5, hj5, hs5⟩ := Option.map_eq_some_iff.1 rJ
  simp [execOp, h0, k0, h1, k1, Instr.build, zeroValue, typeInfo, sizeOf, hi0, hz0, run_underlying Tryz.underlying40, Instr.fill, eW, hj5, hs5]
theorem Ds : dC Tryz.prog 95 = true := by kernel_rfl
theorem Oz : dC Tryz.prog 51 = true := by kernel_rfl
theorem HY : dC Tryz.prog 23 = true := by kernel_rfl
theorem rX (m u : Nat) (n : Int) (w : World) (hm : m < 256) (hv : u < 256) :
    Fn Tryz.prog 107 #[.agg #[.int .u8 (m : Int), .int .u8 (u : Int)], .int .i64 n] w fun v w' => v = .bool (dY m u n) := by
 refine dq (n := 27) Tryz.func107 rfl rfl (Nat.le_of_ble_eq_true rfl) ?_
 have hB : Below w.heap.size w w := Below.refl _ _
 refine Zr <| Zy (dU (c := #[_, _]) rfl rfl fun i W3 f h b => ?_)
 have j := ZO f hB
 clear f
 replace hB := Ze hB h
 refine Zw (.bool false) rfl <| cT ?_
 have h8 : n ≤ 8 → 2 ^ n.toNat ≤ 256 := fh
 refine Zd eo fun W8 g => ?_
 replace hB := Ze hB g
 replace b := g.at b
 have hS := eo.refl W8
 refine Ti 0 rfl rfl hS <| Tk 1 rfl (fun _ _ => nJ rfl rfl) hS <| Tx 2 rfl (fun _ _ => kN (v := .bool _) rfl) hS (fun d => ?_) fun d => ?_
 refine Ti 3 rfl rfl hS <| Tk 4 rfl (fun _ _ => yi rfl rfl) hS <| Ty 5 rfl rfl hS <| Tx 6 rfl (fun _ _ => kN (v := .bool _) rfl) hS (fun e => ?_) fun e => ?_
 refine Tf 7 rfl rfl eQ hS <| Tk 8 rfl (fun _ hq => dk (v := .int .u8 _) rfl ef (At.cell (hq.at b) rfl)) hS <| Tk 9 rfl (fun _ _ => jt rfl Tryz.underlying5 Tryz.underlying3 (by simp only [d5]; omega)) hS <| Ti 10 rfl rfl hS <| Tk 11 rfl (fun _ _ => jB (m := 1) rfl rfl Om (by simp only [IntKind.bits]; omega) (by rw [Nat.one_mul]; have := h8 Om; simp only [d5]; omega)) hS <| Tk 12 rfl (fun _ _ => dL rfl rfl) hS <| Ty 13 rfl rfl hS <| Tx 14 rfl (fun _ _ => kN (v := .bool _) rfl) hS (fun a => ?_) fun a => ?_
 refine Tf 15 rfl rfl gr hS <| Tk 16 rfl (fun _ hq => dk (v := .int .u8 _) rfl ef (At.cell (hq.at b) rfl)) hS <| Tf 17 rfl rfl eQ hS <| Tk 18 rfl (fun _ hq => dk (v := .int .u8 _) rfl ef (At.cell (hq.at b) rfl)) hS <| Tk 19 rfl (fun _ _ => pB (n := _) rfl rfl rfl (by first | assumption | (simp only [d5]; omega) | (simp only [d5]; decide)) (by first | assumption | (simp only [d5]; omega) | (simp only [d5]; decide))) hS <| Tk 20 rfl (fun _ _ => eB rfl rfl) hS <| Ty 21 rfl rfl hS <| Ty 22 rfl rfl hS <| Td <| Zt <| dE (v := .bool _) rfl ⟨hB, ?_⟩
 first | exact congrArg Value.bool (sC d e a) | exact congrArg Value.bool (r8 a) | exact congrArg Value.bool (mf (by omega)).symm
 refine Tp 15 rfl hS <| Tp 16 rfl hS <| Tp 17 rfl hS <| Tp 18 rfl hS <| Tp 19 rfl hS <| Tp 20 rfl hS <| Tw 21 (.bool false) rfl rfl hS <| Tw 22 (.bool false) rfl rfl hS <| Td <| Zt <| dE (v := .bool false) rfl ⟨hB, ?_⟩
 first | exact congrArg Value.bool (sC d e a) | exact congrArg Value.bool (r8 a) | exact congrArg Value.bool (mf (by omega)).symm
 refine Tp 7 rfl hS <| Tp 8 rfl hS <| Tp 9 rfl hS <| Tp 10 rfl hS <| Tp 11 rfl hS <| Tp 12 rfl hS <| Tw 13 (.bool false) rfl rfl hS <| Tw 14 (.bool false) rfl rfl hS <| Tp 15 rfl hS <| Tp 16 rfl hS <| Tp 17 rfl hS <| Tp 18 rfl hS <| Tp 19 rfl hS <| Tp 20 rfl hS ?_
 refine Tw 21 (.bool false) rfl rfl hS <| Tw 22 (.bool false) rfl rfl hS <| Td <| Zt <| dE (v := .bool false) rfl ⟨hB, ?_⟩
 first | exact congrArg Value.bool (sC d e a) | exact congrArg Value.bool (r8 a) | exact congrArg Value.bool (mf (by omega)).symm
 refine Tp 3 rfl hS <| Tp 4 rfl hS <| Tw 5 (.bool false) rfl rfl hS <| Tw 6 (.bool false) rfl rfl hS <| Tp 7 rfl hS <| Tp 8 rfl hS <| Tp 9 rfl hS <| Tp 10 rfl hS <| Tp 11 rfl hS <| Tp 12 rfl hS <| Tw 13 (.bool false) rfl rfl hS <| Tw 14 (.bool false) rfl rfl hS <| Tp 15 rfl hS <| Tp 16 rfl hS ?_
 refine Tp 17 rfl hS <| Tp 18 rfl hS <| Tp 19 rfl hS <| Tp 20 rfl hS <| Tw 21 (.bool false) rfl rfl hS <| Tw 22 (.bool false) rfl rfl hS <| Td <| Zt <| dE (v := .bool false) rfl ⟨hB, ?_⟩
 first | exact congrArg Value.bool (sC d e a) | exact congrArg Value.bool (r8 a) | exact congrArg Value.bool (mf (by omega)).symm
theorem lc (m u : Nat) (n : Int) (w : World) (hm : m < 256) (hv : u < 256) :
    Fn Tryz.prog 67 #[.agg #[.int .u8 (m : Int), .int .u8 (u : Int)], .int .i64 n] w fun v w' => v = if dY m u n = true then .tuple #[eP (qI m u n.toNat), .int .i64 0] else .tuple #[eP 0, .int .i64 1] := by
 refine dq (n := 31) Tryz.func67 rfl rfl (Nat.le_of_ble_eq_true rfl) ?_
 have hB : Below w.heap.size w w := Below.refl _ _
 refine Zr <| Zy (dU (c := #[_, _]) rfl rfl fun C W3 p D b => ?_)
 have P := ZO p hB
 clear p
 replace hB := Ze hB D
 refine Zy (dt eM rfl fun q W6 r s a => ?_)
 have t := ZO r hB
 clear r
 replace hB := Ze hB s
 replace b := s.at b
 replace a : At W6 q #[wv 0 0, wv 0 1, wv 0 2, wv 0 3] 49 := a
 refine Zw (.int .i64 0) rfl <| cT <| cY fun K9 E => Zr <| Zv (db rfl dN rfl b) <| Zi rfl <| ZC (vs := [.agg #[_, _], .int .i64 _]) Fb (rX _ _ _ _ (by first | assumption | omega) (by first | assumption | omega)) rfl fun Q R g F => ?_
 replace hB := Ze hB g
 replace b := g.at b
 replace a := g.at a
 obtain rfl := F
 refine Zv (fy rfl) <| cT <| ZQ rfl (fun h => ?_) fun h => ?_
 refine Zr <| Zv (v := eP 0) (gD ) <| Zy (dg rfl rfl df rfl a rfl rfl fun S x G => ?_)
 replace hB := Zg hB x t
 replace b := At.grownAt b a x Dd
 replace a := G
 refine Zw (.int .i64 1) rfl <| cT <| Zt <| fw rfl df a rfl (v1 := .int .i64 1) rfl ⟨hB, ?_⟩
 rw [if_neg (by simpa using h)]
 refine c9 <| E _ _ ?_
 have hr : dY m u n = true := by simpa using h
 obtain ⟨hn0, hn8, hmn, hvm⟩ := dW.1 hr
 have hp := fh hn8
 refine Zr <| Zy (dt eM rfl fun y H i j d => ?_)
 have I := ZO i hB
 have z := Zn i a.lt
 clear i
 replace hB := Ze hB j
 replace b := j.at b
 replace a := j.at a
 replace d : At H y #[wv 0 0, wv 0 1, wv 0 2, wv 0 3] 49 := d
 refine cT <| cY fun T J => Zr <| Zi rfl <| Zv (jB (m := 1) rfl rfl Om (by simp only [IntKind.bits]; omega) (by rw [Nat.one_mul]; simp only [d5]; omega)) <| Zw (.int .i64 0) rfl <| cT <| c7 ?_
 refine dw (σ := (Nat)) [7, 15, 16, 17, 18, 19, 20, 21, 22, 23, 24, 25, 26, 27, 28, 29] (fun k => [(15, .int .i64 (k : Int))]) (fun k W => (Below w.heap.size w W) ∧ (At W C _ 40) ∧ (At W q _ 49) ∧ (At W y #[wv (m5 m u k) 0, wv (m5 m u k) 1, wv (m5 m u k) 2, wv (m5 m u k) 3] 49) ∧ (k ≤ 2 ^ n.toNat) ∧ (True)) (fun k => 2 ^ n.toNat - k) (0) ⟨rfl, trivial⟩ ⟨hB, b, a, d, (Nat.zero_le _), trivial⟩ ?_
 clear hB b a d
 rintro k U V ⟨hB, b, a, d, hk, _⟩ X A
 refine Zr <| Zv (dL rfl rfl) <| cT <| cY fun Y K => ZQ rfl (fun L => ?_) fun L => ?_
 refine c9 <| K _ _ <| cY fun Z B => c7 <| Zr <| Zi rfl <| Zi rfl <| cT <| Zr <| Zi rfl <| Zv (jt rfl Tryz.underlying3 Tryz.underlying5 (by simp only [d5]; omega)) <| Zf rfl eQ <| Zl rfl ef b rfl <| Zv (nE (n := _) rfl rfl rfl (by first | assumption | (simp only [d5]; omega) | (simp only [d5]; decide)) (by first | assumption | (simp only [d5]; omega) | (simp only [d5]; decide))) ?_
 refine Zf rfl gr <| Zl rfl ef b rfl <| Zv (eB rfl rfl) <| cT <| ZQ rfl (fun e => ?_) fun e => ?_
 refine cZ <| Zv (db rfl df rfl d) <| Zi rfl <| ZC (vs := [.agg #[_, _, _, _], .int .i64 _]) vq (mr _ _ _) rfl fun aa ab f M => ?_
 replace hB := Ze hB f
 replace b := f.at b
 replace a := f.at a
 replace d := f.at d
 obtain rfl := M
 refine Zy (dg rfl rfl df rfl d rfl rfl fun ac l N => ?_)
 replace hB := Zg hB l I
 replace b := At.grownAt b d l Dd
 replace a := At.grownNe a z l
 replace d := N
 refine cT <| B _ _ <| cZ <| Zv (dp rfl rfl Om Om) <| Zi rfl <| cT ?_
 exact A _ _ (k + 1) Za ⟨rfl, trivial⟩ ⟨hB, b, a, (by first | (rw [ES e]; exact d) | (rw [EO e]; exact d)), (by simp only [Nat.one_mul] at *; omega), trivial⟩ (by simp only [Nat.one_mul] at *; omega)
 refine c9 <| B _ _ <| cZ <| Zv (dp rfl rfl Om Om) <| Zi rfl <| cT ?_
 exact A _ _ (k + 1) Za ⟨rfl, trivial⟩ ⟨hB, b, a, (by first | (rw [ES e]; exact d) | (rw [EO e]; exact d)), (by simp only [Nat.one_mul] at *; omega), trivial⟩ (by simp only [Nat.one_mul] at *; omega)
 refine dr <| J _ _ <| Zr <| Zv (db rfl df rfl d) <| Zy (dg rfl rfl df rfl a rfl rfl fun ad o O => ?_)
 replace hB := Zg hB o t
 replace b := At.grownAt b a o Dd
 replace d := At.grownNe d (Ne.symm z) o
 replace a := O
 refine Zw (.int .i64 0) rfl <| cT <| Zt <| fw rfl df a rfl (v1 := .int .i64 0) rfl ⟨hB, ?_⟩
 have hk2 : k = 2 ^ n.toNat := by simp only [Nat.one_mul] at *; omega
 subst hk2
 rw [if_pos hr]; rfl
theorem nZ (m u : Nat) (w : World) (hm : m < 256) (hv : u < 256) :
    Fn Tryz.prog 95 #[.agg #[.int .u8 (m : Int), .int .u8 (u : Int)]] w fun v w' => v = .agg #[.int .u8 (m : Int), .int .u8 ((u &&& m : Nat) : Int)] := by
 refine dq (n := 11) Tryz.func95 rfl rfl (Nat.le_of_ble_eq_true rfl) ?_
 have hB : Below w.heap.size w w := Below.refl _ _
 refine Zr <| Zy (dU (c := #[_, _]) rfl rfl fun l W3 e h a => ?_)
 have o := ZO e hB
 clear e
 replace hB := Ze hB h
 refine Zy (dt i4 rfl fun p W6 b f d => ?_)
 have i := ZO b hB
 have j := Zn b a.lt
 clear b
 replace hB := Ze hB f
 replace a := f.at a
 refine cT <| Zr <| Zf rfl eQ <| Zl rfl ef a rfl <| Zf rfl gr <| Zl rfl ef a rfl <| Zf rfl eQ <| Zl rfl ef a rfl <| Zv (nE (n := _) rfl rfl rfl (by first | assumption | (simp only [d5]; omega) | (simp only [d5]; decide)) (by first | assumption | (simp only [d5]; omega) | (simp only [d5]; decide))) <| Zv (mt (h0 := rfl) (k0 := rfl) (h1 := rfl) (k1 := rfl) (c0_0 := .int .u8 _) (c1_0 := .int .u8 _)) <| Zy (dg rfl rfl dN rfl d rfl rfl fun q g k => ?_)
 replace hB := Zg hB g i
 replace a := At.grownNe a j g
 replace d := k
 refine cT <| Zt <| jD rfl dN d rfl ⟨hB, ?_⟩
 rfl
theorem kg (m u : Nat) (i : Int) (w : World) (hm : m < 256) (hv : u < 256) :
    Fn Tryz.prog 59 #[.agg #[.int .u8 (m : Int), .int .u8 (u : Int)], .int .i64 i] w fun v w' => v = NW m u i := by
 refine dq (n := 19) Tryz.func59 rfl rfl (Nat.le_of_ble_eq_true rfl) ?_
 have hB : Below w.heap.size w w := Below.refl _ _
 refine Zr <| Zy (dU (c := #[_, _]) rfl rfl fun I W3 p z a => ?_)
 have A := ZO p hB
 clear p
 replace hB := Ze hB z
 refine Zy (dt i4 rfl fun J W6 f q b => ?_)
 have g := ZO f hB
 have e := Zn f a.lt
 clear f
 replace hB := Ze hB q
 replace a := q.at a
 refine cT <| cY fun K9 h => Zr <| Zi rfl <| Zv (nJ rfl rfl) <| ZX rfl (fun B => ?_) fun B => ?_
 refine Zi rfl <| Zv (dL rfl rfl) <| Zb rfl <| cT <| ZQ rfl (fun C => ?_) fun C => ?_
 have h7 := zE (show i.toNat < 8 by omega)
 have hle := qx m (1 * 2 ^ i.toNat)
 refine gx eo im (fun D j => ?_)
 replace hB := Ze hB j
 replace a := j.at a
 replace b := j.at b
 have hS := eo.refl D
 refine Tf 0 rfl rfl eQ hS <| Tk 1 rfl (fun _ hq => dk (v := .int .u8 _) rfl ef (At.cell (hq.at a) rfl)) hS <| Ti 2 rfl rfl hS <| Tk 3 rfl (fun _ _ => jB (m := 1) rfl rfl Om (by simp only [IntKind.bits]; omega) (by rw [Nat.one_mul]; simp only [d5]; omega)) hS <| Tk 4 rfl (fun _ _ => pB (n := _) rfl rfl rfl (by first | assumption | (simp only [d5]; omega) | (simp only [d5]; decide)) (by rw [Nat.one_mul]; simp only [d5]; omega)) hS <| Tf 5 rfl rfl eQ hS <| To 6 rfl (eC (v := .int .u8 _) rfl rfl ef rfl a (by simp) fun K r E => ⟨.inr (by kernel_rfl), ?_⟩)
 replace hB := Zg hB r A
 replace b := At.grownNe b (Ne.symm e) r
 replace a := E
 replace a : At _ _ #[_, _] _ := a
 refine Td <| h _ _ <| Zr <| Zv (db rfl dN rfl a) <| ZC (vs := [.agg #[_, _]]) Ds (nZ _ _ _ (by first | omega | assumption) (by first | omega | assumption)) rfl fun s L k d => ?_
 replace hB := Ze hB k
 replace a := k.at a
 replace b := k.at b
 obtain rfl := d
 refine Zy (dg rfl rfl dN rfl b rfl rfl fun M t F => ?_)
 replace hB := Zg hB t g
 replace a := At.grownNe a e t
 replace b := F
 refine cT <| Zt <| jD rfl dN b rfl ⟨hB, ?_⟩
 first | (rw [NW, jx, if_pos (by omega)]; simp only [Nat.one_mul]) | (rw [NW, jx, if_neg (by omega)])
 refine c9 <| h _ _ <| Zr <| Zv (db rfl dN rfl a) <| ZC (vs := [.agg #[_, _]]) Ds (nZ _ _ _ (by first | omega | assumption) (by first | omega | assumption)) rfl fun s N l d => ?_
 replace hB := Ze hB l
 replace a := l.at a
 replace b := l.at b
 obtain rfl := d
 refine Zy (dg rfl rfl dN rfl b rfl rfl fun O x G => ?_)
 replace hB := Zg hB x g
 replace a := At.grownNe a e x
 replace b := G
 refine cT <| Zt <| jD rfl dN b rfl ⟨hB, ?_⟩
 first | (rw [NW, jx, if_pos (by omega)]; simp only [Nat.one_mul]) | (rw [NW, jx, if_neg (by omega)])
 refine Zs <| Zs <| Zw (.bool false) rfl <| cT <| d4 rfl <| c9 <| h _ _ <| Zr <| Zv (db rfl dN rfl a) <| ZC (vs := [.agg #[_, _]]) Ds (nZ _ _ _ (by first | omega | assumption) (by first | omega | assumption)) rfl fun s P o d => ?_
 replace hB := Ze hB o
 replace a := o.at a
 replace b := o.at b
 obtain rfl := d
 refine Zy (dg rfl rfl dN rfl b rfl rfl fun Q y H => ?_)
 replace hB := Zg hB y g
 replace a := At.grownNe a e y
 replace b := H
 refine cT <| Zt <| jD rfl dN b rfl ⟨hB, ?_⟩
 first | (rw [NW, jx, if_pos (by omega)]; simp only [Nat.one_mul]) | (rw [NW, jx, if_neg (by omega)])
end
end Go.Proofs.YteimkklmmanncaaGreat
