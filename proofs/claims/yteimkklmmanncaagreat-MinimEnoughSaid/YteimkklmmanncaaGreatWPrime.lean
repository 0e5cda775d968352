/- Short forms of the laws of walking: what a step asks for of itself is checked by itself (no condition). The walks of package set. The walks of the document's first two layers. The walks of package cube, and of the document's answer for primes. The walks of package prime, but for the function All. -/
import Derived.Test.YteimkklmmanncaaGreatProg
import Derived.Test.YteimkklmmanncaaGreatLift2
namespace Go.Proofs.YteimkklmmanncaaGreat
set_option linter.unusedVariables false
set_option linter.unusedSimpArgs false
section
open Go Go.RowKit
class JO (b : Bool) (p : outParam Prop) : Prop where
 t : b = true → p
 f : b = false → ¬ p
instance (priority := low) tst_0 (b : Bool) : JO b (b = true) := ⟨id, fun h => by simp [h]⟩
instance tst_1 (p : Prop) [Decidable p] : JO (decide p) p := ⟨of_decide_eq_true, of_decide_eq_false⟩
class Kc (b : Bool) (p : outParam Prop) : Prop where
 f : b = false → p
instance (priority := low) tsf_0 (b : Bool) : Kc b (b = false) := ⟨id⟩
instance tsf_1 (p : Prop) [Decidable p] : Kc (decide p) (¬ p) := ⟨of_decide_eq_false⟩
theorem Om {p : Prop} (h : p := by omega) : p := h
theorem Dd {p : Prop} (h : p := by decide) : p := h
theorem Za {p : Prop} (h : p := by repeat (first | exact fv.mask _ _ _ | exact fv.refl _ _ | refine fv.updo ?_ rfl _ | refine fv.updL ?_ _ rfl | refine fv.maskS rfl ?_)) : p := h
theorem Zo {p : Prop} (h : p := by first | omega | (dsimp only; omega)) : p := h
def tt (ops : Array Oper) (f : Nat → Value) (o : Oper) (n : Nat) : Bool := gq ops f o && jq n o.dst
def O9 (ops : Array Oper) (f : Nat → Value) (o : Oper) (n : Nat) : Bool := !gq ops f o && jq n o.dst
theorem s7 {ops : Array Oper} {f : Nat → Value} {o : Oper} {n : Nat} (h : tt ops f o n = true) : gq ops f o = true := (Bool.and_eq_true_iff.1 h).1
theorem tk {ops : Array Oper} {f : Nat → Value} {o : Oper} {n : Nat} (h : tt ops f o n = true) : jq n o.dst = true := (Bool.and_eq_true_iff.1 h).2
theorem Lg {ops : Array Oper} {f : Nat → Value} {o : Oper} {n : Nat} (h : O9 ops f o n = true) : gq ops f o = false := by simpa using (Bool.and_eq_true_iff.1 h).1
theorem La {ops : Array Oper} {f : Nat → Value} {o : Oper} {n : Nat} (h : O9 ops f o n = true) : jq n o.dst = true := (Bool.and_eq_true_iff.1 h).2
def Hp (f : Nat → Value) : Op → Option Value
 | .move x => some (dK f x)
 | .assign x => some (dK f x)
 | .pick c x y => match dK f c with
  | .bool true => some (dK f x)
  | .bool false => some (dK f y)
  | _ => none
 | _ => none
section
variable {P : Program} {n : Nat} {ops : Array Oper} {Q : (Nat → Value) → World → Prop} {f : Nat → Value} {w : World} {rest : List Oper} {d : Option Nat} {op : Op} {ty : TypeId} {ps : String} {af : Array Edge} {g : Option (Nat × Bool)}
theorem lE {v : Value} (h : Hp f op = some v) : (execOp (dK f) ⟨d, op, ty, ps, af, g⟩).run P w = .ok (.value v) w := by
 unfold Hp at h
 split at h
 ·obtain rfl := Option.some.inj h; exact lf rfl
 ·obtain rfl := Option.some.inj h; exact zT rfl
 ·split at h
  ·obtain rfl := Option.some.inj h; rename_i e; exact IL e rfl
  ·obtain rfl := Option.some.inj h; rename_i e; exact H5 e rfl
  ·cases h
 ·cases h
theorem Zv {v : Value} {w' : World} (hr : (execOp (dK f) ⟨d, op, ty, ps, af, g⟩).run P w = .ok (.value v) w') (h : WL P n ops Q rest (updo f d v) w') (hk : tt ops f ⟨d, op, ty, ps, af, g⟩ n = true := by exact rfl) :
  WL P n ops Q (⟨d, op, ty, ps, af, g⟩ :: rest) f w := Bq (s7 hk) rfl (tk hk) hr h
theorem Zw (v : Value) (hv : Hp f op = some v) (h : WL P n ops Q rest (updo f d v) w) (hk : tt ops f ⟨d, op, ty, ps, af, g⟩ n = true := by exact rfl) :
  WL P n ops Q (⟨d, op, ty, ps, af, g⟩ :: rest) f w := Zv (lE hv) h hk
theorem Zi {k : IntKind} {z : Int} (hv : Hp f op = some (.int k z)) (h : WL P n ops Q rest (updo f d (.int k z)) w) (hk : tt ops f ⟨d, op, ty, ps, af, g⟩ n = true := by exact rfl) :
  WL P n ops Q (⟨d, op, ty, ps, af, g⟩ :: rest) f w := Zv (lE hv) h hk
theorem Zb {b : Bool} (hv : Hp f op = some (.bool b)) (h : WL P n ops Q rest (updo f d (.bool b)) w) (hk : tt ops f ⟨d, op, ty, ps, af, g⟩ n = true := by exact rfl) :
  WL P n ops Q (⟨d, op, ty, ps, af, g⟩ :: rest) f w := Zv (lE hv) h hk
theorem Zp {b o : Nat} (hv : Hp f op = some (.pointer (some ⟨b, o, none⟩))) (h : WL P n ops Q rest (updo f d (.pointer (some ⟨b, o, none⟩))) w) (hk : tt ops f ⟨d, op, ty, ps, af, g⟩ n = true := by exact rfl) :
  WL P n ops Q (⟨d, op, ty, ps, af, g⟩ :: rest) f w := Zv (lE hv) h hk
theorem Zf {x : Operand} {t : TypeId} {k q b o : Nat} (hx : dK f x = .pointer (some ⟨b, o, none⟩)) (hT : fw P t k = some q) (h : WL P n ops Q rest (updo f d (.pointer (some ⟨b, o + q, none⟩))) w)
  (hk : tt ops f ⟨d, .fieldAddr t x k, ty, ps, af, g⟩ n = true := by exact rfl) : WL P n ops Q (⟨d, .fieldAddr t x k, ty, ps, af, g⟩ :: rest) f w := Zv (sZ hx hT) h hk
theorem Zc {x : Operand} {a : Addr} (hx : dK f x = .pointer (some a)) (h : WL P n ops Q rest (updo f d (.pointer (some a))) w)
  (hk : tt ops f ⟨d, .nilCheck x, ty, ps, af, g⟩ n = true := by exact rfl) : WL P n ops Q (⟨d, .nilCheck x, ty, ps, af, g⟩ :: rest) f w := Zv (pz hx) h hk
theorem Zl {x : Operand} {t : TypeId} {b o : Nat} {k : IntKind} {z : Int} {c : Array Value} {T : TypeId} (hx : dK f x = .pointer (some ⟨b, o, none⟩)) (hT : fl P t = true) (hm : At w b c T) (hc : c[o]? = some (.int k z))
  (h : WL P n ops Q rest (updo f d (.int k z)) w) (hk : tt ops f ⟨d, .load t x, ty, ps, af, g⟩ n = true := by exact rfl) : WL P n ops Q (⟨d, .load t x, ty, ps, af, g⟩ :: rest) f w := Zv (dm hx hT (At.cell hm hc)) h hk
theorem ZL (v : Value) {x : Operand} {t : TypeId} {b o : Nat} {c : Array Value} {T : TypeId} (hx : dK f x = .pointer (some ⟨b, o, none⟩)) (hT : fl P t = true) (hm : At w b c T) (hc : c[o]? = some v)
  (h : WL P n ops Q rest (updo f d v) w) (hk : tt ops f ⟨d, .load t x, ty, ps, af, g⟩ n = true := by exact rfl) : WL P n ops Q (⟨d, .load t x, ty, ps, af, g⟩ :: rest) f w := Zv (dm hx hT (At.cell hm hc)) h hk
theorem Zs (h : WL P n ops Q rest (updo f d undef) w) (hk : O9 ops f ⟨d, op, ty, ps, af, g⟩ n = true := by exact rfl) : WL P n ops Q (⟨d, op, ty, ps, af, g⟩ :: rest) f w := KB (Lg hk) rfl (La hk) h
theorem Zy (h : Yd P ⟨d, op, ty, ps, af, g⟩ f w fun v w' => WL P n ops Q rest (updo f d v) w') (hk : tt ops f ⟨d, op, ty, ps, af, g⟩ n = true := by exact rfl) : WL P n ops Q (⟨d, op, ty, ps, af, g⟩ :: rest) f w :=
 gP (s7 hk) rfl (tk hk) h
theorem Zx {b : Bool} {p q : Prop} [JO b p] [Kc b q] (hr : (execOp (dK f) ⟨d, op, ty, ps, af, g⟩).run P w = .ok (.value (.bool b)) w) (ht : p → WL P n ops Q rest (updo f d (.bool true)) w) (hf : q → WL P n ops Q rest (updo f d (.bool false)) w)
  (hk : tt ops f ⟨d, op, ty, ps, af, g⟩ n = true := by exact rfl) : WL P n ops Q (⟨d, op, ty, ps, af, g⟩ :: rest) f w := GJ (s7 hk) rfl (tk hk) hr (fun h => ht (JO.t h)) (fun h => hf (Kc.f h))
theorem ZX {b : Bool} {p q : Prop} [JO b p] [Kc b q] (hv : Hp f op = some (.bool b)) (ht : p → WL P n ops Q rest (updo f d (.bool true)) w) (hf : q → WL P n ops Q rest (updo f d (.bool false)) w)
  (hk : tt ops f ⟨d, op, ty, ps, af, g⟩ n = true := by exact rfl) : WL P n ops Q (⟨d, op, ty, ps, af, g⟩ :: rest) f w := Zx (lE hv) ht hf hk
theorem rz {q : Nat} {tys : Array TypeId} {ao : List Operand} {vs : List Value} (hc : dH P q = true) (hv : ao.map (dK f) = vs) :
  (execOp (dK f) ⟨d, .call ⟨.value (.func q), ao.toArray, tys⟩, ty, ps, af, g⟩).run P w = .ok (.enter q vs.toArray) w := jG (first := #[]) (cap := #[]) rfl hc (by simp [hv])
theorem ZC {q : Nat} {tys : Array TypeId} {ao : List Operand} {vs : List Value} {Post : Value → World → Prop} (hb : dH P q = true) (hc : Fn P q vs.toArray w Post) (hv : ao.map (dK f) = vs)
  (h : ∀ v w', eo w w' → Post v w' → WL P n ops Q rest (updo f d v) w') (hk : tt ops f ⟨d, .call ⟨.value (.func q), ao.toArray, tys⟩, ty, ps, af, g⟩ n = true := by exact rfl) :
  WL P n ops Q (⟨d, .call ⟨.value (.func q), ao.toArray, tys⟩, ty, ps, af, g⟩ :: rest) f w := pR (s7 hk) rfl (tk hk) (rz hb hv) hc h
theorem ZH {q : Nat} {tys : Array TypeId} {ao : List Operand} {vs : List Value} {Post : Value → World → Prop} (hb : dH P q = true) (hc : qr P q vs.toArray w Post) (hv : ao.map (dK f) = vs)
  (h : ∀ v w', Post v w' → WL P n ops Q rest (updo f d v) w') (hk : tt ops f ⟨d, .call ⟨.value (.func q), ao.toArray, tys⟩, ty, ps, af, g⟩ n = true := by exact rfl) :
  WL P n ops Q (⟨d, .call ⟨.value (.func q), ao.toArray, tys⟩, ty, ps, af, g⟩ :: rest) f w := mu (s7 hk) rfl (tk hk) (rz hb hv) hc h
end
section
variable {P : Program} {n : Nat} {ops : Array Oper} {Q : (Nat → Value) → World → Prop} {S : World → Prop} {f : Nat → Value} {w : World} {k : Nat} {L : Array Bool} {d : Option Nat} {op : Op} {ty : TypeId} {ps : String} {af : Array Edge} {g : Option (Nat × Bool)}
def Iw (ops : Array Oper) (L : Array Bool) (i : Nat) : Bool := Region.noSelect ops && Region.free .any ops L i && (Region.ready .any ops L).contains i
theorem G8 {i : Nat} (h : Iw ops L i = true) : Region.noSelect ops = true ∧ Region.free .any ops L i = true ∧ (Region.ready .any ops L).contains i = true := by
 unfold Iw at h
 rw [Bool.and_eq_true, Bool.and_eq_true] at h
 exact ⟨h.1.1, h.1.2, h.2⟩
theorem Tk (i : Nat) {v : Value} (hi : ops[i]? = some ⟨d, op, ty, ps, af, g⟩) (hv : ∀ w', S w' → (execOp (dK f) ⟨d, op, ty, ps, af, g⟩).run P w' = .ok (.value v) w') (hS : S w)
  (h : WT P n ops Q S k (L.setIfInBounds i true) (updo f d v) w) (hk : tt ops f ⟨d, op, ty, ps, af, g⟩ n = true := by exact rfl) (ht : Iw ops L i = true := by kernel_rfl) : WT P n ops Q S (k + 1) L f w :=
 have q := G8 ht
 xN i hi q.1 q.2.1 q.2.2 (s7 hk) rfl (tk hk) hv hS h
theorem Tw (i : Nat) (v : Value) (hi : ops[i]? = some ⟨d, op, ty, ps, af, g⟩) (hv : Hp f op = some v) (hS : S w)
  (h : WT P n ops Q S k (L.setIfInBounds i true) (updo f d v) w) (hk : tt ops f ⟨d, op, ty, ps, af, g⟩ n = true := by exact rfl) (ht : Iw ops L i = true := by kernel_rfl) : WT P n ops Q S (k + 1) L f w :=
 Tk i hi (fun _ _ => lE hv) hS h hk ht
theorem Ti (i : Nat) {q : IntKind} {z : Int} (hi : ops[i]? = some ⟨d, op, ty, ps, af, g⟩) (hv : Hp f op = some (.int q z)) (hS : S w)
  (h : WT P n ops Q S k (L.setIfInBounds i true) (updo f d (.int q z)) w) (hk : tt ops f ⟨d, op, ty, ps, af, g⟩ n = true := by exact rfl) (ht : Iw ops L i = true := by kernel_rfl) : WT P n ops Q S (k + 1) L f w :=
 Tk i hi (fun _ _ => lE hv) hS h hk ht
theorem Ty (i : Nat) {b : Bool} (hi : ops[i]? = some ⟨d, op, ty, ps, af, g⟩) (hv : Hp f op = some (.bool b)) (hS : S w)
  (h : WT P n ops Q S k (L.setIfInBounds i true) (updo f d (.bool b)) w) (hk : tt ops f ⟨d, op, ty, ps, af, g⟩ n = true := by exact rfl) (ht : Iw ops L i = true := by kernel_rfl) : WT P n ops Q S (k + 1) L f w :=
 Tk i hi (fun _ _ => lE hv) hS h hk ht
theorem Tq (i : Nat) {b o : Nat} (hi : ops[i]? = some ⟨d, op, ty, ps, af, g⟩) (hv : Hp f op = some (.pointer (some ⟨b, o, none⟩))) (hS : S w)
  (h : WT P n ops Q S k (L.setIfInBounds i true) (updo f d (.pointer (some ⟨b, o, none⟩))) w) (hk : tt ops f ⟨d, op, ty, ps, af, g⟩ n = true := by exact rfl) (ht : Iw ops L i = true := by kernel_rfl) : WT P n ops Q S (k + 1) L f w :=
 Tk i hi (fun _ _ => lE hv) hS h hk ht
theorem Tf (i : Nat) {x : Operand} {t : TypeId} {m q b o : Nat} (hi : ops[i]? = some ⟨d, .fieldAddr t x m, ty, ps, af, g⟩) (hx : dK f x = .pointer (some ⟨b, o, none⟩)) (hT : fw P t m = some q) (hS : S w)
  (h : WT P n ops Q S k (L.setIfInBounds i true) (updo f d (.pointer (some ⟨b, o + q, none⟩))) w) (hk : tt ops f ⟨d, .fieldAddr t x m, ty, ps, af, g⟩ n = true := by exact rfl) (ht : Iw ops L i = true := by kernel_rfl) : WT P n ops Q S (k + 1) L f w :=
 Tk i hi (fun _ _ => sZ hx hT) hS h hk ht
theorem Tc (i : Nat) {x : Operand} {a : Addr} (hi : ops[i]? = some ⟨d, .nilCheck x, ty, ps, af, g⟩) (hx : dK f x = .pointer (some a)) (hS : S w)
  (h : WT P n ops Q S k (L.setIfInBounds i true) (updo f d (.pointer (some a))) w) (hk : tt ops f ⟨d, .nilCheck x, ty, ps, af, g⟩ n = true := by exact rfl) (ht : Iw ops L i = true := by kernel_rfl) : WT P n ops Q S (k + 1) L f w :=
 Tk i hi (fun _ _ => pz hx) hS h hk ht
theorem Tp (i : Nat) (hi : ops[i]? = some ⟨d, op, ty, ps, af, g⟩) (hS : S w) (h : WT P n ops Q S k (L.setIfInBounds i true) (updo f d undef) w) (hk : O9 ops f ⟨d, op, ty, ps, af, g⟩ n = true := by exact rfl)
  (ht : Iw ops L i = true := by kernel_rfl) : WT P n ops Q S (k + 1) L f w :=
 have q := G8 ht
 JJ i hi q.1 q.2.1 q.2.2 (Lg hk) rfl (La hk) hS h
theorem Tx (i : Nat) {b : Bool} {p q : Prop} [JO b p] [Kc b q] (hi : ops[i]? = some ⟨d, op, ty, ps, af, g⟩) (hv : ∀ w', S w' → (execOp (dK f) ⟨d, op, ty, ps, af, g⟩).run P w' = .ok (.value (.bool b)) w') (hS : S w)
  (h1 : p → WT P n ops Q S k (L.setIfInBounds i true) (updo f d (.bool true)) w) (h0 : q → WT P n ops Q S k (L.setIfInBounds i true) (updo f d (.bool false)) w)
  (hk : tt ops f ⟨d, op, ty, ps, af, g⟩ n = true := by exact rfl) (ht : Iw ops L i = true := by kernel_rfl) : WT P n ops Q S (k + 1) L f w :=
 have q := G8 ht
 Gf i hi q.1 q.2.1 q.2.2 (s7 hk) rfl (tk hk) hv hS (fun e => h1 (JO.t e)) (fun e => h0 (Kc.f e))
theorem To (i : Nat) (hi : ops[i]? = some ⟨d, op, ty, ps, af, g⟩) (h : Yd P ⟨d, op, ty, ps, af, g⟩ f w fun v w' => (S w' ∨ mI ops L i = true) ∧ WT P n ops Q S k (L.setIfInBounds i true) (updo f d v) w')
  (hk : tt ops f ⟨d, op, ty, ps, af, g⟩ n = true := by exact rfl) (hr : Region.ready .any ops L = [i] := by kernel_rfl) : WT P n ops Q S (k + 1) L f w := qU i hr hi (s7 hk) rfl (tk hk) h
theorem Td (h : Q f w) (hr : Region.ready .any ops L = [] := by kernel_rfl) : WT P n ops Q S k L f w := JL hr h
theorem TC {q : Nat} {tys : Array TypeId} {ao : List Operand} {vs : List Value} {Post K : Value → World → Prop} (hb : dH P q = true) (hc : Fn P q vs.toArray w Post) (hv : ao.map (dK f) = vs)
  (h : ∀ v w', eo w w' → Post v w' → K v w') : Yd P ⟨d, .call ⟨.value (.func q), ao.toArray, tys⟩, ty, ps, af, g⟩ f w K := Yd.call (rz hb hv) hc h
theorem TG {q : Nat} {tys : Array TypeId} {ao : List Operand} {vs : List Value} {Post K : Value → World → Prop} (hb : dH P q = true) (hc : qr P q vs.toArray w Post) (hv : ao.map (dK f) = vs)
  (h : ∀ v w', Post v w' → K v w') : Yd P ⟨d, .call ⟨.value (.func q), ao.toArray, tys⟩, ty, ps, af, g⟩ f w K := Yd.callG (rz hb hv) hc h
end
section
variable {P : Program} {n : Nat} {Q : Exit → (Nat → Value) → World → Prop} {f : Nat → Value} {w : World}
theorem Dr {x y : Code} (h : WC P n x (uT (WC P n y Q) Q) f w) : WC P n (.seq x y) Q f w := by
 refine ⟨fun a ha => ?_⟩
 refine wp_seq (Code.wp_mono (fun e a' w' hq => ?_) (h.out a ha))
 obtain ⟨f', hr, hq⟩ := hq
 cases e with
 | normal => exact hq.out a' hr
 | _ => exact ⟨f', hr, hq⟩
theorem KE {σ : Type} (S : List Nat) (L : σ → List (Nat × Value)) (I0 : World → Prop) (h0 : I0 w) (I : σ → World → Prop) {x y : Code}
  (h1 : ∀ J : (Nat → Value) → World → Prop, (∀ f2 w2 s2, fv S f2 f → oL f2 (L s2) → I0 w2 → I s2 w2 → J f2 w2) → WC P n x (uT J Q) f w)
  (h2 : ∀ s g w1, I0 w1 → I s w1 → WC P n y Q (updL (L s) (mask S f g)) w1) : WC P n (.seq x y) Q f w :=
 cY fun K hK => h1 K fun f2 w2 s2 ha hl hk hi => hK _ _ (by rw [ub ha (L s2) hl]; exact h2 s2 f2 w2 hk hi)
theorem Zr {id : Nat} {l : List Oper} {y : Code} (h : WL P n l.toArray (fun f w => WC P n y Q f w) l f w) : WC P n (.seq (.region id l.toArray false) y) Q f w := Dr (cZ h)
theorem Zd (S : World → World → Prop) {id : Nat} {ops : Array Oper} {y : Code} (h : ∀ w1, eo w w1 → WT P n ops (fun f w => WC P n y Q f w) (S w1) ops.size (Array.replicate ops.size false) f w1) (hm : P.follows .mixedOrders = true := by kernel_rfl) :
  WC P n (.seq (.region id ops true) y) Q f w := Dr (gy S hm h)
end
class As (Q : Exit → (Nat → Value) → World → Prop) (Q' : outParam (Exit → (Nat → Value) → World → Prop)) : Prop where
 out : ∀ f w, Q' .ret f w → Q .ret f w
instance retQ_then {K : (Nat → Value) → World → Prop} {Q Q' : Exit → (Nat → Value) → World → Prop} [h : As Q Q'] : As (uT K Q) Q' := ⟨fun f w q => h.out f w q⟩
instance retQ_block {id : Nat} {Q Q' : Exit → (Nat → Value) → World → Prop} [h : As Q Q'] : As (qB id Q) Q' := ⟨fun f w q => h.out f w q⟩
instance retQ_body {P : Program} {rs : Array ResultVar} {Post : Value → World → Prop} : As (l5 P rs Post) (l5 P rs Post) := ⟨fun _ _ q => q⟩
theorem Zt {P : Program} {n : Nat} {Q Q' : Exit → (Nat → Value) → World → Prop} {f : Nat → Value} {w : World} [h : As Q Q'] (k : Q' .ret f w) : WC P n .ret Q f w := uS (h.out f w k)
theorem ZQ {P : Program} {n : Nat} {c : Operand} {x y : Code} {Q : Exit → (Nat → Value) → World → Prop} {f : Nat → Value} {w : World} {b : Bool} {p q : Prop} [JO b p] [Kc b q] (hc : dK f c = .bool b) (ht : p → WC P n x Q f w) (hf : q → WC P n y Q f w) : WC P n (.cond c x y) Q f w :=
 y5 hc (fun h => ht (JO.t h)) (fun h => hf (Kc.f h))
section
variable {a w w' : World} {b : Nat} {c : Array Value} {T : TypeId}
theorem Ze (h : Below a.heap.size a w) (k : eo w w') : Below a.heap.size a w' := dD h k (Nat.le_refl _)
theorem Zg (h : Below a.heap.size a w) (hg : w.grownBy w' (some b)) (lo : a.heap.size ≤ b) : Below a.heap.size a w' := du h hg (Nat.le_refl _) (fun j hj => by cases hj; exact lo)
theorem ZG {α : Type} {enc : α → List Value} {sz : Nat} {v : Value} {l : List α} (h : Below a.heap.size a w) (hg : w.grownBy w' v.ownBlock) (k : dh enc sz T w a.heap.size v l) : Below a.heap.size a w' := du h hg (Nat.le_refl _) (dh.lt k)
theorem ZO {N : Nat} (e : b = w.heap.size) (h : Below N a w) : a.heap.size ≤ b := e ▸ Below.size h
theorem Zn {b' : Nat} (e : b = w.heap.size) (h : b' < w.heap.size) : b' ≠ b := Nat.ne_of_lt (e ▸ h)
end
end
section
open Go Go.RowKit
theorem iv : Tryz.prog.follows .mixedOrders = true := by kernel_rfl
theorem F1 : dH Tryz.prog 93 = true := by kernel_rfl
theorem IG : dH Tryz.prog 94 = true := by kernel_rfl
theorem lI : E4 Tryz.prog 49 = some (4, 1) := by kernel_rfl
theorem lD : fl Tryz.prog 47 = true := by kernel_rfl
theorem eJ : eH Tryz.prog 49 = some (.agg #[.int .u64 0, .int .u64 0, .int .u64 0, .int .u64 0]) := by kernel_rfl
theorem db : kM Tryz.prog 49 = some 4 := by kernel_rfl
theorem Jf : dH Tryz.prog 130 = true := by kernel_rfl
theorem CJ : dH Tryz.prog 56 = true := by kernel_rfl
theorem Me : dH Tryz.prog 57 = true := by kernel_rfl
theorem Mu : dH Tryz.prog 98 = true := by kernel_rfl
theorem uL : dH Tryz.prog 64 = true := by kernel_rfl
theorem xt : (Tryz.prog.info? 47).map (·.size) = some 1 := by kernel_rfl
theorem gv {f : Nat → Value} {w : World} {d : Option Nat} {ty : TypeId} {ps : String} {af : Array Edge} {g : Option (Nat × Bool)}    :
    (execOp (dK f) ⟨d, .build 49 #[], ty, ps, af, g⟩).run Tryz.prog w = .ok (.value (.agg #[.int .u64 0, .int .u64 0, .int .u64 0, .int .u64 0])) w := by
  obtain ⟨i0, hi0, hz0⟩ := Option.bind_eq_some_iff.1 (show (Tryz.prog.info? 49).bind (·.zero) = _ from eJ)
  obtain ⟨j47, hj47, hs47⟩ := Option.map_eq_some_iff.1 xt
  simp [execOp, Instr.build, zeroValue, typeInfo, sizeOf, hi0, hz0, run_underlying Tryz.underlying49, Instr.fill, eW, hj47, hs47]
theorem rR {f : Nat → Value} {w : World} {d : Option Nat} {ty t2 : TypeId} {ps : String} {af : Array Edge} {g : Option (Nat × Bool)} {x y : Operand} {a0 a1 a2 a3 b0 b1 b2 b3 : Int} (hx : dK f x = .agg #[.int .u64 a0, .int .u64 a1, .int .u64 a2, .int .u64 a3]) (hy : dK f y = .agg #[.int .u64 b0, .int .u64 b1, .int .u64 b2, .int .u64 b3]) :
    (execOp (dK f) ⟨d, .binOp .eql 49 x y t2, ty, ps, af, g⟩).run Tryz.prog w = .ok (.value (.bool (decide ((a0 = b0 ∧ a1 = b1 ∧ a2 = b2 ∧ a3 = b3))))) w := by
  have hg : Tryz.prog.eqGuardType Tryz.prog.depth 49 = false := by kernel_rfl
  have ha := ob (P := Tryz.prog) w 9999 4 49 47 #[.int .u64 a0, .int .u64 a1, .int .u64 a2, .int .u64 a3] #[.int .u64 b0, .int .u64 b1, .int .u64 b2, .int .u64 b3]
    (fun i => .int .u64 ([a0, a1, a2, a3].getD i 0)) (fun i => .int .u64 ([b0, b1, b2, b3].getD i 0)) (fun i => [a0, a1, a2, a3].getD i 0 == [b0, b1, b2, b3].getD i 0) Tryz.underlying49 (by kernel_rfl) (by simp [isAgg, run_underlying Tryz.underlying47])
    (fun i hi => by
      have : i = 0 ∨ i = 1 ∨ i = 2 ∨ i = 3 := by omega
      rcases this with rfl | rfl | rfl | rfl <;> rfl)
    (fun i hi => by
      have : i = 0 ∨ i = 1 ∨ i = 2 ∨ i = 3 := by omega
      rcases this with rfl | rfl | rfl | rfl <;> rfl)
    (fun i hi => run_equalIn_int w 9998 47 .u64 .u64 _ _ Tryz.underlying47)
  simp only [execOp, hx, hy, Sem.run_bind, run_eqGuard_agg _ _ _ _ _ _ _ hg, Result.andThen_ok, run_eql_struct, ha]
  simp [List.range, List.range.loop]
  by_cases q0 : a0 = b0 <;> by_cases q1 : a1 = b1 <;> by_cases q2 : a2 = b2 <;> by_cases q3 : a3 = b3 <;> simp [q0, q1, q2, q3]
theorem uB : dH Tryz.prog 55 = true := by kernel_rfl
theorem FC : dH Tryz.prog 69 = true := by kernel_rfl
theorem dw : fI Tryz.prog 80 = some (3, 1, 8) := by kernel_rfl
theorem fR : (eH Tryz.prog 3).map (fun z => z.cells.size) = some 1 := by kernel_rfl
theorem ur : dH Tryz.prog 58 = true := by kernel_rfl
theorem dC : fl Tryz.prog 3 = true := by kernel_rfl
theorem wP (p : Int) (w : World) :
    Fn Tryz.prog 93 #[.int .i64 p] w fun v w' => v = .bool (mh p) := by
 refine dr (n := 9) Tryz.func93 rfl rfl (Nat.le_of_ble_eq_true rfl) ?_
 have hB : Below w.heap.size w w := Below.refl _ _
 refine Zr <| Zw (.bool false) rfl <| cT <| Zr <| Zi rfl <| Zv (ol rfl rfl) <| ZX rfl (fun a => ?_) fun a => ?_
 refine Zi rfl <| Zv (dP rfl rfl) <| Zb rfl <| Zb rfl <| cT <| Zt <| dL (v := .bool _) rfl ⟨hB, ?_⟩
 simp [mh]; omega
 refine Zs <| Zs <| Zw (.bool false) rfl <| Zw (.bool false) rfl <| cT <| Zt <| dL (v := .bool false) rfl ⟨hB, ?_⟩
 simp [mh]; omega
theorem AR (p : Int) (w : World) (h0 : 0 ≤ p) (h1 : p < 256) :
    Fn Tryz.prog 94 #[.int .i64 p] w fun v w' => v = .tuple #[.int .i64 ((p.toNat / 64 : Nat) : Int), .int .u64 ((2 ^ (p.toNat % 64) : Nat) : Int)] := by
 refine dr (n := 9) Tryz.func94 rfl rfl (Nat.le_of_ble_eq_true rfl) ?_
 have hB : Below w.heap.size w w := Below.refl _ _
 obtain ⟨q, rfl⟩ := Int.eq_ofNat_of_zero_le h0
 have hq : q < 256 := by omega
 refine Zr <| Zw (.int .i64 0) rfl <| Zw (.int .u64 0) rfl <| cT <| Zd eo fun W5 a => ?_
 replace hB := Ze hB a
 have hS := eo.refl W5
 refine Ti 0 rfl rfl hS <| Tk 1 rfl (fun _ _ => Gl (n := 64) rfl rfl rfl Om (by first | assumption | (simp only [ek]; omega) | (simp only [ek]; decide))) hS <| Ti 2 rfl rfl hS <| Tk 3 rfl (fun _ _ => Ht (n := 64) rfl rfl rfl Om) hS <| Tk 4 rfl (fun _ _ => jv (m := 1) rfl rfl Om (by simp only [IntKind.bits]; omega) (by exact ri _ _ (by simp only [ls]; omega))) hS <| Ti 5 rfl rfl hS <| Ti 6 rfl rfl hS <| Td <| Zt <| dZ (v := .int .i64 _) rfl (v1 := .int .u64 _) rfl ⟨hB, ?_⟩
 have e : ((q : Int) % 64).toNat = q % 64 := by omega
 simp [e]
theorem xn (s : Nat) (p : Int) (w : World) :
    Fn Tryz.prog 69 #[eM s, .int .i64 p] w fun v w' => v = .bool (wn s p) := by
 refine dr (n := 21) Tryz.func69 rfl rfl (Nat.le_of_ble_eq_true rfl) ?_
 have hB : Below w.heap.size w w := Below.refl _ _
 refine Zr <| Zy (dW (c := #[_, _, _, _]) rfl rfl fun k W3 d g b => ?_)
 have l := ZO d hB
 clear d
 replace hB := Ze hB g
 refine Zw (.bool false) rfl <| cT <| cY fun K6 h => Zr <| Zi rfl <| ZC F1 (wP _ _) rfl fun m o e i => ?_
 replace hB := Ze hB e
 replace b := e.at b
 obtain rfl := i
 refine Zv (fJ rfl) <| cT <| ZQ rfl (fun a => ?_) fun a => ?_
 refine Zr <| Zw (.bool false) rfl <| cT <| Zt <| dL (v := .bool false) rfl ⟨hB, ?_⟩
 first | exact congrArg Value.bool (wL hq) | (simp at a; simp [wn, a])
 refine c7 <| h _ _ <| Zr <| Zi rfl <| ZC IG (AR _ _ (by simp [mh] at a; omega) (by simp [mh] at a; omega)) rfl fun r t f j => ?_
 replace hB := Ze hB f
 replace b := f.at b
 obtain rfl := j
 obtain ⟨q, rfl⟩ := Int.eq_ofNat_of_zero_le (show 0 ≤ p by simp [mh] at a; omega)
 have hq : q < 256 := by simp [mh] at a; omega
 simp only [Int.toNat_natCast]
 refine Zw (.tuple #[.int .i64 _, .int .u64 _]) rfl <| Zv (dF rfl) <| Zv (dG rfl) <| Zi rfl <| Zi rfl <| cT <| Zr <| Zi rfl <| Zv (eY rfl rfl lI Om Om) <| Zv (dm (v := wv s _) rfl lD (At.cell b (nA s _ Om))) <| Zi rfl <| Zv (ng (n := _) rfl rfl rfl (by exact BF _ _) (by rw [← Nat.one_mul (2 ^ _)]; exact ri _ _ (by simp only [ls]; omega))) <| Zv (i4 rfl rfl) <| Zb rfl ?_
 refine cT <| Zt <| dL (v := .bool _) rfl ⟨hB, ?_⟩
 first | exact congrArg Value.bool (wL hq) | (simp at a; simp [wn, a])
theorem l4 (s : Nat) (p : Int) (w : World) :
    Fn Tryz.prog 55 #[eM s, .int .i64 p] w fun v w' => v = eM (ky s p) := by
 refine dr (n := 21) Tryz.func55 rfl rfl (Nat.le_of_ble_eq_true rfl) ?_
 have hB : Below w.heap.size w w := Below.refl _ _
 refine Zr <| Zy (dW (c := #[_, _, _, _]) rfl rfl fun D W3 i t a => ?_)
 have u := ZO i hB
 clear i
 replace hB := Ze hB t
 refine Zy (dp eJ rfl fun x W6 e j b => ?_)
 have k := ZO e hB
 have f := Zn e a.lt
 clear e
 replace hB := Ze hB j
 replace a := j.at a
 replace b : At W6 x #[wv 0 0, wv 0 1, wv 0 2, wv 0 3] 49 := b
 refine cT <| cY fun K9 l => Zr <| Zi rfl <| ZC F1 (wP _ _) rfl fun E F g y => ?_
 replace hB := Ze hB g
 replace a := g.at a
 replace b := g.at b
 obtain rfl := y
 refine cT <| ZQ rfl (fun d => ?_) fun d => ?_
 refine Zr <| Zi rfl <| ZC IG (AR _ _ (by simp [mh] at d; omega) (by simp [mh] at d; omega)) rfl fun G H h z => ?_
 replace hB := Ze hB h
 replace a := h.at a
 replace b := h.at b
 obtain rfl := z
 obtain ⟨q, rfl⟩ := Int.eq_ofNat_of_zero_le (show 0 ≤ p by simp [mh] at d; omega)
 have hq : q < 256 := by simp [mh] at d; omega
 simp only [Int.toNat_natCast]
 refine Zw (.tuple #[.int .i64 _, .int .u64 _]) rfl <| Zv (dF rfl) <| Zv (dG rfl) <| Zi rfl <| Zi rfl <| cT <| cZ <| Zi rfl <| Zv (eY rfl rfl lI Om Om) <| Zv (dm (v := wv s _) rfl lD (At.cell a (nA s _ Om))) <| Zi rfl <| Zv (B4 (n := _) rfl rfl rfl (by exact BF _ _) (by rw [← Nat.one_mul (2 ^ _)]; exact ri _ _ (by simp only [ls]; omega))) <| Zv (eY rfl rfl lI Om Om) <| Zy (eA (v := .int .u64 _) rfl rfl lD rfl a (by simp; omega) fun I m A => ?_)
 replace hB := Zg hB m u
 replace b := At.grownNe b (Ne.symm f) m
 replace a := A
 rw [A7 (s' := ky s q) (by omega) (zE hq)] at a
 refine cT <| l _ _ <| Zr <| Zv (da rfl db rfl a) <| Zy (df rfl rfl db rfl b rfl rfl fun J o B => ?_)
 replace hB := Zg hB o k
 replace a := At.grownNe a f o
 replace b := B
 refine cT <| Zt <| jS rfl db b rfl ⟨hB, ?_⟩
 first | rfl | (simp [ky, d])
 refine c7 <| l _ _ <| Zr <| Zv (da rfl db rfl a) <| Zy (df rfl rfl db rfl b rfl rfl fun K r C => ?_)
 replace hB := Zg hB r k
 replace a := At.grownNe a f r
 replace b := C
 refine cT <| Zt <| jS rfl db b rfl ⟨hB, ?_⟩
 first | rfl | (simp [ky, d])
theorem qT (s t q : Nat) (op : Nat → Nat → Nat) (w : World) (hq : dH Tryz.prog q = true) (hdo : ∀ (x y : Nat) (w : World), x < 18446744073709551616 → y < 18446744073709551616 → Fn Tryz.prog q #[.int .u64 (x : Int), .int .u64 (y : Int)] w fun v w' => v = .int .u64 ((op x y : Nat) : Int)) :
    Fn Tryz.prog 56 #[eM s, eM t, .func (.func q) #[] #[]] w fun v w' => v = .agg (Cj op s t 4) := by
 refine dr (n := 24) Tryz.func56 rfl rfl (Nat.le_of_ble_eq_true rfl) ?_
 have hB : Below w.heap.size w w := Below.refl _ _
 refine Zr <| Zy (dW (c := #[_, _, _, _]) rfl rfl fun C W3 r D a => ?_)
 have V := ZO r hB
 clear r
 replace hB := Ze hB D
 refine Zy (dW (c := #[_, _, _, _]) rfl rfl fun E W6 o u b => ?_)
 have X := ZO o hB
 have Y := Zn o a.lt
 clear o
 replace hB := Ze hB u
 replace a := u.at a
 refine Zy (dp eJ rfl fun z W9 i p d => ?_)
 have F := ZO i hB
 have G := Zn i a.lt
 have H := Zn i b.lt
 clear i
 replace hB := Ze hB p
 replace a := p.at a
 replace b := p.at b
 replace d : At W9 z #[wv 0 0, wv 0 1, wv 0 2, wv 0 3] 49 := d
 refine cT <| Zr <| Zy (dp eJ rfl fun A I g j e => ?_)
 have J := ZO g hB
 have K := Zn g a.lt
 have L := Zn g b.lt
 have B := Zn g d.lt
 clear g
 replace hB := Ze hB j
 replace a := j.at a
 replace b := j.at b
 replace d := j.at d
 replace e : At I A #[wv 0 0, wv 0 1, wv 0 2, wv 0 3] 49 := e
 refine cT <| cY fun Z M => Zr <| Zw (.int .i64 0) rfl <| cT <| c9 ?_
 refine dy (σ := (Nat)) [8, 9, 10, 11, 12, 13, 14, 15, 16, 17, 18, 19, 20, 21, 22] (fun k => [(9, .int .i64 (k : Int))]) (fun k W => (Below w.heap.size w W) ∧ (At W C _ 49) ∧ (At W E _ 49) ∧ (At W z _ 49) ∧ (At W A (Cj op s t k) 49) ∧ (k ≤ 4) ∧ (True)) (fun k => 4 - k) (0) ⟨rfl, trivial⟩ ⟨hB, a, b, d, e, Om, trivial⟩ ?_
 clear hB a b d e
 rintro k aa ab ⟨hB, a, b, d, e, hk, _⟩ ac N
 refine Zr <| Zv (dP rfl rfl) <| cT <| cY fun ad O => ZQ rfl (fun P => ?_) fun P => ?_
 refine c7 <| O _ _ <| cY fun ae Q => c9 <| Zr <| Zi rfl <| Zi rfl <| cT ?_
 refine gy eo iv (fun R h => ?_)
 replace hB := Ze hB h
 replace a := h.at a
 replace b := h.at b
 replace d := h.at d
 replace e := h.at e
 have hS := eo.refl R
 refine Ti 0 rfl rfl hS <| Tw 1 (.func (.func q) #[] #[]) rfl rfl hS <| Ti 2 rfl rfl hS <| Tk 3 rfl (fun _ _ => eY rfl rfl lI Om Om) hS <| Tk 4 rfl (fun _ hq => dm (v := .int .u64 _) rfl lD (At.cell (hq.at a) (nA s k Om))) hS <| Ti 5 rfl rfl hS <| Tk 6 rfl (fun _ _ => eY rfl rfl lI Om Om) hS <| Tk 7 rfl (fun _ hq => dm (v := .int .u64 _) rfl lD (At.cell (hq.at b) (nA t k Om))) hS <| To 8 rfl (Yd.call (vQ (q := q) rfl hq (v0 := .int .u64 _) rfl (v1 := .int .u64 _) rfl) (hdo _ _ _ (sV _ _) (sV _ _)) fun af ag f S => ⟨.inl (hS.trans f), ?_⟩)
 replace hB := Ze hB f
 replace a := f.at a
 replace b := f.at b
 replace d := f.at d
 replace e := f.at e
 replace hS := hS.trans f
 obtain rfl := S
 refine Tk 9 rfl (fun _ _ => eY rfl rfl lI Om Om) hS <| To 10 rfl (eA (v := .int .u64 _) rfl rfl lD rfl e (by simp [ES]; omega) fun ah l T => ⟨.inr (by kernel_rfl), ?_⟩)
 replace hB := Zg hB l J
 replace a := At.grownNe a K l
 replace b := At.grownNe b L l
 replace d := At.grownNe d B l
 replace e := T
 rw [HJ op s t k (by omega)] at e
 refine Td <| Q _ _ <| cZ <| Zv (dq rfl rfl Om Om) <| Zi rfl <| cT ?_
 exact N _ _ (k + 1) Za ⟨rfl, trivial⟩ ⟨hB, a, b, d, e, Om, trivial⟩ Zo
 refine dt <| M _ _ <| Zr <| Zv (da rfl db rfl e) <| Zy (df rfl rfl db rfl d rfl rfl fun ai m U => ?_)
 replace hB := Zg hB m F
 replace a := At.grownNe a G m
 replace b := At.grownNe b H m
 replace e := At.grownNe e (Ne.symm B) m
 replace d := U
 refine cT <| Zt <| jS rfl db d rfl ⟨hB, ?_⟩
 obtain rfl : k = 4 := by omega
 rfl
theorem B8 (x y : Nat) (w : World) (hx : x < 18446744073709551616) (hy : y < 18446744073709551616) :
    Fn Tryz.prog 130 #[.int .u64 (x : Int), .int .u64 (y : Int)] w fun v w' => v = .int .u64 ((x ||| y : Nat) : Int) := by
 refine dr (n := 8) Tryz.func130 rfl rfl (Nat.le_of_ble_eq_true rfl) ?_
 have hB : Below w.heap.size w w := Below.refl _ _
 refine Zr <| Zw (.int .u64 0) rfl <| cT <| Zr <| Zi rfl <| Zi rfl <| Zv (B4 (n := _) rfl rfl rfl (by first | assumption | (simp only [ek]; omega) | (simp only [ek]; decide)) (by first | assumption | (simp only [ek]; omega) | (simp only [ek]; decide))) <| Zi rfl <| cT <| Zt <| dL (v := .int .u64 _) rfl ⟨hB, ?_⟩
 rfl
theorem rb (s t : Nat) (w : World) :
    Fn Tryz.prog 114 #[eM s, eM t] w fun v w' => v = eM (s ||| t) := by
 refine dr (n := 8) Tryz.func114 rfl rfl (Nat.le_of_ble_eq_true rfl) ?_
 have hB : Below w.heap.size w w := Below.refl _ _
 refine Zr <| Zy (dW (c := #[_, _, _, _]) rfl rfl fun B W3 k o a => ?_)
 have C := ZO k hB
 clear k
 replace hB := Ze hB o
 refine Zy (dW (c := #[_, _, _, _]) rfl rfl fun D W6 g l b => ?_)
 have E := ZO g hB
 have F := Zn g a.lt
 clear g
 replace hB := Ze hB l
 replace a := l.at a
 refine Zy (dp eJ rfl fun p W9 e h d => ?_)
 have q := ZO e hB
 have u := Zn e a.lt
 have z := Zn e b.lt
 clear e
 replace hB := Ze hB h
 replace a := h.at a
 replace b := h.at b
 replace d : At W9 p #[wv 0 0, wv 0 1, wv 0 2, wv 0 3] 49 := d
 refine cT <| Zr <| Zv (da rfl db rfl a) <| Zv (da rfl db rfl b) <| ZC (vs := [.agg #[_, _, _, _], .agg #[_, _, _, _], .func (.func 130) #[] #[]]) CJ (qT s t 130 (fun x y => x ||| y) _ Jf (fun x y w hx hy => B8 x y w hx hy)) rfl fun G H f m => ?_
 replace hB := Ze hB f
 replace a := f.at a
 replace b := f.at b
 replace d := f.at d
 rw [vB (r := s ||| t) (fun j => Lv s t j)] at m
 obtain rfl := m
 refine Zy (df rfl rfl db rfl d rfl rfl fun I i A => ?_)
 replace hB := Zg hB i q
 replace a := At.grownNe a u i
 replace b := At.grownNe b z i
 replace d := A
 refine cT <| Zt <| jS rfl db d rfl ⟨hB, ?_⟩
 rfl
theorem Bg (x y : Nat) (w : World) (hx : x < 18446744073709551616) (hy : y < 18446744073709551616) :
    Fn Tryz.prog 57 #[.int .u64 (x : Int), .int .u64 (y : Int)] w fun v w' => v = .int .u64 ((x &&& y : Nat) : Int) := by
 refine dr (n := 8) Tryz.func57 rfl rfl (Nat.le_of_ble_eq_true rfl) ?_
 have hB : Below w.heap.size w w := Below.refl _ _
 refine Zr <| Zw (.int .u64 0) rfl <| cT <| Zr <| Zi rfl <| Zi rfl <| Zv (ng (n := _) rfl rfl rfl (by first | assumption | (simp only [ek]; omega) | (simp only [ek]; decide)) (by first | assumption | (simp only [ek]; omega) | (simp only [ek]; decide))) <| Zi rfl <| cT <| Zt <| dL (v := .int .u64 _) rfl ⟨hB, ?_⟩
 rfl
theorem pO (s t : Nat) (w : World) :
    Fn Tryz.prog 34 #[eM s, eM t] w fun v w' => v = eM (s &&& t) := by
 refine dr (n := 8) Tryz.func34 rfl rfl (Nat.le_of_ble_eq_true rfl) ?_
 have hB : Below w.heap.size w w := Below.refl _ _
 refine Zr <| Zy (dW (c := #[_, _, _, _]) rfl rfl fun B W3 k o a => ?_)
 have C := ZO k hB
 clear k
 replace hB := Ze hB o
 refine Zy (dW (c := #[_, _, _, _]) rfl rfl fun D W6 g l b => ?_)
 have E := ZO g hB
 have F := Zn g a.lt
 clear g
 replace hB := Ze hB l
 replace a := l.at a
 refine Zy (dp eJ rfl fun p W9 e h d => ?_)
 have q := ZO e hB
 have u := Zn e a.lt
 have z := Zn e b.lt
 clear e
 replace hB := Ze hB h
 replace a := h.at a
 replace b := h.at b
 replace d : At W9 p #[wv 0 0, wv 0 1, wv 0 2, wv 0 3] 49 := d
 refine cT <| Zr <| Zv (da rfl db rfl a) <| Zv (da rfl db rfl b) <| ZC (vs := [.agg #[_, _, _, _], .agg #[_, _, _, _], .func (.func 57) #[] #[]]) CJ (qT s t 57 (fun x y => x &&& y) _ Me (fun x y w hx hy => Bg x y w hx hy)) rfl fun G H f m => ?_
 replace hB := Ze hB f
 replace a := f.at a
 replace b := f.at b
 replace d := f.at d
 rw [vB (r := s &&& t) (fun j => Nr s t j)] at m
 obtain rfl := m
 refine Zy (df rfl rfl db rfl d rfl rfl fun I i A => ?_)
 replace hB := Zg hB i q
 replace a := At.grownNe a u i
 replace b := At.grownNe b z i
 replace d := A
 refine cT <| Zt <| jS rfl db d rfl ⟨hB, ?_⟩
 rfl
theorem yl (x y : Nat) (w : World) (hx : x < 18446744073709551616) (hy : y < 18446744073709551616) :
    Fn Tryz.prog 98 #[.int .u64 (x : Int), .int .u64 (y : Int)] w fun v w' => v = .int .u64 ((andNot x y : Nat) : Int) := by
 refine dr (n := 8) Tryz.func98 rfl rfl (Nat.le_of_ble_eq_true rfl) ?_
 have hB : Below w.heap.size w w := Below.refl _ _
 refine Zr <| Zw (.int .u64 0) rfl <| cT <| Zr <| Zi rfl <| Zi rfl <| Zv (pr (n := _) rfl rfl rfl (by first | assumption | (simp only [ek]; omega) | (simp only [ek]; decide)) (by first | assumption | (simp only [ek]; omega) | (simp only [ek]; decide))) <| Zi rfl <| cT <| Zt <| dL (v := .int .u64 _) rfl ⟨hB, ?_⟩
 rfl
theorem lY (s t : Nat) (w : World) :
    Fn Tryz.prog 64 #[eM s, eM t] w fun v w' => v = eM (andNot s t) := by
 refine dr (n := 8) Tryz.func64 rfl rfl (Nat.le_of_ble_eq_true rfl) ?_
 have hB : Below w.heap.size w w := Below.refl _ _
 refine Zr <| Zy (dW (c := #[_, _, _, _]) rfl rfl fun B W3 k o a => ?_)
 have C := ZO k hB
 clear k
 replace hB := Ze hB o
 refine Zy (dW (c := #[_, _, _, _]) rfl rfl fun D W6 g l b => ?_)
 have E := ZO g hB
 have F := Zn g a.lt
 clear g
 replace hB := Ze hB l
 replace a := l.at a
 refine Zy (dp eJ rfl fun p W9 e h d => ?_)
 have q := ZO e hB
 have u := Zn e a.lt
 have z := Zn e b.lt
 clear e
 replace hB := Ze hB h
 replace a := h.at a
 replace b := h.at b
 replace d : At W9 p #[wv 0 0, wv 0 1, wv 0 2, wv 0 3] 49 := d
 refine cT <| Zr <| Zv (da rfl db rfl a) <| Zv (da rfl db rfl b) <| ZC (vs := [.agg #[_, _, _, _], .agg #[_, _, _, _], .func (.func 98) #[] #[]]) CJ (qT s t 98 (fun x y => andNot x y) _ Mu (fun x y w hx hy => yl x y w hx hy)) rfl fun G H f m => ?_
 replace hB := Ze hB f
 replace a := f.at a
 replace b := f.at b
 replace d := f.at d
 rw [vB (r := andNot s t) (fun j => Fs s t j)] at m
 obtain rfl := m
 refine Zy (df rfl rfl db rfl d rfl rfl fun I i A => ?_)
 replace hB := Zg hB i q
 replace a := At.grownNe a u i
 replace b := At.grownNe b z i
 replace d := A
 refine cT <| Zt <| jS rfl db d rfl ⟨hB, ?_⟩
 rfl
theorem ib (s t : Nat) (w : World) :
    Fn Tryz.prog 41 #[eM s, eM t] w fun v w' => v = .bool (ee s t) := by
 refine dr (n := 10) Tryz.func41 rfl rfl (Nat.le_of_ble_eq_true rfl) ?_
 have hB : Below w.heap.size w w := Below.refl _ _
 refine Zr <| Zy (dW (c := #[_, _, _, _]) rfl rfl fun j W3 f h a => ?_)
 have k := ZO f hB
 clear f
 replace hB := Ze hB h
 refine Zy (dW (c := #[_, _, _, _]) rfl rfl fun l W6 b g d => ?_)
 have m := ZO b hB
 have o := Zn b a.lt
 clear b
 replace hB := Ze hB g
 replace a := g.at a
 refine Zw (.bool false) rfl <| cT <| Zr <| Zv (da rfl db rfl a) <| Zv (da rfl db rfl d) <| ZC (vs := [.agg #[_, _, _, _], .agg #[_, _, _, _]]) uL (lY _ _ _) rfl fun p q e i => ?_
 replace hB := Ze hB e
 replace a := e.at a
 replace d := e.at d
 obtain rfl := i
 refine Zv (v := eM 0) (gv ) <| Zv (rR rfl rfl) <| Zb rfl <| cT <| Zt <| dL (v := .bool _) rfl ⟨hB, ?_⟩
 simp [ee, JA]
theorem nc (n : Int) (w : World) :
    Fn Tryz.prog 33 #[.int .i64 n] w fun v w' => v = if 0 ≤ n ∧ n ≤ 8 then .tuple #[eM (fh n.toNat), .int .i64 0] else .tuple #[eM 0, .int .i64 1] := by
 refine dr (n := 23) Tryz.func33 rfl rfl (Nat.le_of_ble_eq_true rfl) ?_
 have hB : Below w.heap.size w w := Below.refl _ _
 refine Zr <| Zy (dp eJ rfl fun g W3 h q a => ?_)
 have d := ZO h hB
 clear h
 replace hB := Ze hB q
 replace a : At W3 g #[wv 0 0, wv 0 1, wv 0 2, wv 0 3] 49 := a
 refine Zw (.int .i64 0) rfl <| cT <| cY fun K6 r => Zr <| Zi rfl <| Zv (dP rfl rfl) <| ZX rfl (fun s => ?_) fun s => ?_
 refine Zs <| Zs <| Zw (.bool true) rfl <| cT <| dz rfl <| Zr <| Zv (v := eM 0) (gv ) <| Zy (df rfl rfl db rfl a rfl rfl fun J t u => ?_)
 replace hB := Zg hB t d
 replace a := u
 refine Zw (.int .i64 1) rfl <| cT <| Zt <| fj rfl db a rfl (v1 := .int .i64 1) rfl ⟨hB, ?_⟩
 rw [if_neg (by omega)]
 refine Zi rfl <| Zv (i4 rfl rfl) <| Zb rfl <| cT <| ZQ rfl (fun x => ?_) fun x => ?_
 refine Zr <| Zv (v := eM 0) (gv ) <| Zy (df rfl rfl db rfl a rfl rfl fun K y z => ?_)
 replace hB := Zg hB y d
 replace a := z
 refine Zw (.int .i64 1) rfl <| cT <| Zt <| fj rfl db a rfl (v1 := .int .i64 1) rfl ⟨hB, ?_⟩
 rw [if_neg (by omega)]
 refine c7 <| r _ _ ?_
 have hn : 0 ≤ n ∧ n ≤ 8 := by omega
 refine Zr <| Zy (dp eJ rfl fun i A e j b => ?_)
 have B := ZO e hB
 have l := Zn e a.lt
 clear e
 replace hB := Ze hB j
 replace a := j.at a
 replace b : At A i #[wv 0 0, wv 0 1, wv 0 2, wv 0 3] 49 := b
 refine cT <| cY fun L C => ?_
 have hp := fo hn.2
 refine Zr <| Zi rfl <| Zv (jv (m := 1) rfl rfl Om (by simp only [IntKind.bits]; omega) (by exact ri _ _ (by simp only [ls]; omega))) <| Zw (.int .i64 0) rfl <| cT <| c9 ?_
 refine dy (σ := (Nat)) [5, 15, 16, 17, 18, 19, 20, 21] (fun k => [(15, .int .i64 (k : Int))]) (fun k W => (Below w.heap.size w W) ∧ (At W g _ 49) ∧ (At W i #[wv (pj k) 0, wv (pj k) 1, wv (pj k) 2, wv (pj k) 3] 49) ∧ (k ≤ 2 ^ n.toNat) ∧ (True)) (fun k => 2 ^ n.toNat - k) (0) ⟨rfl, trivial⟩ ⟨hB, a, b, (Nat.zero_le _), trivial⟩ ?_
 clear hB a b
 rintro k M N ⟨hB, a, b, hk, _⟩ O D
 refine Zr <| Zv (dP rfl rfl) <| cT <| cY fun P E => ZQ rfl (fun c => ?_) fun c => ?_
 refine c7 <| E _ _ <| cY fun Q F => c9 <| Zr <| Zi rfl <| Zi rfl <| cT <| cZ <| Zv (da rfl db rfl b) <| Zi rfl <| ZC (vs := [.agg #[_, _, _, _], .int .i64 _]) uB (l4 _ _ _) rfl fun R S f G => ?_
 replace hB := Ze hB f
 replace a := f.at a
 replace b := f.at b
 obtain rfl := G
 rw [yi (by simp only [Nat.one_mul] at c; omega)]
 refine Zy (df rfl rfl db rfl b rfl rfl fun T o H => ?_)
 replace hB := Zg hB o B
 replace a := At.grownNe a l o
 replace b := H
 refine cT <| F _ _ <| cZ <| Zv (dq rfl rfl Om Om) <| Zi rfl <| cT ?_
 exact D _ _ (k + 1) Za ⟨rfl, trivial⟩ ⟨hB, a, b, (by simp only [Nat.one_mul] at c; omega), trivial⟩ (by simp only [Nat.one_mul] at c; omega)
 refine dt <| C _ _ <| Zr <| Zv (da rfl db rfl b) <| Zy (df rfl rfl db rfl a rfl rfl fun U p I => ?_)
 replace hB := Zg hB p d
 replace b := At.grownNe b (Ne.symm l) p
 replace a := I
 refine Zw (.int .i64 0) rfl <| cT <| Zt <| fj rfl db a rfl (v1 := .int .i64 0) rfl ⟨hB, ?_⟩
 obtain rfl : k = 2 ^ n.toNat := by simp only [Nat.one_mul] at c; omega
 rw [if_pos hn]; rfl
theorem md (s : Nat) (w : World) :
    Fn Tryz.prog 58 #[eM s] w fun v w' => dh eb 1 3 w' w.heap.size v (ef s) := by
 refine dr (n := 17) Tryz.func58 rfl rfl (Nat.le_of_ble_eq_true rfl) ?_
 have hB : Below w.heap.size w w := Below.refl _ _
 refine Zr <| Zy (dW (c := #[_, _, _, _]) rfl rfl fun q W3 i r a => ?_)
 have C := ZO i hB
 clear i
 replace hB := Ze hB r
 refine Zw (.slice none 0 0) rfl <| cT <| Zr <| Zw (.slice none 0 0) rfl <| cT <| cY fun K8 t => Zr <| Zw (.int .i64 0) rfl <| cT <| c9 ?_
 refine dy (σ := (Nat) × (Value)) [3, 4, 5, 6, 7, 8, 9, 10, 11, 12, 13, 14, 15] (fun (k, v0) => [(5, .int .i64 (k : Int)), (3, v0)]) (fun sg W => match sg with | (k, v0) => (Below w.heap.size w W) ∧ (At W q _ 49) ∧ (dh eb 1 3 W w.heap.size v0 (qH s k)) ∧ (k ≤ 256) ∧ (True)) (fun (k, v0) => 256 - k) ((0, .slice none 0 0)) ⟨rfl, rfl, trivial⟩ ⟨hB, a, dh.nil, Om, trivial⟩ ?_
 clear hB a
 rintro ⟨k, v0⟩ D E ⟨hB, a, ho, hk, _⟩ F j
 refine Zr <| Zv (dP rfl rfl) <| cT <| cY fun G y => ZQ rfl (fun z => ?_) fun z => ?_
 refine c7 <| y _ _ <| cY fun H l => c9 <| Zr <| Zi rfl <| Zi rfl <| cT <| Zr <| Zv (da rfl db rfl a) <| Zi rfl <| ZC (vs := [.agg #[_, _, _, _], .int .i64 _]) FC (xn _ _ _) rfl fun I J f A => ?_
 replace hB := Ze hB f
 replace a := f.at a
 replace ho := f.ow ho
 obtain rfl := A
 refine cT <| ZQ rfl (fun d => ?_) fun d => ?_
 refine cZ <| Zw v0 rfl <| Zi rfl <| Zy (fp (u := .int .i64 _) rfl dw fR rfl Dd Dd fun m K g h B => ?_)
 have L := ZO g hB
 have M := dh.neB (b := m) ho (Nat.le_of_eq g.symm)
 clear g
 replace hB := Ze hB h
 replace a := h.at a
 replace ho := h.ow ho
 refine Zy (eB (v := v0) (v2 := .slice (some ⟨m, 0, none⟩) 1 1) rfl rfl dw fR Dd ho (fP B rfl) rfl (by have := Below.size hB; omega) (by have := qG s k; omega) (by have := qG s k; omega) fun o N p e => ?_)
 replace e := dh.snoc (enc := eb) (x := _) rfl rfl rfl rfl e
 replace hB := ZG hB p ho
 replace a := At.grownOw a ho p Dd
 clear ho
 refine Zw o rfl <| cT <| l _ _ <| cZ <| Zv (dq rfl rfl Om Om) <| Zi rfl <| cT ?_
 rw [ve (by omega)] at d
 exact j _ _ ((k + 1, o)) Za ⟨rfl, rfl, trivial⟩ ⟨hB, a, (by first | (rw [mE, if_pos d]; exact e) | (rw [mE, if_neg (by rw [d]; decide)]; exact e)), Om, trivial⟩ (by show 256 - (k + 1) < 256 - k; omega)
 refine c7 <| l _ _ <| cZ <| Zv (dq rfl rfl Om Om) <| Zi rfl <| cT ?_
 rw [ve (by omega)] at d
 exact j _ _ ((k + 1, v0)) Za ⟨rfl, rfl, trivial⟩ ⟨hB, a, (by first | (rw [mE, if_pos d]; exact ho) | (rw [mE, if_neg (by rw [d]; decide)]; exact ho)), Om, trivial⟩ (by show 256 - (k + 1) < 256 - k; omega)
 refine dt <| t _ _ <| Zr <| Zw v0 rfl <| Zw v0 rfl <| cT <| Zt <| dL (v := v0) rfl ⟨hB, ?_⟩
 obtain rfl : k = 256 := by omega
 exact ho
theorem vr (s : Nat) (i : Int) (one : Bool) (w : World) :
    Fn Tryz.prog 117 #[eM s, .int .i64 i, .bool one] w fun v w' => v = eM (if 0 ≤ i ∧ i < 8 then ou s i.toNat one else 0) := by
 refine dr (n := 36) Tryz.func117 rfl rfl (Nat.le_of_ble_eq_true rfl) ?_
 have hB : Below w.heap.size w w := Below.refl _ _
 refine Zr <| Zy (dW (c := #[_, _, _, _]) rfl rfl fun H W3 B I d => ?_)
 have aa := ZO B hB
 clear B
 replace hB := Ze hB I
 refine Zy (dp eJ rfl fun C W6 r D a => ?_)
 have t := ZO r hB
 have u := Zn r d.lt
 clear r
 replace hB := Ze hB D
 replace d := D.at d
 replace a : At W6 C #[wv 0 0, wv 0 1, wv 0 2, wv 0 3] 49 := a
 refine cT <| Zr <| Zy (dp eJ rfl fun E J j x b => ?_)
 have K := ZO j hB
 have L := Zn j d.lt
 have l := Zn j a.lt
 clear j
 replace hB := Ze hB x
 replace d := x.at d
 replace a := x.at a
 replace b : At J E #[wv 0 0, wv 0 1, wv 0 2, wv 0 3] 49 := b
 refine cT <| cY fun ab M => Zr <| Zi rfl <| Zv (dP rfl rfl) <| ZX rfl (fun N => ?_) fun N => ?_
 refine Zs <| Zs <| Zw (.bool true) rfl <| cT <| dz rfl <| Zr <| Zv (da rfl db rfl b) <| Zy (df rfl rfl db rfl a rfl rfl fun ac y O => ?_)
 replace hB := Zg hB y t
 replace d := At.grownNe d u y
 replace b := At.grownNe b (Ne.symm l) y
 replace a := O
 refine cT <| Zt <| jS rfl db a rfl ⟨hB, ?_⟩
 rw [if_neg (by omega)]
 refine Zi rfl <| Zv (ol rfl rfl) <| Zb rfl <| cT <| ZQ rfl (fun P => ?_) fun P => ?_
 refine Zr <| Zv (da rfl db rfl b) <| Zy (df rfl rfl db rfl a rfl rfl fun ad z Q => ?_)
 replace hB := Zg hB z t
 replace d := At.grownNe d u z
 replace b := At.grownNe b (Ne.symm l) z
 replace a := Q
 refine cT <| Zt <| jS rfl db a rfl ⟨hB, ?_⟩
 rw [if_neg (by omega)]
 refine c7 <| M _ _ <| cY fun ae R => ?_
 have hi : 0 ≤ i ∧ i < 8 := by omega
 have hl := kP s
 refine Zr <| Zv (da rfl db rfl d) <| ZC (vs := [.agg #[_, _, _, _]]) ur (md _ _) rfl fun A af m e => ?_
 have S := (Below.size hB)
 replace hB := Ze hB m
 replace d := m.at d
 replace a := m.at a
 replace b := m.at b
 replace e := dh.mono e S
 refine Zv (dB (v := A) rfl e.sl dw) <| Zw (.int .i64 0) rfl <| cT <| c9 ?_
 refine dy (σ := (Nat)) [9, 20, 21, 22, 23, 24, 25, 26, 27, 28, 29, 30, 31, 32, 33, 34] (fun k => [(20, .int .i64 (k : Int))]) (fun k W => (Below w.heap.size w W) ∧ (At W H _ 49) ∧ (At W C _ 49) ∧ (dh eb 1 3 W w.heap.size A _) ∧ (At W E #[wv (mY (ef s) i.toNat one k) 0, wv (mY (ef s) i.toNat one k) 1, wv (mY (ef s) i.toNat one k) 2, wv (mY (ef s) i.toNat one k) 3] 49) ∧ (k ≤ (ef s).length) ∧ (True)) (fun k => (ef s).length - k) (0) ⟨rfl, trivial⟩ ⟨hB, d, a, e, b, (Nat.zero_le _), trivial⟩ ?_
 clear hB d a b e
 rintro k ag ah ⟨hB, d, a, e, b, hk, _⟩ ai F
 refine Zr <| Zv (dP rfl rfl) <| cT <| cY fun aj T => ZQ rfl (fun U => ?_) fun U => ?_
 refine c7 <| T _ _ <| cY fun ak G => c9 <| Zr <| Zv (dM (v := A) rfl e.sl rfl dw Om Om) <| Zv (dm (v := .int .i64 _) rfl dC (dO.cell e.sl eN 0 Om Om 0 rfl)) <| Zi rfl <| cT ?_
 obtain ⟨p, al, ao, g⟩ := kE (s := s) (i := k) (by omega)
 have V : (ef s).getD (k : Int).toNat 0 = (p : Int) := g
 rw [V]
 refine Zr <| Zi rfl <| Zi rfl <| Zv (rx rfl rfl Om (by simp only [IntKind.bits]; omega)) <| Zv (ng (n := 1) rfl rfl rfl (by exact Nat.lt_of_le_of_lt (Nat.div_le_self _ _) (by simp only [ek]; omega)) (by first | assumption | (simp only [ek]; omega) | (simp only [ek]; decide))) <| Zv (eq rfl rfl) <| Zb rfl <| Zv (LU rfl rfl Tryz.underlying4) <| cT <| ZQ rfl (fun f => ?_) fun f => ?_
 refine cZ <| Zv (da rfl db rfl b) <| Zi rfl <| ZC (vs := [.agg #[_, _, _, _], .int .i64 _]) uB (l4 _ _ _) rfl fun ap aq h X => ?_
 replace hB := Ze hB h
 replace d := h.at d
 replace a := h.at a
 replace e := h.ow e
 replace b := h.at b
 obtain rfl := X
 refine Zy (df rfl rfl db rfl b rfl rfl fun ar o Y => ?_)
 replace hB := Zg hB o K
 replace d := At.grownNe d L o
 replace a := At.grownNe a l o
 replace e := dh.grownAt e b o Dd
 replace b := Y
 refine cT <| G _ _ <| cZ <| Zv (dq rfl rfl Om Om) <| Zi rfl <| cT ?_
 rw [tO, Ak] at f
 exact F _ _ (k + 1) Za ⟨rfl, trivial⟩ ⟨hB, d, a, e, (by first | (rw [mH Om, g, Int.toNat_natCast, if_pos (by simpa using f)]; exact b) | (rw [mH Om, g, Int.toNat_natCast, if_neg (by simpa using f)]; exact b)), Om, trivial⟩ Zo
 refine c7 <| G _ _ <| cZ <| Zv (dq rfl rfl Om Om) <| Zi rfl <| cT ?_
 rw [tO, Ak] at f
 exact F _ _ (k + 1) Za ⟨rfl, trivial⟩ ⟨hB, d, a, e, (by first | (rw [mH Om, g, Int.toNat_natCast, if_pos (by simpa using f)]; exact b) | (rw [mH Om, g, Int.toNat_natCast, if_neg (by simpa using f)]; exact b)), Om, trivial⟩ Zo
 refine dt <| R _ _ <| Zr <| Zv (da rfl db rfl b) <| Zy (df rfl rfl db rfl a rfl rfl fun au q Z => ?_)
 replace hB := Zg hB q t
 replace d := At.grownNe d u q
 replace e := dh.grownAt e a q Dd
 replace b := At.grownNe b (Ne.symm l) q
 replace a := Z
 refine cT <| Zt <| jS rfl db a rfl ⟨hB, ?_⟩
 obtain rfl : k = (ef s).length := by omega
 rw [if_pos hi, Iu]
end
section
open Go Go.RowKit
theorem Ol25_0 {p : Prop} (h : p := by first | omega | (simp only [cV, cX, cW, de]; omega)) : p := h
theorem Hm : dH Tryz.prog 50 = true := by kernel_rfl
theorem nV : fI Tryz.prog 54 = some (4, 1, 1) := by kernel_rfl
theorem FY : (eH Tryz.prog 4).map (fun z => z.cells.size) = some 1 := by kernel_rfl
theorem yG : fl Tryz.prog 4 = true := by kernel_rfl
theorem oa : eH Tryz.prog 4 = some (.bool false) := by kernel_rfl
theorem G3 : dH Tryz.prog 27 = true := by kernel_rfl
theorem fm : fw Tryz.prog 40 0 = some 0 := by kernel_rfl
theorem ey : fl Tryz.prog 5 = true := by kernel_rfl
theorem g7 : fw Tryz.prog 40 1 = some 1 := by kernel_rfl
theorem jp : eH Tryz.prog 40 = some (.agg #[.int .u8 0, .int .u8 0]) := by kernel_rfl
theorem dR : kM Tryz.prog 40 = some 2 := by kernel_rfl
theorem J3 {f : Nat → Value} {w : World} {d : Option Nat} {ty t2 : TypeId} {ps : String} {af : Array Edge} {g : Option (Nat × Bool)} {x y : Operand} {a0 a1 b0 b1 : Int} (hx : dK f x = .agg #[.int .u8 a0, .int .u8 a1]) (hy : dK f y = .agg #[.int .u8 b0, .int .u8 b1]) :
    (execOp (dK f) ⟨d, .binOp .eql 40 x y t2, ty, ps, af, g⟩).run Tryz.prog w = .ok (.value (.bool (decide ((a0 = b0 ∧ a1 = b1))))) w := by
  have hg : Tryz.prog.eqGuardType Tryz.prog.depth 40 = false := by kernel_rfl
  have hp40 : Tryz.prog.stoodInHeld 40 = false := by kernel_rfl
  have hu40 : Tryz.prog.underlying 40 = some (.struct (Tryz.prog.fieldsOf 40)) := by kernel_rfl
  simp only [execOp, hx, hy, Sem.run_bind, run_eqGuard_agg _ _ _ _ _ _ _ hg, Result.andThen_ok, run_eql_struct, run_equalIn_agg _ 9999 40 _ _ hu40 hp40]
  simp only [Program.fieldsOf, Tryz.underlying40]
  simp [Op.eqFields, part, isAgg, run_equalIn_int _ 9998 5 _ _ _ _ Tryz.underlying5, run_underlying Tryz.underlying5]
  by_cases q0 : a0 = b0 <;> by_cases q1 : a1 = b1 <;> simp [q0, q1]
theorem Mc : dH Tryz.prog 25 = true := by kernel_rfl
theorem M3 : dH Tryz.prog 24 = true := by kernel_rfl
theorem j8 (n : Nat) (w : World) (hn : n ≤ 63) :
    Fn Tryz.prog 50 #[.int .i64 (n : Int)] w fun v w' => v = .int .u64 ((2 ^ n : Nat) : Int) := by
 refine dr (n := 13) Tryz.func50 rfl rfl (Nat.le_of_ble_eq_true rfl) ?_
 have hB : Below w.heap.size w w := Below.refl _ _
 refine Zr <| Zw (.int .u64 0) rfl <| cT <| Zr <| Zw (.int .u64 1) rfl <| cT <| cY fun K5 a => Zr <| Zw (.int .i64 0) rfl <| cT <| c9 ?_
 refine dy (σ := (Nat)) [3, 4, 5, 6, 7, 8, 9, 10, 11] (fun k => [(4, .int .i64 (k : Int)), (3, .int .u64 ((2 ^ k : Nat) : Int))]) (fun k W => (Below w.heap.size w W) ∧ (k ≤ n) ∧ (True)) (fun k => n - k) (0) ⟨rfl, rfl, trivial⟩ ⟨hB, Om, trivial⟩ ?_
 clear hB
 rintro k f W9 ⟨hB, hk, _⟩ g b
 refine cY fun h c => Zr <| Zi rfl <| Zi rfl <| Zv (dP rfl rfl) <| cT <| ZQ rfl (fun d => ?_) fun d => ?_
 refine c7 <| c _ _ <| cY fun i e => c9 <| cZ <| Zi rfl <| Zv (Nh rfl (n := 2) rfl rfl (by exact N6 Om)) <| Zi rfl <| cT <| e _ _ <| cZ <| Zi rfl <| Zv (dq rfl rfl Om Om) <| Zi rfl ?_
 refine cT ?_
 exact b _ _ (k + 1) Za ⟨rfl, rfl, trivial⟩ ⟨hB, Om, trivial⟩ Zo
 refine dt <| a _ _ <| Zr <| Zi rfl <| Zi rfl <| cT <| Zt <| dL (v := .int .u64 _) rfl ⟨hB, ?_⟩
 obtain rfl : k = n := by omega
 rfl
theorem kf (s : Nat) (w : World) :
    Fn Tryz.prog 27 #[eM s] w fun v w' => dh vl 1 4 w' w.heap.size v (ui s) := by
 refine dr (n := 27) Tryz.func27 rfl rfl (Nat.le_of_ble_eq_true rfl) ?_
 have hB : Below w.heap.size w w := Below.refl _ _
 refine Zr <| Zy (dW (c := #[_, _, _, _]) rfl rfl fun j W3 l q a => ?_)
 have G := ZO l hB
 clear l
 replace hB := Ze hB q
 refine Zw (.slice none 0 0) rfl <| cT <| Zr <| Zw (.slice none 0 0) rfl <| cT <| cY fun K8 r => Zr <| Zw (.int .i64 0) rfl <| cT <| c9 ?_
 refine dy (σ := (Nat) × (Value)) [3, 4, 5, 6, 7, 8, 9, 10, 11, 12, 13, 14, 15, 16, 17, 18, 19, 20, 21, 22, 23, 24, 25] (fun (i, v0) => [(4, .int .i64 (i : Int)), (3, v0)]) (fun sg W => match sg with | (i, v0) => (Below w.heap.size w W) ∧ (At W j _ 49) ∧ (dh vl 1 4 W w.heap.size v0 (lN s (64 * i))) ∧ (i ≤ 4) ∧ (True)) (fun (i, v0) => 4 - i) ((0, .slice none 0 0)) ⟨rfl, rfl, trivial⟩ ⟨hB, a, dh.nil, Om, trivial⟩ ?_
 clear hB a
 rintro ⟨i, v0⟩ H I ⟨hB, a, ho, hi, _⟩ J t
 refine cY fun K y => Zr <| Zi rfl <| Zv (dP rfl rfl) <| cT <| ZQ rfl (fun z => ?_) fun z => ?_
 refine c7 <| y _ _ <| cY fun L A => c9 <| Zr <| Zi rfl <| Zv (eY rfl rfl lI Om Om) <| Zv (dm (v := wv s i) rfl lD (At.cell a (nA s i Om))) <| Zi rfl <| cT <| Zr <| Zw (.int .i64 0) rfl <| cT <| c9 ?_
 refine dy (σ := (Nat) × (Value)) [3, 5, 6, 14, 15, 16, 17, 18, 19, 20, 21, 22, 23, 24, 25] (fun (k, v1) => [(6, .int .i64 (k : Int)), (5, .int .u64 ((wd s i / 2 ^ k : Nat) : Int)), (3, v1)]) (fun sg W => match sg with | (k, v1) => (Below w.heap.size w W) ∧ (At W j _ 49) ∧ (dh vl 1 4 W w.heap.size v1 (lN s (64 * i + k))) ∧ (k ≤ 64) ∧ (True)) (fun (k, v1) => 64 - k) ((0, v0)) ⟨rfl, congrArg (fun x : Nat => Value.int .u64 (x : Int)) (Nat.div_one _).symm, rfl, trivial⟩ ⟨hB, a, ho, Om, trivial⟩ ?_
 clear hB a ho
 rintro ⟨k, v1⟩ M N ⟨hB, a, d, hk, _⟩ O B
 refine cY fun P C => Zr <| Zi rfl <| Zv (dP rfl rfl) <| cT <| ZQ rfl (fun D => ?_) fun D => ?_
 refine c7 <| C _ _ <| cY fun Q E => c9 <| Zr <| Zw v1 rfl <| Zi rfl <| Zv (Ht (n := 2) rfl rfl rfl Om) <| Zv (eq rfl rfl) <| Zy (fp (u := .bool _) rfl nV FY rfl Dd Dd fun m R f g F => ?_)
 have S := ZO f hB
 have T := dh.neB (b := m) d (Nat.le_of_eq f.symm)
 clear f
 replace hB := Ze hB g
 replace a := g.at a
 replace d := g.ow d
 refine Zy (eB (v := v1) (v2 := .slice (some ⟨m, 0, none⟩) 1 1) rfl rfl nV FY Dd d (fP F rfl) rfl (by have := Below.size hB; omega) (by simp only [cV]; omega) (by simp only [cV]; omega) fun o U p h => ?_)
 replace h := dh.snoc (enc := vl) (x := _) rfl rfl rfl rfl h
 replace hB := ZG hB p d
 replace a := At.grownOw a d p Dd
 clear d
 refine Zw o rfl <| cT <| cZ <| Zi rfl <| Zv (Gl (n := 2) rfl rfl rfl Om (by exact Nat.lt_of_le_of_lt (Nat.div_le_self _ _) (BF s i))) <| Zi rfl <| cT <| E _ _ <| cZ <| Zi rfl <| Zv (dq rfl rfl Om Om) <| Zi rfl <| cT ?_
 exact B _ _ ((k + 1, o)) Za ⟨rfl, congrArg (fun x : Nat => Value.int .u64 (x : Int)) (JG (wd s i) k), rfl, trivial⟩ ⟨hB, a, (by rw [← Nat.add_assoc, yq, ← Fd Om]; exact h), Om, trivial⟩ (by show 64 - (k + 1) < 64 - k; omega)
 refine dt <| A _ _ <| cZ <| Zi rfl <| Zv (dq rfl rfl Om Om) <| Zi rfl <| cT ?_
 exact t _ _ ((i + 1, v1)) Za ⟨rfl, rfl, trivial⟩ ⟨hB, a, (by have e : 64 * i + k = 64 * (i + 1) := Om; rw [← e]; exact d), Om, trivial⟩ (by show 4 - (i + 1) < 4 - i; omega)
 refine dt <| r _ _ <| Zr <| Zw v0 rfl <| Zw v0 rfl <| cT <| Zt <| dL (v := v0) rfl ⟨hB, ?_⟩
 obtain rfl : i = 4 := by omega
 exact ho
theorem pB (x : Value) (l : List Bool) (w : World) (hl : dO vl 1 w x l) (hn : l.length = 256) :
    Fn Tryz.prog 24 #[x] w fun v w' => v = eM (LF l) := by
 refine dr (n := 30) Tryz.func24 rfl rfl (Nat.le_of_ble_eq_true rfl) ?_
 have hB : Below w.heap.size w w := Below.refl _ _
 refine Zr <| Zy (dp eJ rfl fun f W3 m u b => ?_)
 have y := ZO m hB
 clear m
 replace hB := Ze hB u
 replace b : At W3 f #[wv 0 0, wv 0 1, wv 0 2, wv 0 3] 49 := b
 refine cT <| Zr <| Zy (dp eJ rfl fun g W8 h o a => ?_)
 have z := ZO h hB
 have p := Zn h b.lt
 clear h
 replace hB := Ze hB o
 replace b := o.at b
 replace a : At W8 g #[wv 0 0, wv 0 1, wv 0 2, wv 0 3] 49 := a
 refine cT <| cY fun L A => Zr <| Zw (.int .i64 0) rfl <| cT <| c9 ?_
 refine dy (σ := (Nat)) [4, 5, 6, 7, 8, 9, 10, 11, 12, 13, 14, 15, 16, 17, 18, 19, 20, 21, 22, 23, 24, 25, 26, 27, 28] (fun i => [(4, .int .i64 (i : Int))]) (fun i W => (Below w.heap.size w W) ∧ (At W f _ 49) ∧ (At W g #[wv (gk l (64 * i)) 0, wv (gk l (64 * i)) 1, wv (gk l (64 * i)) 2, wv (gk l (64 * i)) 3] 49) ∧ (i ≤ 4) ∧ (True)) (fun i => 4 - i) (0) ⟨rfl, trivial⟩ ⟨hB, b, a, Om, trivial⟩ ?_
 clear hB b a
 rintro i M N ⟨hB, b, a, hi, _⟩ O B
 refine cY fun P C => Zr <| Zi rfl <| Zv (dP rfl rfl) <| cT <| ZQ rfl (fun D => ?_) fun D => ?_
 refine c7 <| C _ _ <| cY fun Q E => c9 <| Zr <| Zw (.int .i64 0) rfl <| cT <| c9 ?_
 refine dy (σ := (Nat)) [5, 10, 11, 12, 13, 14, 15, 16, 17, 18, 19, 20, 21, 22, 23, 24, 25, 26, 27, 28] (fun k => [(5, .int .i64 (k : Int))]) (fun k W => (Below w.heap.size w W) ∧ (At W f _ 49) ∧ (At W g #[wv (gk l (64 * i + k)) 0, wv (gk l (64 * i + k)) 1, wv (gk l (64 * i + k)) 2, wv (gk l (64 * i + k)) 3] 49) ∧ (k ≤ 64) ∧ (True)) (fun k => 64 - k) (0) ⟨rfl, trivial⟩ ⟨hB, b, a, Om, trivial⟩ ?_
 clear hB b a
 rintro k R S ⟨hB, b, a, hk, _⟩ T q
 refine cY fun U F => Zr <| Zi rfl <| Zv (dP rfl rfl) <| cT <| ZQ rfl (fun G => ?_) fun G => ?_
 refine c7 <| F _ _ <| cY fun V r => c9 <| Zr <| Zw x rfl <| Zi rfl <| Zv (FT rfl rfl Om Om) <| Zi rfl <| Zv (dq rfl rfl Om Om) <| Zv (dM (v := x) rfl (Below.slT hB hl) rfl nV Om Ol25_0) <| Zv (dm (v := .bool _) rfl yG (dO.cell (Below.slT hB hl) oY false Om Ol25_0 0 rfl)) <| cT <| ZQ rfl (fun c => ?_) fun c => ?_
 replace c : l.getD (64 * i + k) false = true := by rw [← c]; congr 1
 refine gy eo iv (fun H j => ?_)
 replace hB := Ze hB j
 replace b := j.at b
 replace a := j.at a
 have hS := eo.refl H
 refine Ti 0 rfl rfl hS <| Ti 1 rfl rfl hS <| Tk 2 rfl (fun _ _ => eY rfl rfl lI Om Om) hS <| Tk 3 rfl (fun _ hq => dm (v := wv _ i) rfl lD (At.cell (hq.at a) (nA _ i Om))) hS <| Ti 4 rfl rfl hS <| To 5 rfl (TC Hm (j8 k _ Om) rfl fun X Y d I => ⟨.inl (hS.trans d), ?_⟩)
 replace hB := Ze hB d
 replace b := d.at b
 replace a := d.at a
 replace hS := hS.trans d
 obtain rfl := I
 refine Tk 6 rfl (fun _ _ => Mf rfl (n := _) rfl rfl (by exact yK l Om Om)) hS <| Tk 7 rfl (fun _ _ => eY rfl rfl lI Om Om) hS <| To 8 rfl (eA (v := .int .u64 _) rfl rfl lD rfl a (by simp; omega) fun Z s J => ⟨.inr (by kernel_rfl), ?_⟩)
 replace hB := Zg hB s z
 replace b := At.grownNe b p s
 replace a := J
 rw [A7 (by omega) (Ey l (by omega) (by omega) c)] at a
 refine Td <| r _ _ <| cZ <| Zi rfl <| Zv (dq rfl rfl Om Om) <| Zi rfl <| cT ?_
 exact q _ _ (k + 1) Za ⟨rfl, trivial⟩ ⟨hB, b, (by first | exact a | (rw [show 64 * i + (k + 1) = 64 * i + k + 1 from rfl, sN (by rw [← c]; congr 1)]; exact a)), Om, trivial⟩ Zo
 refine c7 <| r _ _ <| cZ <| Zi rfl <| Zv (dq rfl rfl Om Om) <| Zi rfl <| cT ?_
 exact q _ _ (k + 1) Za ⟨rfl, trivial⟩ ⟨hB, b, (by first | exact a | (rw [show 64 * i + (k + 1) = 64 * i + k + 1 from rfl, sN (by rw [← c]; congr 1)]; exact a)), Om, trivial⟩ Zo
 refine dt <| E _ _ <| cZ <| Zi rfl <| Zv (dq rfl rfl Om Om) <| Zi rfl <| cT ?_
 exact B _ _ (i + 1) Za ⟨rfl, trivial⟩ ⟨hB, b, (by have e : 64 * i + k = 64 * (i + 1) := Om; rw [← e]; exact a), Om, trivial⟩ Zo
 refine dt <| A _ _ <| Zr <| Zv (da rfl db rfl a) <| Zy (df rfl rfl db rfl b rfl rfl fun aa t K => ?_)
 replace hB := Zg hB t y
 replace a := At.grownNe a (Ne.symm p) t
 replace b := K
 refine cT <| Zt <| jS rfl db b rfl ⟨hB, ?_⟩
 obtain rfl : i = 4 := by omega
 rfl
theorem px (n : Int) (w : World) (h0 : 0 ≤ n) (h1 : n ≤ 8) :
    Fn Tryz.prog 25 #[.int .i64 n] w fun v w' => dh vl 1 4 w' w.heap.size v (mf (2 ^ n.toNat)) := by
 refine dr (n := 17) Tryz.func25 rfl rfl (Nat.le_of_ble_eq_true rfl) ?_
 have hB : Below w.heap.size w w := Below.refl _ _
 obtain ⟨n, rfl⟩ := Int.eq_ofNat_of_zero_le h0
 have hn : n ≤ 8 := by omega
 have h8 := Pf hn
 refine Zr <| Zw (.slice none 0 0) rfl <| cT <| Zr <| Zy (NQ (n := 256) (N := w.heap.size) rfl rfl nV oa Dd Dd (Below.size hB) fun b W5 f c => ?_)
 replace c := dh.made oY false rfl Dd c
 replace hB := Ze hB f
 rw [Ar] at c
 refine Zw b rfl <| cT <| cY fun K8 g => Zr <| Zw (.int .i64 0) rfl <| cT <| c9 ?_
 refine dy (σ := (Nat)) [4, 6, 7, 8, 9, 10, 11, 12, 13, 14, 15] (fun k => [(4, .int .i64 (k : Int))]) (fun k W => (Below w.heap.size w W) ∧ (dh vl 1 4 W w.heap.size b (mf k)) ∧ (k ≤ 2 ^ n) ∧ (True)) (fun k => 2 ^ n - k) (0) ⟨rfl, trivial⟩ ⟨hB, c, (Nat.zero_le _), trivial⟩ ?_
 clear hB c
 rintro k q r ⟨hB, ho, hk, _⟩ s h
 refine cY fun t i => Zr <| Zi rfl <| Zv (lz rfl Tryz.underlying3 Tryz.underlying47 (by simp only [ek]; omega)) <| Zi rfl <| ZC Hm (j8 _ _ (by first | assumption | omega)) rfl fun x y d l => ?_
 replace hB := Ze hB d
 replace ho := d.ow ho
 obtain rfl := l
 refine Zv (dP rfl rfl) <| cT <| ZQ rfl (fun m => ?_) fun m => ?_
 refine c7 <| i _ _ <| cY fun z o => c9 <| cZ <| Zw b rfl <| Zi rfl <| Zv (dM (v := b) rfl ho.sl rfl nV Om Ol25_0) <| Zy (GI (v := b) (u := .bool true) (a := true) (j := _) rfl rfl (.inl ⟨yG, rfl⟩) oY rfl rfl ho Om Ol25_0 fun A e p => ?_)
 replace hB := ZG hB e ho
 clear e ho
 replace ho := p
 rw [BQ] at ho
 refine cT <| o _ _ <| cZ <| Zi rfl <| Zv (dq rfl rfl Om Om) <| Zi rfl <| cT ?_
 exact h _ _ (k + 1) Za ⟨rfl, trivial⟩ ⟨hB, (by exact ho), Om, trivial⟩ Zo
 refine dt <| g _ _ <| Zr <| Zw b rfl <| Zw b rfl <| cT <| Zt <| dL (v := b) rfl ⟨hB, ?_⟩
 obtain rfl : k = 2 ^ n := by omega
 exact ho
theorem jP (a b : Nat) (w : World) :
    Fn Tryz.prog 23 #[eM a, eM b] w fun v w' => v = .bool (ee a b) := by
 refine dr (n := 27) Tryz.func23 rfl rfl (Nat.le_of_ble_eq_true rfl) ?_
 have hB : Below w.heap.size w w := Below.refl _ _
 refine Zr <| Zy (dW (c := #[_, _, _, _]) rfl rfl fun z W3 t A d => ?_)
 have J := ZO t hB
 clear t
 replace hB := Ze hB A
 refine Zy (dW (c := #[_, _, _, _]) rfl rfl fun B W6 r u e => ?_)
 have K := ZO r hB
 have L := Zn r d.lt
 clear r
 replace hB := Ze hB u
 replace d := u.at d
 refine Zw (.bool false) rfl <| cT <| Zd eo fun C s => ?_
 replace hB := Ze hB s
 replace d := s.at d
 replace e := s.at e
 have hS := eo.refl C
 refine Tk 0 rfl (fun _ hq => da rfl db rfl (hq.at d)) hS <| Tk 2 rfl (fun _ hq => da rfl db rfl (hq.at e)) hS <| To 1 rfl (TC (vs := [.agg #[_, _, _, _]]) G3 (kf _ _) rfl fun i M j f => ⟨.inl (hS.trans j), ?_⟩)
 have D := (Below.size hB)
 replace hB := Ze hB j
 replace d := j.at d
 replace e := j.at e
 replace hS := hS.trans j
 replace f := dh.mono f D
 refine To 3 rfl (TC (vs := [.agg #[_, _, _, _]]) G3 (kf _ _) rfl fun l N h g => ⟨.inl (hS.trans h), ?_⟩)
 have E := dh.lt2 f
 have F := (Below.size hB)
 replace hB := Ze hB h
 replace d := h.at d
 replace e := h.at e
 replace f := h.ow f
 replace hS := hS.trans h
 have m := eO.new E g
 replace g := dh.mono g F
 refine Tw 4 i rfl rfl hS <| Tw 5 l rfl rfl hS <| Td <| cY fun O G => Zr <| Zw (.int .i64 0) rfl <| cT <| c9 ?_
 refine dy (σ := (Nat)) [4, 7, 12, 13, 14, 15, 16, 17, 18, 19, 20, 21, 22, 23, 24, 25, 26] (fun k => [(7, .int .i64 (k : Int))]) (fun k W => (Below w.heap.size w W) ∧ (At W z _ 49) ∧ (At W B _ 49) ∧ (dh vl 1 4 W w.heap.size i _) ∧ (eO i l) ∧ (dh vl 1 4 W w.heap.size l _) ∧ (k ≤ 256) ∧ (∀ p, p < k → a.testBit p = true → b.testBit p = true) ∧ (True)) (fun k => 256 - k) (0) ⟨rfl, trivial⟩ ⟨hB, d, e, f, m, g, Om, fX, trivial⟩ ?_
 clear hB d e f m g
 rintro k P Q ⟨hB, d, e, f, m, g, hk, hw, _⟩ R x
 refine cY fun S H => Zr <| Zi rfl <| Zv (dP rfl rfl) <| cT <| ZQ rfl (fun I => ?_) fun I => ?_
 refine c7 <| H _ _ <| cY fun T y => c9 <| Zr <| Zw i rfl <| Zi rfl <| Zv (dM (v := i) rfl f.sl rfl nV Om Ol25_0) <| Zv (dm (v := .bool _) rfl yG (dO.cell f.sl oY false Om Ol25_0 0 rfl)) <| ZX rfl (fun o => ?_) fun o => ?_
 refine Zw l rfl <| Zi rfl <| Zv (dM (v := l) rfl g.sl rfl nV Om Ol25_0) <| Zv (dm (v := .bool _) rfl yG (dO.cell g.sl oY false Om Ol25_0 0 rfl)) <| Zv (fJ rfl) <| Zb rfl <| cT <| ZQ rfl (fun q => ?_) fun q => ?_
 refine Zr <| Zw (.bool false) rfl <| cT <| Zt <| dL (v := .bool false) rfl ⟨hB, ?_⟩
 exact congrArg Value.bool (xZ Om o q).symm
 refine c7 <| y _ _ <| cZ <| Zi rfl <| Zv (dq rfl rfl Om Om) <| Zi rfl <| cT ?_
 exact x _ _ (k + 1) Za ⟨rfl, trivial⟩ ⟨hB, d, e, f, m, g, Om, (fE hw (tl Om (by first | exact .inl o | exact .inr q))), trivial⟩ Zo
 refine Zs <| Zs <| Zs <| Zs <| Zs <| Zw (.bool false) rfl <| cT <| ep rfl <| c7 <| y _ _ <| cZ <| Zi rfl <| Zv (dq rfl rfl Om Om) <| Zi rfl ?_
 refine cT ?_
 exact x _ _ (k + 1) Za ⟨rfl, trivial⟩ ⟨hB, d, e, f, m, g, Om, (fE hw (tl Om (by first | exact .inl o | exact .inr q))), trivial⟩ Zo
 refine dt <| G _ _ <| Zr <| Zw (.bool true) rfl <| cT <| Zt <| dL (v := .bool true) rfl ⟨hB, ?_⟩
 exact congrArg Value.bool (z6 Om hw).symm
end
section
open Go Go.RowKit
theorem Ea : dH Tryz.prog 107 = true := by kernel_rfl
theorem rn : (Tryz.prog.info? 5).map (·.size) = some 1 := by kernel_rfl
theorem mt {f : Nat → Value} {w : World} {d : Option Nat} {ty : TypeId} {ps : String} {af : Array Edge} {g : Option (Nat × Bool)} {x0 x1 : Operand} {c0_0 c1_0 : Value} (h0 : dK f x0 = c0_0) (k0 : c0_0.cells = #[c0_0]) (h1 : dK f x1 = c1_0) (k1 : c1_0.cells = #[c1_0]) :
    (execOp (dK f) ⟨d, .build 40 #[(0, x0), (1, x1)], ty, ps, af, g⟩).run Tryz.prog w = .ok (.value (.agg #[c0_0, c1_0])) w := by
  obtain ⟨i0, hi0, hz0⟩ := Option.bind_eq_some_iff.1 (show (Tryz.prog.info? 40).bind (·.zero) = _ from jp)
  obtain ⟨j5, hj5, hs5⟩ := Option.map_eq_some_iff.1 rn
  simp [execOp, h0, k0, h1, k1, Instr.build, zeroValue, typeInfo, sizeOf, hi0, hz0, run_underlying Tryz.underlying40, Instr.fill, eW, hj5, hs5]
theorem BL : dH Tryz.prog 95 = true := by kernel_rfl
theorem Ii : dH Tryz.prog 23 = true := by kernel_rfl
theorem rf (m u : Nat) (n : Int) (w : World) (hm : m < 256) (hv : u < 256) :
    Fn Tryz.prog 107 #[.agg #[.int .u8 (m : Int), .int .u8 (u : Int)], .int .i64 n] w fun v w' => v = .bool (d9 m u n) := by
 refine dr (n := 27) Tryz.func107 rfl rfl (Nat.le_of_ble_eq_true rfl) ?_
 have hB : Below w.heap.size w w := Below.refl _ _
 refine Zr <| Zy (dW (c := #[_, _]) rfl rfl fun i W3 f h b => ?_)
 have j := ZO f hB
 clear f
 replace hB := Ze hB h
 refine Zw (.bool false) rfl <| cT ?_
 have h8 : n ≤ 8 → 2 ^ n.toNat ≤ 256 := fo
 refine Zd eo fun W8 g => ?_
 replace hB := Ze hB g
 replace b := g.at b
 have hS := eo.refl W8
 refine Ti 0 rfl rfl hS <| Tk 1 rfl (fun _ _ => ol rfl rfl) hS <| Tx 2 rfl (fun _ _ => lf (v := .bool _) rfl) hS (fun d => ?_) fun d => ?_
 refine Ti 3 rfl rfl hS <| Tk 4 rfl (fun _ _ => Af rfl rfl) hS <| Ty 5 rfl rfl hS <| Tx 6 rfl (fun _ _ => lf (v := .bool _) rfl) hS (fun e => ?_) fun e => ?_
 refine Tf 7 rfl rfl fm hS <| Tk 8 rfl (fun _ hq => dm (v := .int .u8 _) rfl ey (At.cell (hq.at b) rfl)) hS <| Tk 9 rfl (fun _ _ => lz rfl Tryz.underlying5 Tryz.underlying3 (by simp only [ek]; omega)) hS <| Ti 10 rfl rfl hS <| Tk 11 rfl (fun _ _ => jv (m := 1) rfl rfl Om (by simp only [IntKind.bits]; omega) (by rw [Nat.one_mul]; have := h8 Om; simp only [ek]; omega)) hS <| Tk 12 rfl (fun _ _ => dP rfl rfl) hS <| Ty 13 rfl rfl hS <| Tx 14 rfl (fun _ _ => lf (v := .bool _) rfl) hS (fun a => ?_) fun a => ?_
 refine Tf 15 rfl rfl g7 hS <| Tk 16 rfl (fun _ hq => dm (v := .int .u8 _) rfl ey (At.cell (hq.at b) rfl)) hS <| Tf 17 rfl rfl fm hS <| Tk 18 rfl (fun _ hq => dm (v := .int .u8 _) rfl ey (At.cell (hq.at b) rfl)) hS <| Tk 19 rfl (fun _ _ => pr (n := _) rfl rfl rfl (by first | assumption | (simp only [ek]; omega) | (simp only [ek]; decide)) (by first | assumption | (simp only [ek]; omega) | (simp only [ek]; decide))) hS <| Tk 20 rfl (fun _ _ => eq rfl rfl) hS <| Ty 21 rfl rfl hS <| Ty 22 rfl rfl hS <| Td <| Zt <| dL (v := .bool _) rfl ⟨hB, ?_⟩
 first | exact congrArg Value.bool (q9 d e a) | exact congrArg Value.bool (rU a) | exact congrArg Value.bool (pL (by omega)).symm
 refine Tp 15 rfl hS <| Tp 16 rfl hS <| Tp 17 rfl hS <| Tp 18 rfl hS <| Tp 19 rfl hS <| Tp 20 rfl hS <| Tw 21 (.bool false) rfl rfl hS <| Tw 22 (.bool false) rfl rfl hS <| Td <| Zt <| dL (v := .bool false) rfl ⟨hB, ?_⟩
 first | exact congrArg Value.bool (q9 d e a) | exact congrArg Value.bool (rU a) | exact congrArg Value.bool (pL (by omega)).symm
 refine Tp 7 rfl hS <| Tp 8 rfl hS <| Tp 9 rfl hS <| Tp 10 rfl hS <| Tp 11 rfl hS <| Tp 12 rfl hS <| Tw 13 (.bool false) rfl rfl hS <| Tw 14 (.bool false) rfl rfl hS <| Tp 15 rfl hS <| Tp 16 rfl hS <| Tp 17 rfl hS <| Tp 18 rfl hS <| Tp 19 rfl hS <| Tp 20 rfl hS ?_
 refine Tw 21 (.bool false) rfl rfl hS <| Tw 22 (.bool false) rfl rfl hS <| Td <| Zt <| dL (v := .bool false) rfl ⟨hB, ?_⟩
 first | exact congrArg Value.bool (q9 d e a) | exact congrArg Value.bool (rU a) | exact congrArg Value.bool (pL (by omega)).symm
 refine Tp 3 rfl hS <| Tp 4 rfl hS <| Tw 5 (.bool false) rfl rfl hS <| Tw 6 (.bool false) rfl rfl hS <| Tp 7 rfl hS <| Tp 8 rfl hS <| Tp 9 rfl hS <| Tp 10 rfl hS <| Tp 11 rfl hS <| Tp 12 rfl hS <| Tw 13 (.bool false) rfl rfl hS <| Tw 14 (.bool false) rfl rfl hS <| Tp 15 rfl hS <| Tp 16 rfl hS ?_
 refine Tp 17 rfl hS <| Tp 18 rfl hS <| Tp 19 rfl hS <| Tp 20 rfl hS <| Tw 21 (.bool false) rfl rfl hS <| Tw 22 (.bool false) rfl rfl hS <| Td <| Zt <| dL (v := .bool false) rfl ⟨hB, ?_⟩
 first | exact congrArg Value.bool (q9 d e a) | exact congrArg Value.bool (rU a) | exact congrArg Value.bool (pL (by omega)).symm
theorem kR (m u : Nat) (n : Int) (w : World) (hm : m < 256) (hv : u < 256) :
    Fn Tryz.prog 67 #[.agg #[.int .u8 (m : Int), .int .u8 (u : Int)], .int .i64 n] w fun v w' => v = if d9 m u n = true then .tuple #[eM (qg m u n.toNat), .int .i64 0] else .tuple #[eM 0, .int .i64 1] := by
 refine dr (n := 31) Tryz.func67 rfl rfl (Nat.le_of_ble_eq_true rfl) ?_
 have hB : Below w.heap.size w w := Below.refl _ _
 refine Zr <| Zy (dW (c := #[_, _]) rfl rfl fun C W3 p D b => ?_)
 have P := ZO p hB
 clear p
 replace hB := Ze hB D
 refine Zy (dp eJ rfl fun q W6 r s a => ?_)
 have t := ZO r hB
 clear r
 replace hB := Ze hB s
 replace b := s.at b
 replace a : At W6 q #[wv 0 0, wv 0 1, wv 0 2, wv 0 3] 49 := a
 refine Zw (.int .i64 0) rfl <| cT <| cY fun K9 E => Zr <| Zv (da rfl dR rfl b) <| Zi rfl <| ZC (vs := [.agg #[_, _], .int .i64 _]) Ea (rf _ _ _ _ (by first | assumption | omega) (by first | assumption | omega)) rfl fun Q R g F => ?_
 replace hB := Ze hB g
 replace b := g.at b
 replace a := g.at a
 obtain rfl := F
 refine Zv (fJ rfl) <| cT <| ZQ rfl (fun h => ?_) fun h => ?_
 refine Zr <| Zv (v := eM 0) (gv ) <| Zy (df rfl rfl db rfl a rfl rfl fun S x G => ?_)
 replace hB := Zg hB x t
 replace b := At.grownAt b a x Dd
 replace a := G
 refine Zw (.int .i64 1) rfl <| cT <| Zt <| fj rfl db a rfl (v1 := .int .i64 1) rfl ⟨hB, ?_⟩
 rw [if_neg (by simpa using h)]
 refine c7 <| E _ _ ?_
 have hr : d9 m u n = true := by simpa using h
 obtain ⟨hn0, hn8, hmn, hvm⟩ := dU.1 hr
 have hp := fo hn8
 refine Zr <| Zy (dp eJ rfl fun y H i j d => ?_)
 have I := ZO i hB
 have z := Zn i a.lt
 clear i
 replace hB := Ze hB j
 replace b := j.at b
 replace a := j.at a
 replace d : At H y #[wv 0 0, wv 0 1, wv 0 2, wv 0 3] 49 := d
 refine cT <| cY fun T J => Zr <| Zi rfl <| Zv (jv (m := 1) rfl rfl Om (by simp only [IntKind.bits]; omega) (by rw [Nat.one_mul]; simp only [ek]; omega)) <| Zw (.int .i64 0) rfl <| cT <| c9 ?_
 refine dy (σ := (Nat)) [7, 15, 16, 17, 18, 19, 20, 21, 22, 23, 24, 25, 26, 27, 28, 29] (fun k => [(15, .int .i64 (k : Int))]) (fun k W => (Below w.heap.size w W) ∧ (At W C _ 40) ∧ (At W q _ 49) ∧ (At W y #[wv (mT m u k) 0, wv (mT m u k) 1, wv (mT m u k) 2, wv (mT m u k) 3] 49) ∧ (k ≤ 2 ^ n.toNat) ∧ (True)) (fun k => 2 ^ n.toNat - k) (0) ⟨rfl, trivial⟩ ⟨hB, b, a, d, (Nat.zero_le _), trivial⟩ ?_
 clear hB b a d
 rintro k U V ⟨hB, b, a, d, hk, _⟩ X A
 refine Zr <| Zv (dP rfl rfl) <| cT <| cY fun Y K => ZQ rfl (fun L => ?_) fun L => ?_
 refine c7 <| K _ _ <| cY fun Z B => c9 <| Zr <| Zi rfl <| Zi rfl <| cT <| Zr <| Zi rfl <| Zv (lz rfl Tryz.underlying3 Tryz.underlying5 (by simp only [ek]; omega)) <| Zf rfl fm <| Zl rfl ey b rfl <| Zv (ng (n := _) rfl rfl rfl (by first | assumption | (simp only [ek]; omega) | (simp only [ek]; decide)) (by first | assumption | (simp only [ek]; omega) | (simp only [ek]; decide))) ?_
 refine Zf rfl g7 <| Zl rfl ey b rfl <| Zv (eq rfl rfl) <| cT <| ZQ rfl (fun e => ?_) fun e => ?_
 refine cZ <| Zv (da rfl db rfl d) <| Zi rfl <| ZC (vs := [.agg #[_, _, _, _], .int .i64 _]) uB (l4 _ _ _) rfl fun aa ab f M => ?_
 replace hB := Ze hB f
 replace b := f.at b
 replace a := f.at a
 replace d := f.at d
 obtain rfl := M
 refine Zy (df rfl rfl db rfl d rfl rfl fun ac l N => ?_)
 replace hB := Zg hB l I
 replace b := At.grownAt b d l Dd
 replace a := At.grownNe a z l
 replace d := N
 refine cT <| B _ _ <| cZ <| Zv (dq rfl rfl Om Om) <| Zi rfl <| cT ?_
 exact A _ _ (k + 1) Za ⟨rfl, trivial⟩ ⟨hB, b, a, (by first | (rw [DO e]; exact d) | (rw [DG e]; exact d)), (by simp only [Nat.one_mul] at *; omega), trivial⟩ (by simp only [Nat.one_mul] at *; omega)
 refine c7 <| B _ _ <| cZ <| Zv (dq rfl rfl Om Om) <| Zi rfl <| cT ?_
 exact A _ _ (k + 1) Za ⟨rfl, trivial⟩ ⟨hB, b, a, (by first | (rw [DO e]; exact d) | (rw [DG e]; exact d)), (by simp only [Nat.one_mul] at *; omega), trivial⟩ (by simp only [Nat.one_mul] at *; omega)
 refine dt <| J _ _ <| Zr <| Zv (da rfl db rfl d) <| Zy (df rfl rfl db rfl a rfl rfl fun ad o O => ?_)
 replace hB := Zg hB o t
 replace b := At.grownAt b a o Dd
 replace d := At.grownNe d (Ne.symm z) o
 replace a := O
 refine Zw (.int .i64 0) rfl <| cT <| Zt <| fj rfl db a rfl (v1 := .int .i64 0) rfl ⟨hB, ?_⟩
 have hk2 : k = 2 ^ n.toNat := by simp only [Nat.one_mul] at *; omega
 subst hk2
 rw [if_pos hr]; rfl
theorem nI (m u : Nat) (w : World) (hm : m < 256) (hv : u < 256) :
    Fn Tryz.prog 95 #[.agg #[.int .u8 (m : Int), .int .u8 (u : Int)]] w fun v w' => v = .agg #[.int .u8 (m : Int), .int .u8 ((u &&& m : Nat) : Int)] := by
 refine dr (n := 11) Tryz.func95 rfl rfl (Nat.le_of_ble_eq_true rfl) ?_
 have hB : Below w.heap.size w w := Below.refl _ _
 refine Zr <| Zy (dW (c := #[_, _]) rfl rfl fun l W3 e h a => ?_)
 have o := ZO e hB
 clear e
 replace hB := Ze hB h
 refine Zy (dp jp rfl fun p W6 b f d => ?_)
 have i := ZO b hB
 have j := Zn b a.lt
 clear b
 replace hB := Ze hB f
 replace a := f.at a
 refine cT <| Zr <| Zf rfl fm <| Zl rfl ey a rfl <| Zf rfl g7 <| Zl rfl ey a rfl <| Zf rfl fm <| Zl rfl ey a rfl <| Zv (ng (n := _) rfl rfl rfl (by first | assumption | (simp only [ek]; omega) | (simp only [ek]; decide)) (by first | assumption | (simp only [ek]; omega) | (simp only [ek]; decide))) <| Zv (mt (h0 := rfl) (k0 := rfl) (h1 := rfl) (k1 := rfl) (c0_0 := .int .u8 _) (c1_0 := .int .u8 _)) <| Zy (df rfl rfl dR rfl d rfl rfl fun q g k => ?_)
 replace hB := Zg hB g i
 replace a := At.grownNe a j g
 replace d := k
 refine cT <| Zt <| jS rfl dR d rfl ⟨hB, ?_⟩
 rfl
theorem jW (m u : Nat) (i : Int) (w : World) (hm : m < 256) (hv : u < 256) :
    Fn Tryz.prog 59 #[.agg #[.int .u8 (m : Int), .int .u8 (u : Int)], .int .i64 i] w fun v w' => v = Ng m u i := by
 refine dr (n := 19) Tryz.func59 rfl rfl (Nat.le_of_ble_eq_true rfl) ?_
 have hB : Below w.heap.size w w := Below.refl _ _
 refine Zr <| Zy (dW (c := #[_, _]) rfl rfl fun I W3 p z a => ?_)
 have A := ZO p hB
 clear p
 replace hB := Ze hB z
 refine Zy (dp jp rfl fun J W6 f q b => ?_)
 have g := ZO f hB
 have e := Zn f a.lt
 clear f
 replace hB := Ze hB q
 replace a := q.at a
 refine cT <| cY fun K9 h => Zr <| Zi rfl <| Zv (ol rfl rfl) <| ZX rfl (fun B => ?_) fun B => ?_
 refine Zi rfl <| Zv (dP rfl rfl) <| Zb rfl <| cT <| ZQ rfl (fun C => ?_) fun C => ?_
 have h7 := BN (show i.toNat < 8 by omega)
 have hle := pP m (1 * 2 ^ i.toNat)
 refine gy eo iv (fun D j => ?_)
 replace hB := Ze hB j
 replace a := j.at a
 replace b := j.at b
 have hS := eo.refl D
 refine Tf 0 rfl rfl fm hS <| Tk 1 rfl (fun _ hq => dm (v := .int .u8 _) rfl ey (At.cell (hq.at a) rfl)) hS <| Ti 2 rfl rfl hS <| Tk 3 rfl (fun _ _ => jv (m := 1) rfl rfl Om (by simp only [IntKind.bits]; omega) (by rw [Nat.one_mul]; simp only [ek]; omega)) hS <| Tk 4 rfl (fun _ _ => pr (n := _) rfl rfl rfl (by first | assumption | (simp only [ek]; omega) | (simp only [ek]; decide)) (by rw [Nat.one_mul]; simp only [ek]; omega)) hS <| Tf 5 rfl rfl fm hS <| To 6 rfl (eA (v := .int .u8 _) rfl rfl ey rfl a (by simp) fun K r E => ⟨.inr (by kernel_rfl), ?_⟩)
 replace hB := Zg hB r A
 replace b := At.grownNe b (Ne.symm e) r
 replace a := E
 replace a : At _ _ #[_, _] _ := a
 refine Td <| h _ _ <| Zr <| Zv (da rfl dR rfl a) <| ZC (vs := [.agg #[_, _]]) BL (nI _ _ _ (by first | omega | assumption) (by first | omega | assumption)) rfl fun s L k d => ?_
 replace hB := Ze hB k
 replace a := k.at a
 replace b := k.at b
 obtain rfl := d
 refine Zy (df rfl rfl dR rfl b rfl rfl fun M t F => ?_)
 replace hB := Zg hB t g
 replace a := At.grownNe a e t
 replace b := F
 refine cT <| Zt <| jS rfl dR b rfl ⟨hB, ?_⟩
 first | (rw [Ng, jA, if_pos (by omega)]; simp only [Nat.one_mul]) | (rw [Ng, jA, if_neg (by omega)])
 refine c7 <| h _ _ <| Zr <| Zv (da rfl dR rfl a) <| ZC (vs := [.agg #[_, _]]) BL (nI _ _ _ (by first | omega | assumption) (by first | omega | assumption)) rfl fun s N l d => ?_
 replace hB := Ze hB l
 replace a := l.at a
 replace b := l.at b
 obtain rfl := d
 refine Zy (df rfl rfl dR rfl b rfl rfl fun O x G => ?_)
 replace hB := Zg hB x g
 replace a := At.grownNe a e x
 replace b := G
 refine cT <| Zt <| jS rfl dR b rfl ⟨hB, ?_⟩
 first | (rw [Ng, jA, if_pos (by omega)]; simp only [Nat.one_mul]) | (rw [Ng, jA, if_neg (by omega)])
 refine Zs <| Zs <| Zw (.bool false) rfl <| cT <| ep rfl <| c7 <| h _ _ <| Zr <| Zv (da rfl dR rfl a) <| ZC (vs := [.agg #[_, _]]) BL (nI _ _ _ (by first | omega | assumption) (by first | omega | assumption)) rfl fun s P o d => ?_
 replace hB := Ze hB o
 replace a := o.at a
 replace b := o.at b
 obtain rfl := d
 refine Zy (df rfl rfl dR rfl b rfl rfl fun Q y H => ?_)
 replace hB := Zg hB y g
 replace a := At.grownNe a e y
 replace b := H
 refine cT <| Zt <| jS rfl dR b rfl ⟨hB, ?_⟩
 first | (rw [Ng, jA, if_pos (by omega)]; simp only [Nat.one_mul]) | (rw [Ng, jA, if_neg (by omega)])
end
section
open Go Go.RowKit
theorem yT : dH Tryz.prog 67 = true := by kernel_rfl
theorem oX : dH Tryz.prog 41 = true := by kernel_rfl
theorem CP : dH Tryz.prog 61 = true := by kernel_rfl
theorem sY {f : Nat → Value} {w : World} {d : Option Nat} {ty : TypeId} {ps : String} {af : Array Edge} {g : Option (Nat × Bool)}    :
    (execOp (dK f) ⟨d, .build 40 #[], ty, ps, af, g⟩).run Tryz.prog w = .ok (.value (.agg #[.int .u8 0, .int .u8 0])) w := by
  obtain ⟨i0, hi0, hz0⟩ := Option.bind_eq_some_iff.1 (show (Tryz.prog.info? 40).bind (·.zero) = _ from jp)
  obtain ⟨j5, hj5, hs5⟩ := Option.map_eq_some_iff.1 rn
  simp [execOp, Instr.build, zeroValue, typeInfo, sizeOf, hi0, hz0, run_underlying Tryz.underlying40, Instr.fill, eW, hj5, hs5]
theorem xK : dH Tryz.prog 59 = true := by kernel_rfl
theorem eX : fI Tryz.prog 66 = some (40, 2, 2) := by kernel_rfl
theorem LK : dH Tryz.prog 96 = true := by kernel_rfl
theorem iX : (eH Tryz.prog 40).map (fun z => z.cells.size) = some 2 := by kernel_rfl
theorem l6 (m u s : Nat) (n : Int) (w : World) (hm : m < 256) (hv : u < 256) :
    Fn Tryz.prog 61 #[.agg #[.int .u8 (m : Int), .int .u8 (u : Int)], eM s, .int .i64 n] w fun v w' => v = .bool (oy m u s n) := by
 refine dr (n := 22) Tryz.func61 rfl rfl (Nat.le_of_ble_eq_true rfl) ?_
 have hB : Below w.heap.size w w := Below.refl _ _
 refine Zr <| Zy (dW (c := #[_, _]) rfl rfl fun B W3 k p a => ?_)
 have C := ZO k hB
 clear k
 replace hB := Ze hB p
 refine Zy (dW (c := #[_, _, _, _]) rfl rfl fun D W6 l o b => ?_)
 have E := ZO l hB
 clear l
 replace hB := Ze hB o
 replace a := o.at a
 refine Zw (.bool false) rfl <| cT <| Zr <| Zv (da rfl dR rfl a) <| Zi rfl <| ZC (vs := [.agg #[_, _], .int .i64 _]) yT (kR _ _ _ _ (by first | assumption | omega) (by first | assumption | omega)) rfl fun F G g q => ?_
 replace hB := Ze hB g
 replace a := g.at a
 replace b := g.at b
 obtain ⟨sa, er, rfl, hhP1_2⟩ := sE q
 refine Zw (.tuple #[.agg #[_, _, _, _], .int .i64 _]) rfl <| Zv (dF rfl) <| Zv (dG rfl) <| Zy (dp eJ rfl fun r t h i d => ?_)
 have x := ZO h hB
 have y := Zn h b.lt
 clear h
 replace hB := Ze hB i
 replace a := i.at a
 replace b := i.at b
 replace d : At t r #[wv 0 0, wv 0 1, wv 0 2, wv 0 3] 49 := d
 refine Zy (df rfl rfl db rfl d rfl rfl fun H j z => ?_)
 replace hB := Zg hB j x
 replace a := At.grownAt a d j Dd
 replace b := At.grownNe b y j
 replace d := z
 refine Zi rfl <| cT <| Zr <| Zi rfl <| Zv (eq rfl rfl) <| ZX rfl (fun e => ?_) fun e => ?_
 refine Zv (da rfl db rfl d) <| Zv (da rfl db rfl b) <| ZC (vs := [.agg #[_, _, _, _], .agg #[_, _, _, _]]) oX (ib _ _ _) rfl fun I J f A => ?_
 replace hB := Ze hB f
 replace a := f.at a
 replace b := f.at b
 replace d := f.at d
 obtain rfl := A
 refine Zb rfl <| Zb rfl <| cT <| Zt <| dL (v := .bool _) rfl ⟨hB, ?_⟩
 first | exact congrArg Value.bool (IH hhP1_2 e) | exact congrArg Value.bool (Ef hhP1_2 e)
 refine Zs <| Zs <| Zs <| Zw (.bool false) rfl <| Zw (.bool false) rfl <| cT <| Zt <| dL (v := .bool false) rfl ⟨hB, ?_⟩
 first | exact congrArg Value.bool (IH hhP1_2 e) | exact congrArg Value.bool (Ef hhP1_2 e)
theorem y6 (c : Cb) (s : Nat) (n : Int) (w : World) (hm : c.m < 256 ∧ c.v < 256) :
    Fn Tryz.prog 87 #[.agg #[.int .u8 (c.m : Int), .int .u8 (c.v : Int)], eM s, .int .i64 n] w fun v w' => v = if oy c.m c.v s n = true then .tuple #[.agg #[.int .u8 ((jo s n c).m : Int), .int .u8 ((jo s n c).v : Int)], .int .i64 0] else .tuple #[.agg #[.int .u8 0, .int .u8 0], .int .i64 1] := by
 refine dr (n := 30) Tryz.func87 rfl rfl (Nat.le_of_ble_eq_true rfl) ?_
 have hB : Below w.heap.size w w := Below.refl _ _
 refine Zr <| Zy (dW (c := #[_, _]) rfl rfl fun G W3 z H a => ?_)
 have I := ZO z hB
 clear z
 replace hB := Ze hB H
 refine Zy (dW (c := #[_, _, _, _]) rfl rfl fun J W6 A B d => ?_)
 have Z := ZO A hB
 clear A
 replace hB := Ze hB B
 replace a := B.at a
 refine Zy (dp jp rfl fun K W9 q r b => ?_)
 have C := ZO q hB
 have t := Zn q a.lt
 clear q
 replace hB := Ze hB r
 replace a := r.at a
 replace d := r.at d
 refine Zw (.int .i64 0) rfl <| cT <| cY fun aa L => Zr <| Zv (da rfl dR rfl a) <| Zv (da rfl db rfl d) <| Zi rfl <| ZC (vs := [.agg #[_, _], .agg #[_, _, _, _], .int .i64 _]) CP (l6 _ _ _ _ _ (by first | assumption | omega) (by first | assumption | omega)) rfl fun ab ac h M => ?_
 replace hB := Ze hB h
 replace a := h.at a
 replace d := h.at d
 replace b := h.at b
 obtain rfl := M
 refine Zv (fJ rfl) <| cT <| ZQ rfl (fun u => ?_) fun u => ?_
 refine Zr <| Zv (sY ) <| Zy (df rfl rfl dR rfl b rfl rfl fun ad x N => ?_)
 replace hB := Zg hB x C
 replace a := At.grownNe a t x
 replace d := At.grownAt d b x Dd
 replace b := N
 refine Zw (.int .i64 1) rfl <| cT <| Zt <| fj rfl dR b rfl (v1 := .int .i64 1) rfl ⟨hB, ?_⟩
 rw [if_neg (by simpa using u)]
 refine c7 <| L _ _ <| cY fun ae O => ?_
 have hw : oy c.m c.v s n = true := by simpa using u
 obtain ⟨hn0, hn8, _, _⟩ := dU.1 (sA hw)
 refine Zr <| Zi rfl <| Zw (.int .i64 0) rfl <| cT <| c9 ?_
 refine dy (σ := (Nat)) [8, 9, 17, 18, 19, 20, 21, 22, 23, 24, 25, 26, 27, 28] (fun i => [(17, .int .i64 (i : Int))]) (fun i W => (Below w.heap.size w W) ∧ (At W J _ 49) ∧ (At W K _ 40) ∧ (At W G #[.int .u8 ((eU s n c i).m : Int), .int .u8 ((eU s n c i).v : Int)] 40) ∧ (i ≤ n.toNat) ∧ (True)) (fun i => n.toNat - i) (0) ⟨rfl, trivial⟩ ⟨hB, d, b, a, (Nat.zero_le _), trivial⟩ ?_
 clear hB a d b
 rintro i af ag ⟨hB, d, b, a, hi, _⟩ ah D
 refine Zr <| Zv (dP rfl rfl) <| cT <| cY fun ai P => ZQ rfl (fun Q => ?_) fun Q => ?_
 refine c7 <| P _ _ <| cY fun aj E => c9 <| Zr <| Zi rfl <| Zi rfl <| cT ?_
 have hg := xm (s := s) (n := n) hm i
 have hle := uA (eU s n c i).m (i : Int)
 have hle2 : (eU s n c i).v &&& jA (eU s n c i).m (i : Int) ≤ (eU s n c i).v := Nat.and_le_left
 refine Zr <| Zv (da rfl dR rfl a) <| Zi rfl <| ZC (vs := [.agg #[_, _], .int .i64 _]) xK (jW _ _ _ _ (by first | assumption | omega) (by first | assumption | omega)) rfl fun ak al j R => ?_
 replace hB := Ze hB j
 replace d := j.at d
 replace b := j.at b
 replace a := j.at a
 obtain rfl := R
 refine Zy (dp jp rfl fun ao ap k l e => ?_)
 have S := ZO k hB
 have T := Zn k b.lt
 have F := Zn k a.lt
 clear k
 replace hB := Ze hB l
 replace d := l.at d
 replace b := l.at b
 replace a := l.at a
 refine Zy (df rfl rfl dR rfl e rfl rfl fun aq o U => ?_)
 replace hB := Zg hB o S
 replace d := At.grownAt d e o Dd
 replace b := At.grownNe b T o
 replace a := At.grownNe a F o
 replace e := U
 refine cT <| Zr <| Zv (da rfl dR rfl e) <| Zv (da rfl db rfl d) <| Zi rfl <| ZC (vs := [.agg #[_, _], .agg #[_, _, _, _], .int .i64 _]) CP (l6 _ _ _ _ _ (by first | assumption | omega) (by first | assumption | omega)) rfl fun ar au f V => ?_
 replace hB := Ze hB f
 replace d := f.at d
 replace b := f.at b
 replace a := f.at a
 replace e := f.at e
 obtain rfl := V
 refine cT <| ZQ rfl (fun g => ?_) fun g => ?_
 refine cZ <| Zv (da rfl dR rfl e) <| Zy (df rfl rfl dR rfl a rfl rfl fun av p X => ?_)
 replace hB := Zg hB p I
 replace d := At.grownAt d a p Dd
 replace b := At.grownNe b (Ne.symm t) p
 replace e := At.grownNe e (Ne.symm F) p
 replace a := X
 refine cT <| E _ _ <| cZ <| Zv (dq rfl rfl Om Om) <| Zi rfl <| cT ?_
 exact D _ _ (i + 1) Za ⟨rfl, trivial⟩ ⟨hB, d, b, (by first | (rw [vL g]; exact a) | (rw [uX g]; exact a)), Om, trivial⟩ Zo
 refine c7 <| E _ _ <| cZ <| Zv (dq rfl rfl Om Om) <| Zi rfl <| cT ?_
 exact D _ _ (i + 1) Za ⟨rfl, trivial⟩ ⟨hB, d, b, (by first | (rw [vL g]; exact a) | (rw [uX g]; exact a)), Om, trivial⟩ Zo
 refine dt <| O _ _ <| Zr <| Zv (da rfl dR rfl a) <| Zy (df rfl rfl dR rfl b rfl rfl fun aw y Y => ?_)
 replace hB := Zg hB y C
 replace d := At.grownAt d b y Dd
 replace a := At.grownNe a t y
 replace b := Y
 refine Zw (.int .i64 0) rfl <| cT <| Zt <| fj rfl dR b rfl (v1 := .int .i64 0) rfl ⟨hB, ?_⟩
 have hin : i = n.toNat := by omega
 subst hin
 rw [if_pos hw]
 rfl
theorem sj (b m u m2 u2 : Nat) (w : World) (hb : At w b #[.int .u8 (m2 : Int), .int .u8 (u2 : Int)] 40) :
    Fn Tryz.prog 96 #[.agg #[.int .u8 (m : Int), .int .u8 (u : Int)], .pointer (some ⟨b, 0, none⟩)] w fun v w' => v = .bool (uM ⟨m, u⟩ ⟨m2, u2⟩) := by
 refine dr (n := 23) Tryz.func96 rfl rfl (Nat.le_of_ble_eq_true rfl) ?_
 have hB : Below w.heap.size w w := Below.refl _ _
 refine Zr <| Zy (dW (c := #[_, _]) rfl rfl fun h W3 f g e => ?_)
 have i := ZO f hB
 clear f
 replace hB := Ze hB g
 refine Zw (.bool false) rfl <| cT <| Zr <| Zf rfl fm <| Zl rfl ey e rfl <| Zf rfl fm <| Zl rfl ey (Below.atI hB hb) rfl <| Zv (dP rfl rfl) <| ZX rfl (fun a => ?_) fun a => ?_
 refine Zs <| Zs <| Zs <| Zs <| Zs <| Zs <| Zs <| Zs <| Zs <| Zs <| Zs <| Zs <| Zw (.bool true) rfl <| Zw (.bool true) rfl ?_
 refine cT <| Zt <| dL (v := .bool true) rfl ⟨hB, ?_⟩
 first | exact congrArg Value.bool (F4 a) | exact congrArg Value.bool (Gd a d) | exact congrArg Value.bool (Gm a d)
 refine Zf rfl fm <| Zl rfl ey e rfl <| Zf rfl fm <| Zl rfl ey (Below.atI hB hb) rfl <| Zv (eq rfl rfl) <| ZX rfl (fun d => ?_) fun d => ?_
 refine Zf rfl g7 <| Zl rfl ey e rfl <| Zf rfl g7 <| Zl rfl ey (Below.atI hB hb) rfl <| Zv (dP rfl rfl) <| Zb rfl <| Zb rfl <| Zb rfl <| cT <| Zt <| dL (v := .bool _) rfl ⟨hB, ?_⟩
 first | exact congrArg Value.bool (F4 a) | exact congrArg Value.bool (Gd a d) | exact congrArg Value.bool (Gm a d)
 refine Zs <| Zs <| Zs <| Zs <| Zs <| Zw (.bool false) rfl <| Zw (.bool false) rfl <| Zw (.bool false) rfl <| cT <| Zt <| dL (v := .bool false) rfl ⟨hB, ?_⟩
 first | exact congrArg Value.bool (F4 a) | exact congrArg Value.bool (Gd a d) | exact congrArg Value.bool (Gm a d)
theorem ut (x : Value) (l : List Cb) (c : Cb) (w : World) (hl : dO gW 2 w x l) (hn : l.length ≤ 70000) :
    Fn Tryz.prog 60 #[x, .agg #[.int .u8 (c.m : Int), .int .u8 (c.v : Int)]] w fun v w' => dh gW 2 40 w' w.heap.size v (yX l c) := by
 refine dr (n := 35) Tryz.func60 rfl rfl (Nat.le_of_ble_eq_true rfl) ?_
 have hB : Below w.heap.size w w := Below.refl _ _
 have hC : l.length ≤ iR x := (Sl.eqv hl).2.1
 refine Zr <| Zy (dW (c := #[_, _]) rfl rfl fun h W3 K Q b => ?_)
 have Z := ZO K hB
 clear K
 replace hB := Ze hB Q
 refine Zw (.slice none 0 0) rfl <| cT <| Zr <| Zv (gS (vs := #[.pointer (some ⟨h, 0, none⟩)]) (by simp only [List.map_toArray, List.map_cons, List.map_nil]; rfl)) <| Zw (.func (.func 96) #[] #[.pointer (some ⟨h, 0, none⟩)]) rfl <| cT <| Zr <| Zw x rfl <| Zv (dB (v := x) rfl (Below.slT hB hl) eX) <| Zi rfl <| cT <| cY fun aa L => c9 ?_
 refine dy (σ := (Nat)) [6, 10, 11, 12, 13, 14, 15, 16, 17, 18, 19, 20, 21, 22, 23] (fun i => [(6, .int .i64 (i : Int))]) (fun i W => (Below w.heap.size w W) ∧ (At W h _ 40) ∧ (i ≤ l.length) ∧ (mB l c l.length = mB l c i) ∧ (True)) (fun i => i) (l.length) ⟨rfl, trivial⟩ ⟨hB, b, (Nat.le_refl _), rfl, trivial⟩ ?_
 clear hB b
 rintro i ab ac ⟨hB, b, hi, hp, _⟩ ad R
 refine cY fun ae S => Zr <| Zi rfl <| Zv (i4 rfl rfl) <| ZX rfl (fun T => ?_) fun T => ?_
 refine Zw (.func (.func 96) #[] #[.pointer (some ⟨h, 0, none⟩)]) rfl <| Zw x rfl <| Zi rfl <| Zv (kI rfl rfl Om Om) <| Zv (dM (v := x) rfl (Below.slT hB hl) rfl eX Om (by first | omega | (simp only [cV, cX, cW, de]; omega))) <| Zv (iJ rfl dR (dO.cell (Below.slT hB hl) gg ⟨0, 0⟩ Om (by first | omega | (simp only [cV, cX, cW, de]; omega)) 0 rfl) (dO.cell (Below.slT hB hl) gg ⟨0, 0⟩ Om (by first | omega | (simp only [cV, cX, cW, de]; omega)) 1 rfl)) ?_
 refine pR (dd := some 19) rfl rfl rfl (jG (q := 96) (first := #[]) (cap := #[.pointer (some ⟨h, 0, none⟩)]) (vs := #[.agg #[_, _], .pointer (some ⟨h, 0, none⟩)]) rfl LK (by simp only [List.map_toArray, List.map_cons, List.map_nil, List.append_toArray, List.nil_append, List.cons_append]; rfl)) (sj _ _ _ _ _ _ b) (fun af ag M U => ?_)
 replace hB := Ze hB M
 replace b := M.at b
 obtain rfl := U
 refine Zv (fJ rfl) <| Zb rfl <| cT <| ZQ rfl (fun p => ?_) fun p => ?_
 refine c7 <| S _ _ <| c9 <| cZ <| Zi rfl <| Zv (kI rfl rfl Om Om) <| Zi rfl <| cT ?_
 exact R _ _ (i - 1) Za ⟨congrArg (Value.int .i64) (by omega : (i : Int) - 1 = ((i - 1 : Nat) : Int)), trivial⟩ ⟨hB, b, Om, (hp.trans (HQ Om p)), trivial⟩ Zo
 refine dt <| L _ _ ?_
 have hpos : mB l c l.length = i := hp.trans (Di (by first | exact .inl (by omega) | exact .inr p))
 have hil : ((i : Nat) : Int).toNat = i := rfl
 refine Zd eo fun V O => ?_
 replace hB := Ze hB O
 replace b := O.at b
 have hS := eo.refl V
 refine Tw 0 x rfl rfl hS <| Ti 1 rfl rfl hS <| Ti 2 rfl rfl hS <| Tk 3 rfl (fun _ hq => lS (v := x) rfl (hq.slT (Below.slT hB hl)) eX rfl rfl Om Om Om) hS ?_
 have B : dO gW 2 w (fS 2 x 0 i i) ((l.drop 0).take (i - 0)) := dO.part gg hl (by omega) (by omega) (by omega) (by omega)
 refine Tk 4 rfl (fun _ hq => da rfl dR rfl (hq.at b)) hS <| Tw 6 x rfl rfl hS <| Ti 7 rfl rfl hS <| Tk 8 rfl (fun _ hq => lT (v := x) rfl (hq.slT (Below.slT hB hl)) eX rfl Om Om) hS ?_
 have C : dO gW 2 w (fS 2 x i l.length (iR x)) ((l.drop i).take (l.length - i)) := dO.part gg hl (by omega) (by omega) (by omega) (by omega)
 refine To 5 rfl (fp (u := .agg #[_, _]) rfl eX iX rfl Dd Dd fun g ah r s D => ⟨.inl (hS.trans s), ?_⟩)
 have E := ZO r hB
 have k := Nat.le_trans (eo.size hS) (Nat.le_of_eq r.symm)
 have X := Zn r b.lt
 clear r
 replace hB := Ze hB s
 replace b := s.at b
 replace hS := hS.trans s
 have F := iu (enc := gW) (a := c) D rfl rfl E
 refine To 9 rfl (eB (v := .slice (some ⟨g, 0, none⟩) 1 1) (v2 := fS 2 x i l.length (iR x)) rfl rfl eX iX Dd F (Below.slT hB C) (n4) (by have := Below.size hB; omega) (by simp; omega) (by simp; omega) fun G ai H d => ⟨.inl (du hS H (Nat.le_refl _) (fun j hj => by have e : g = j := Option.some.inj hj; rw [← e]; exact k)), ?_⟩)
 replace hS : eo _ _ := du hS H (Nat.le_refl _) (fun j hj => by have e : g = j := Option.some.inj hj; rw [← e]; exact k)
 replace d := dh.app (enc := gW) rfl rfl rfl rfl d
 replace hB := ZG hB H F
 clear F
 refine To 10 rfl (jn (N := w.heap.size) (v := fS 2 x 0 i i) (v2 := G) rfl rfl eX iX (Below.slT hB B) (pQ (by simp; omega)) d.sl (by simp) (Below.size hB) (by simp; omega) (by simp; omega) fun o aj t f => ⟨.inl (hS.trans t), ?_⟩)
 replace f := dh.app (enc := gW) rfl rfl rfl rfl f
 replace hB := Ze hB t
 replace d := t.ow d
 replace hS := hS.trans t
 refine Tw 11 o rfl rfl hS <| Td <| Zt <| dL (v := o) rfl ⟨hB, ?_⟩
 have e : (l.drop i).take (l.length - i) = l.drop i := List.take_of_length_le (by simp)
 rw [e] at f
 rw [yX, hpos]
 simpa using f
 refine Zs <| Zs <| Zs <| Zs <| Zs <| Zs <| Zs <| Zs <| Zw (.bool false) rfl <| cT <| ep rfl <| dt <| L _ _ ?_
 have hpos : mB l c l.length = i := hp.trans (Di (by first | exact .inl (by omega) | exact .inr p))
 have hil : ((i : Nat) : Int).toNat = i := rfl
 refine Zd eo fun Y P => ?_
 replace hB := Ze hB P
 replace b := P.at b
 have hS := eo.refl Y
 refine Tw 0 x rfl rfl hS <| Ti 1 rfl rfl hS <| Ti 2 rfl rfl hS <| Tk 3 rfl (fun _ hq => lS (v := x) rfl (hq.slT (Below.slT hB hl)) eX rfl rfl Om Om Om) hS ?_
 have B : dO gW 2 w (fS 2 x 0 i i) ((l.drop 0).take (i - 0)) := dO.part gg hl (by omega) (by omega) (by omega) (by omega)
 refine Tk 4 rfl (fun _ hq => da rfl dR rfl (hq.at b)) hS <| Tw 6 x rfl rfl hS <| Ti 7 rfl rfl hS <| Tk 8 rfl (fun _ hq => lT (v := x) rfl (hq.slT (Below.slT hB hl)) eX rfl Om Om) hS ?_
 have C : dO gW 2 w (fS 2 x i l.length (iR x)) ((l.drop i).take (l.length - i)) := dO.part gg hl (by omega) (by omega) (by omega) (by omega)
 refine To 5 rfl (fp (u := .agg #[_, _]) rfl eX iX rfl Dd Dd fun g ak y z D => ⟨.inl (hS.trans z), ?_⟩)
 have E := ZO y hB
 have k := Nat.le_trans (eo.size hS) (Nat.le_of_eq y.symm)
 have X := Zn y b.lt
 clear y
 replace hB := Ze hB z
 replace b := z.at b
 replace hS := hS.trans z
 have I := iu (enc := gW) (a := c) D rfl rfl E
 refine To 9 rfl (eB (v := .slice (some ⟨g, 0, none⟩) 1 1) (v2 := fS 2 x i l.length (iR x)) rfl rfl eX iX Dd I (Below.slT hB C) (n4) (by have := Below.size hB; omega) (by simp; omega) (by simp; omega) fun G al J d => ⟨.inl (du hS J (Nat.le_refl _) (fun j hj => by have e : g = j := Option.some.inj hj; rw [← e]; exact k)), ?_⟩)
 replace hS : eo _ _ := du hS J (Nat.le_refl _) (fun j hj => by have e : g = j := Option.some.inj hj; rw [← e]; exact k)
 replace d := dh.app (enc := gW) rfl rfl rfl rfl d
 replace hB := ZG hB J I
 clear I
 refine To 10 rfl (jn (N := w.heap.size) (v := fS 2 x 0 i i) (v2 := G) rfl rfl eX iX (Below.slT hB B) (pQ (by simp; omega)) d.sl (by simp) (Below.size hB) (by simp; omega) (by simp; omega) fun o ao A f => ⟨.inl (hS.trans A), ?_⟩)
 replace f := dh.app (enc := gW) rfl rfl rfl rfl f
 replace hB := Ze hB A
 replace d := A.ow d
 replace hS := hS.trans A
 refine Tw 11 o rfl rfl hS <| Td <| Zt <| dL (v := o) rfl ⟨hB, ?_⟩
 have e : (l.drop i).take (l.length - i) = l.drop i := List.take_of_length_le (by simp)
 rw [e] at f
 rw [yX, hpos]
 simpa using f
end
end Go.Proofs.YteimkklmmanncaaGreat
