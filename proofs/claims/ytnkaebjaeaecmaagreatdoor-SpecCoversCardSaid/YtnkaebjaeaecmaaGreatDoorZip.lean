/-
  Short forms of the laws of walking: what a step asks for of itself is checked by itself (no condition).
-/
import Derived.Test.YtnkaebjaeaecmaaGreatDoorSlice
namespace Go.Proofs.YtnkaebjaeaecmaaGreatDoor
set_option linter.unusedVariables false
set_option linter.unusedSimpArgs false
open Go Go.RowKit

/-- A test's two answers, as propositions. -/
class Tst (b : Bool) (p : outParam Prop) : Prop where
  t : b = true → p
  f : b = false → ¬ p
instance (priority := low) tst_0 (b : Bool) : Tst b (b = true) := ⟨id, fun h => by simp [h]⟩
instance tst_1 (p : Prop) [Decidable p] : Tst (decide p) p := ⟨of_decide_eq_true, of_decide_eq_false⟩
class Tsf (b : Bool) (p : outParam Prop) : Prop where
  f : b = false → p
instance (priority := low) tsf_0 (b : Bool) : Tsf b (b = false) := ⟨id⟩
instance tsf_1 (p : Prop) [Decidable p] : Tsf (decide p) (¬ p) := ⟨of_decide_eq_false⟩

theorem Om {p : Prop} (h : p := by omega) : p := h
theorem Dc {p : Prop} (h : p := by decide) : p := h
theorem Za {p : Prop} (h : p := by repeat (first | exact agree.mask _ _ _ | refine agree.updo ?_ rfl _ | refine agree.updL ?_ _ rfl | refine agree.maskS rfl ?_)) : p := h
theorem Zo {p : Prop} (h : p := by first | omega | (dsimp only; omega)) : p := h

/-- A step's own tests. -/
def okS (ops : Array Oper) (f : Nat → Value) (o : Oper) (n : Nat) : Bool := wantedF ops f o && dstOk n o.dst
def noS (ops : Array Oper) (f : Nat → Value) (o : Oper) (n : Nat) : Bool := !wantedF ops f o && dstOk n o.dst
theorem okS_1 {ops : Array Oper} {f : Nat → Value} {o : Oper} {n : Nat} (h : okS ops f o n = true) : wantedF ops f o = true := (Bool.and_eq_true_iff.1 h).1
theorem okS_2 {ops : Array Oper} {f : Nat → Value} {o : Oper} {n : Nat} (h : okS ops f o n = true) : dstOk n o.dst = true := (Bool.and_eq_true_iff.1 h).2
theorem noS_1 {ops : Array Oper} {f : Nat → Value} {o : Oper} {n : Nat} (h : noS ops f o n = true) : wantedF ops f o = false := by simpa using (Bool.and_eq_true_iff.1 h).1
theorem noS_2 {ops : Array Oper} {f : Nat → Value} {o : Oper} {n : Nat} (h : noS ops f o n = true) : dstOk n o.dst = true := (Bool.and_eq_true_iff.1 h).2

/-- What an operation that only hands on comes to. -/
def mvV (f : Nat → Value) : Op → Option Value
  | .move x => some (evF f x)
  | .assign x => some (evF f x)
  | .pick c x y => match evF f c with
    | .bool true => some (evF f x)
    | .bool false => some (evF f y)
    | _ => none
  | _ => none

section
variable {P : Program} {n : Nat} {ops : Array Oper} {Q : (Nat → Value) → World → Prop} {f : Nat → Value} {w : World} {rest : List Oper} {d : Option Nat} {op : Op} {ty : TypeId} {ps : String} {af : Array Edge} {g : Option (Nat × Bool)}

theorem mvV_run {v : Value} (h : mvV f op = some v) : (execOp (evF f) ⟨d, op, ty, ps, af, g⟩).run P w = .ok (.value v) w := by
  unfold mvV at h
  split at h
  · obtain rfl := Option.some.inj h; exact r_move rfl
  · obtain rfl := Option.some.inj h; exact r_assign rfl
  · split at h
    · obtain rfl := Option.some.inj h; rename_i e; exact r_pick_t e rfl
    · obtain rfl := Option.some.inj h; rename_i e; exact r_pick_f e rfl
    · cases h
  · cases h

theorem Zv {v : Value} {w' : World} (hr : (execOp (evF f) ⟨d, op, ty, ps, af, g⟩).run P w = .ok (.value v) w') (h : WL P n ops Q rest (updo f d v) w') (hk : okS ops f ⟨d, op, ty, ps, af, g⟩ n = true := by exact rfl) :
    WL P n ops Q (⟨d, op, ty, ps, af, g⟩ :: rest) f w := WL_val (okS_1 hk) rfl (okS_2 hk) hr h
theorem Zw (v : Value) (hv : mvV f op = some v) (h : WL P n ops Q rest (updo f d v) w) (hk : okS ops f ⟨d, op, ty, ps, af, g⟩ n = true := by exact rfl) :
    WL P n ops Q (⟨d, op, ty, ps, af, g⟩ :: rest) f w := Zv (mvV_run hv) h hk
theorem Zi {k : IntKind} {z : Int} (hv : mvV f op = some (.int k z)) (h : WL P n ops Q rest (updo f d (.int k z)) w) (hk : okS ops f ⟨d, op, ty, ps, af, g⟩ n = true := by exact rfl) :
    WL P n ops Q (⟨d, op, ty, ps, af, g⟩ :: rest) f w := Zv (mvV_run hv) h hk
theorem Zb {b : Bool} (hv : mvV f op = some (.bool b)) (h : WL P n ops Q rest (updo f d (.bool b)) w) (hk : okS ops f ⟨d, op, ty, ps, af, g⟩ n = true := by exact rfl) :
    WL P n ops Q (⟨d, op, ty, ps, af, g⟩ :: rest) f w := Zv (mvV_run hv) h hk
theorem Zp {b o : Nat} (hv : mvV f op = some (.pointer (some ⟨b, o, none⟩))) (h : WL P n ops Q rest (updo f d (.pointer (some ⟨b, o, none⟩))) w) (hk : okS ops f ⟨d, op, ty, ps, af, g⟩ n = true := by exact rfl) :
    WL P n ops Q (⟨d, op, ty, ps, af, g⟩ :: rest) f w := Zv (mvV_run hv) h hk
theorem Zf {x : Operand} {t : TypeId} {k q b o : Nat} (hx : evF f x = .pointer (some ⟨b, o, none⟩)) (hT : fieldO P t k = some q) (h : WL P n ops Q rest (updo f d (.pointer (some ⟨b, o + q, none⟩))) w)
    (hk : okS ops f ⟨d, .fieldAddr t x k, ty, ps, af, g⟩ n = true := by exact rfl) : WL P n ops Q (⟨d, .fieldAddr t x k, ty, ps, af, g⟩ :: rest) f w := Zv (r_fieldAddr hx hT) h hk
theorem Zc {x : Operand} {a : Addr} (hx : evF f x = .pointer (some a)) (h : WL P n ops Q rest (updo f d (.pointer (some a))) w)
    (hk : okS ops f ⟨d, .nilCheck x, ty, ps, af, g⟩ n = true := by exact rfl) : WL P n ops Q (⟨d, .nilCheck x, ty, ps, af, g⟩ :: rest) f w := Zv (r_nilCheck_ptr hx) h hk
theorem Zl {x : Operand} {t : TypeId} {b o : Nat} {k : IntKind} {z : Int} {c : Array Value} {T : TypeId} (hx : evF f x = .pointer (some ⟨b, o, none⟩)) (hT : scalarB P t = true) (hm : At w b c T) (hc : c[o]? = some (.int k z))
    (h : WL P n ops Q rest (updo f d (.int k z)) w) (hk : okS ops f ⟨d, .load t x, ty, ps, af, g⟩ n = true := by exact rfl) : WL P n ops Q (⟨d, .load t x, ty, ps, af, g⟩ :: rest) f w := Zv (r_load1 hx hT (At.cell hm hc)) h hk
theorem ZL (v : Value) {x : Operand} {t : TypeId} {b o : Nat} {c : Array Value} {T : TypeId} (hx : evF f x = .pointer (some ⟨b, o, none⟩)) (hT : scalarB P t = true) (hm : At w b c T) (hc : c[o]? = some v)
    (h : WL P n ops Q rest (updo f d v) w) (hk : okS ops f ⟨d, .load t x, ty, ps, af, g⟩ n = true := by exact rfl) : WL P n ops Q (⟨d, .load t x, ty, ps, af, g⟩ :: rest) f w := Zv (r_load1 hx hT (At.cell hm hc)) h hk
theorem Zs (h : WL P n ops Q rest (updo f d undef) w) (hk : noS ops f ⟨d, op, ty, ps, af, g⟩ n = true := by exact rfl) : WL P n ops Q (⟨d, op, ty, ps, af, g⟩ :: rest) f w := WL_skip (noS_1 hk) rfl (noS_2 hk) h
theorem Zy (h : Yd P ⟨d, op, ty, ps, af, g⟩ f w fun v w' => WL P n ops Q rest (updo f d v) w') (hk : okS ops f ⟨d, op, ty, ps, af, g⟩ n = true := by exact rfl) : WL P n ops Q (⟨d, op, ty, ps, af, g⟩ :: rest) f w :=
  WL_step (okS_1 hk) rfl (okS_2 hk) h
theorem Zx {b : Bool} {p q : Prop} [Tst b p] [Tsf b q] (hr : (execOp (evF f) ⟨d, op, ty, ps, af, g⟩).run P w = .ok (.value (.bool b)) w) (ht : p → WL P n ops Q rest (updo f d (.bool true)) w) (hf : q → WL P n ops Q rest (updo f d (.bool false)) w)
    (hk : okS ops f ⟨d, op, ty, ps, af, g⟩ n = true := by exact rfl) : WL P n ops Q (⟨d, op, ty, ps, af, g⟩ :: rest) f w := WL_split (okS_1 hk) rfl (okS_2 hk) hr (fun h => ht (Tst.t h)) (fun h => hf (Tsf.f h))
theorem ZX {b : Bool} {p q : Prop} [Tst b p] [Tsf b q] (hv : mvV f op = some (.bool b)) (ht : p → WL P n ops Q rest (updo f d (.bool true)) w) (hf : q → WL P n ops Q rest (updo f d (.bool false)) w)
    (hk : okS ops f ⟨d, op, ty, ps, af, g⟩ n = true := by exact rfl) : WL P n ops Q (⟨d, op, ty, ps, af, g⟩ :: rest) f w := Zx (mvV_run hv) ht hf hk

/-- A call of a function by its number: its arguments are what its contract says. -/
theorem call_run {q : Nat} {tys : Array TypeId} {as : List Operand} {vs : List Value} (hc : callB P q = true) (hv : as.map (evF f) = vs) :
    (execOp (evF f) ⟨d, .call ⟨.value (.func q), as.toArray, tys⟩, ty, ps, af, g⟩).run P w = .ok (.enter q vs.toArray) w := r_call (first := #[]) (cap := #[]) rfl hc (by simp [hv])
theorem ZC {q : Nat} {tys : Array TypeId} {as : List Operand} {vs : List Value} {Post : Value → World → Prop} (hb : callB P q = true) (hc : Fn P q vs.toArray w Post) (hv : as.map (evF f) = vs)
    (h : ∀ v w', Ext w w' → Post v w' → WL P n ops Q rest (updo f d v) w') (hk : okS ops f ⟨d, .call ⟨.value (.func q), as.toArray, tys⟩, ty, ps, af, g⟩ n = true := by exact rfl) :
    WL P n ops Q (⟨d, .call ⟨.value (.func q), as.toArray, tys⟩, ty, ps, af, g⟩ :: rest) f w := WL_call (okS_1 hk) rfl (okS_2 hk) (call_run hb hv) hc h
theorem ZH {q : Nat} {tys : Array TypeId} {as : List Operand} {vs : List Value} {Post : Value → World → Prop} (hb : callB P q = true) (hc : FnG P q vs.toArray w Post) (hv : as.map (evF f) = vs)
    (h : ∀ v w', Post v w' → WL P n ops Q rest (updo f d v) w') (hk : okS ops f ⟨d, .call ⟨.value (.func q), as.toArray, tys⟩, ty, ps, af, g⟩ n = true := by exact rfl) :
    WL P n ops Q (⟨d, .call ⟨.value (.func q), as.toArray, tys⟩, ty, ps, af, g⟩ :: rest) f w := WL_callG (okS_1 hk) rfl (okS_2 hk) (call_run hb hv) hc h
end

section
variable {P : Program} {n : Nat} {ops : Array Oper} {Q : (Nat → Value) → World → Prop} {S : World → Prop} {f : Nat → Value} {w : World} {k : Nat} {L : Array Bool} {d : Option Nat} {op : Op} {ty : TypeId} {ps : String} {af : Array Edge} {g : Option (Nat × Bool)}

def tkB (ops : Array Oper) (L : Array Bool) (i : Nat) : Bool := Region.noSelect ops && Region.free .any ops L i && (Region.ready .any ops L).contains i
theorem tkB_1 {i : Nat} (h : tkB ops L i = true) : Region.noSelect ops = true ∧ Region.free .any ops L i = true ∧ (Region.ready .any ops L).contains i = true := by
  unfold tkB at h
  rw [Bool.and_eq_true, Bool.and_eq_true] at h
  exact ⟨h.1.1, h.1.2, h.2⟩

theorem Tk (i : Nat) {v : Value} (hi : ops[i]? = some ⟨d, op, ty, ps, af, g⟩) (hv : ∀ w', S w' → (execOp (evF f) ⟨d, op, ty, ps, af, g⟩).run P w' = .ok (.value v) w') (hS : S w)
    (h : WT P n ops Q S k (L.setIfInBounds i true) (updo f d v) w) (hk : okS ops f ⟨d, op, ty, ps, af, g⟩ n = true := by exact rfl) (ht : tkB ops L i = true := by kernel_rfl) : WT P n ops Q S (k + 1) L f w :=
  have q := tkB_1 ht
  WT_take i hi q.1 q.2.1 q.2.2 (okS_1 hk) rfl (okS_2 hk) hv hS h
theorem Tw (i : Nat) (v : Value) (hi : ops[i]? = some ⟨d, op, ty, ps, af, g⟩) (hv : mvV f op = some v) (hS : S w)
    (h : WT P n ops Q S k (L.setIfInBounds i true) (updo f d v) w) (hk : okS ops f ⟨d, op, ty, ps, af, g⟩ n = true := by exact rfl) (ht : tkB ops L i = true := by kernel_rfl) : WT P n ops Q S (k + 1) L f w :=
  Tk i hi (fun _ _ => mvV_run hv) hS h hk ht
theorem Ti (i : Nat) {q : IntKind} {z : Int} (hi : ops[i]? = some ⟨d, op, ty, ps, af, g⟩) (hv : mvV f op = some (.int q z)) (hS : S w)
    (h : WT P n ops Q S k (L.setIfInBounds i true) (updo f d (.int q z)) w) (hk : okS ops f ⟨d, op, ty, ps, af, g⟩ n = true := by exact rfl) (ht : tkB ops L i = true := by kernel_rfl) : WT P n ops Q S (k + 1) L f w :=
  Tk i hi (fun _ _ => mvV_run hv) hS h hk ht
theorem Ty (i : Nat) {b : Bool} (hi : ops[i]? = some ⟨d, op, ty, ps, af, g⟩) (hv : mvV f op = some (.bool b)) (hS : S w)
    (h : WT P n ops Q S k (L.setIfInBounds i true) (updo f d (.bool b)) w) (hk : okS ops f ⟨d, op, ty, ps, af, g⟩ n = true := by exact rfl) (ht : tkB ops L i = true := by kernel_rfl) : WT P n ops Q S (k + 1) L f w :=
  Tk i hi (fun _ _ => mvV_run hv) hS h hk ht
theorem Tq (i : Nat) {b o : Nat} (hi : ops[i]? = some ⟨d, op, ty, ps, af, g⟩) (hv : mvV f op = some (.pointer (some ⟨b, o, none⟩))) (hS : S w)
    (h : WT P n ops Q S k (L.setIfInBounds i true) (updo f d (.pointer (some ⟨b, o, none⟩))) w) (hk : okS ops f ⟨d, op, ty, ps, af, g⟩ n = true := by exact rfl) (ht : tkB ops L i = true := by kernel_rfl) : WT P n ops Q S (k + 1) L f w :=
  Tk i hi (fun _ _ => mvV_run hv) hS h hk ht
theorem Tf (i : Nat) {x : Operand} {t : TypeId} {m q b o : Nat} (hi : ops[i]? = some ⟨d, .fieldAddr t x m, ty, ps, af, g⟩) (hx : evF f x = .pointer (some ⟨b, o, none⟩)) (hT : fieldO P t m = some q) (hS : S w)
    (h : WT P n ops Q S k (L.setIfInBounds i true) (updo f d (.pointer (some ⟨b, o + q, none⟩))) w) (hk : okS ops f ⟨d, .fieldAddr t x m, ty, ps, af, g⟩ n = true := by exact rfl) (ht : tkB ops L i = true := by kernel_rfl) : WT P n ops Q S (k + 1) L f w :=
  Tk i hi (fun _ _ => r_fieldAddr hx hT) hS h hk ht
theorem Tc (i : Nat) {x : Operand} {a : Addr} (hi : ops[i]? = some ⟨d, .nilCheck x, ty, ps, af, g⟩) (hx : evF f x = .pointer (some a)) (hS : S w)
    (h : WT P n ops Q S k (L.setIfInBounds i true) (updo f d (.pointer (some a))) w) (hk : okS ops f ⟨d, .nilCheck x, ty, ps, af, g⟩ n = true := by exact rfl) (ht : tkB ops L i = true := by kernel_rfl) : WT P n ops Q S (k + 1) L f w :=
  Tk i hi (fun _ _ => r_nilCheck_ptr hx) hS h hk ht
theorem Tp (i : Nat) (hi : ops[i]? = some ⟨d, op, ty, ps, af, g⟩) (hS : S w) (h : WT P n ops Q S k (L.setIfInBounds i true) (updo f d undef) w) (hk : noS ops f ⟨d, op, ty, ps, af, g⟩ n = true := by exact rfl)
    (ht : tkB ops L i = true := by kernel_rfl) : WT P n ops Q S (k + 1) L f w :=
  have q := tkB_1 ht
  WT_pass i hi q.1 q.2.1 q.2.2 (noS_1 hk) rfl (noS_2 hk) hS h
theorem Tx (i : Nat) {b : Bool} {p q : Prop} [Tst b p] [Tsf b q] (hi : ops[i]? = some ⟨d, op, ty, ps, af, g⟩) (hv : ∀ w', S w' → (execOp (evF f) ⟨d, op, ty, ps, af, g⟩).run P w' = .ok (.value (.bool b)) w') (hS : S w)
    (h1 : p → WT P n ops Q S k (L.setIfInBounds i true) (updo f d (.bool true)) w) (h0 : q → WT P n ops Q S k (L.setIfInBounds i true) (updo f d (.bool false)) w)
    (hk : okS ops f ⟨d, op, ty, ps, af, g⟩ n = true := by exact rfl) (ht : tkB ops L i = true := by kernel_rfl) : WT P n ops Q S (k + 1) L f w :=
  have q := tkB_1 ht
  WT_split i hi q.1 q.2.1 q.2.2 (okS_1 hk) rfl (okS_2 hk) hv hS (fun e => h1 (Tst.t e)) (fun e => h0 (Tsf.f e))
theorem To (i : Nat) (hi : ops[i]? = some ⟨d, op, ty, ps, af, g⟩) (h : Yd P ⟨d, op, ty, ps, af, g⟩ f w fun v w' => (S w' ∨ fullB ops L i = true) ∧ WT P n ops Q S k (L.setIfInBounds i true) (updo f d v) w')
    (hk : okS ops f ⟨d, op, ty, ps, af, g⟩ n = true := by exact rfl) (hr : Region.ready .any ops L = [i] := by kernel_rfl) : WT P n ops Q S (k + 1) L f w := WT_one i hr hi (okS_1 hk) rfl (okS_2 hk) h
theorem Td (h : Q f w) (hr : Region.ready .any ops L = [] := by kernel_rfl) : WT P n ops Q S k L f w := WT_done hr h
theorem TC {q : Nat} {tys : Array TypeId} {as : List Operand} {vs : List Value} {Post K : Value → World → Prop} (hb : callB P q = true) (hc : Fn P q vs.toArray w Post) (hv : as.map (evF f) = vs)
    (h : ∀ v w', Ext w w' → Post v w' → K v w') : Yd P ⟨d, .call ⟨.value (.func q), as.toArray, tys⟩, ty, ps, af, g⟩ f w K := Yd.call (call_run hb hv) hc h
end

section
variable {P : Program} {n : Nat} {Q : Exit → (Nat → Value) → World → Prop} {f : Nat → Value} {w : World}

theorem WC_seq0 {x y : Code} (h : WC P n x (thenQ (WC P n y Q) Q) f w) : WC P n (.seq x y) Q f w := by
  refine ⟨fun a ha => ?_⟩
  refine wp_seq (Code.wp_mono (fun e a' w' hq => ?_) (h.out a ha))
  obtain ⟨f', hr, hq⟩ := hq
  cases e with
  | normal => exact hq.out a' hr
  | _ => exact ⟨f', hr, hq⟩
theorem Zr {id : Nat} {l : List Oper} {y : Code} (h : WL P n l.toArray (fun f w => WC P n y Q f w) l f w) : WC P n (.seq (.region id l.toArray false) y) Q f w := WC_seq0 (WC_region h)
theorem Zd (S : World → World → Prop) {id : Nat} {ops : Array Oper} {y : Code} (h : ∀ w1, Ext w w1 → WT P n ops (fun f w => WC P n y Q f w) (S w1) ops.size (Array.replicate ops.size false) f w1) (hm : P.follows .mixedOrders = true := by kernel_rfl) :
    WC P n (.seq (.region id ops true) y) Q f w := WC_seq0 (WC_draw S hm h)
end

/-- Where a return goes. -/
class RetQ (Q : Exit → (Nat → Value) → World → Prop) (Q' : outParam (Exit → (Nat → Value) → World → Prop)) : Prop where
  out : ∀ f w, Q' .ret f w → Q .ret f w
instance retQ_then {K : (Nat → Value) → World → Prop} {Q Q' : Exit → (Nat → Value) → World → Prop} [h : RetQ Q Q'] : RetQ (thenQ K Q) Q' := ⟨fun f w q => h.out f w q⟩
instance retQ_block {id : Nat} {Q Q' : Exit → (Nat → Value) → World → Prop} [h : RetQ Q Q'] : RetQ (blockQ id Q) Q' := ⟨fun f w q => h.out f w q⟩
instance retQ_body {P : Program} {rs : Array ResultVar} {Post : Value → World → Prop} : RetQ (bodyQ P rs Post) (bodyQ P rs Post) := ⟨fun _ _ q => q⟩
theorem Zt {P : Program} {n : Nat} {Q Q' : Exit → (Nat → Value) → World → Prop} {f : Nat → Value} {w : World} [h : RetQ Q Q'] (k : Q' .ret f w) : WC P n .ret Q f w := WC_ret (h.out f w k)
theorem ZQ {P : Program} {n : Nat} {c : Operand} {x y : Code} {Q : Exit → (Nat → Value) → World → Prop} {f : Nat → Value} {w : World} {b : Bool} {p q : Prop} [Tst b p] [Tsf b q] (hc : evF f c = .bool b) (ht : p → WC P n x Q f w) (hf : q → WC P n y Q f w) : WC P n (.cond c x y) Q f w :=
  WC_cond hc (fun h => ht (Tst.t h)) (fun h => hf (Tsf.f h))

section
variable {a w w' : World} {b : Nat} {c : Array Value} {T : TypeId}
theorem Ze (h : Below a.heap.size a w) (k : Ext w w') : Below a.heap.size a w' := below_ext h k (Nat.le_refl _)
theorem Zg (h : Below a.heap.size a w) (hg : w.grownBy w' (some b)) (lo : a.heap.size ≤ b) : Below a.heap.size a w' := below_grown h hg (Nat.le_refl _) (fun j hj => by cases hj; exact lo)
theorem ZG {α : Type} {enc : α → List Value} {sz : Nat} {v : Value} {l : List α} (h : Below a.heap.size a w) (hg : w.grownBy w' v.ownBlock) (k : OwT enc sz T w a.heap.size v l) : Below a.heap.size a w' := below_grown h hg (Nat.le_refl _) (OwT.lt k)
theorem ZO {N : Nat} (e : b = w.heap.size) (h : Below N a w) : a.heap.size ≤ b := e ▸ Below.size h
theorem Zn {b' : Nat} (e : b = w.heap.size) (h : At w b' c T) : b' ≠ b := Nat.ne_of_lt (e ▸ h.lt)
end

end Go.Proofs.YtnkaebjaeaecmaaGreatDoor
