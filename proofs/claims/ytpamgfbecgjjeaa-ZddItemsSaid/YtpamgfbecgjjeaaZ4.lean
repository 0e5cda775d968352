/-
  Operations that diagrams need: pointers that may be none, looking up with an answer whether it is there, the lesser of two numbers, elements of arrays, functions of a thing. No program in it.
-/
import Derived.Test.YtpamgfbecgjjeaaZ3
namespace Go.Proofs.Ytpamgfbecgjjeaa
set_option linter.unusedVariables false
set_option linter.unusedSimpArgs false
open Go Go.RowKit

section
variable {P : Program} {f : Nat → Value} {w : World} {d : Option Nat} {ty : TypeId} {ps : String} {af : Array Edge} {g : Option (Nat × Bool)} {x y : Operand} {t t2 e : TypeId}
theorem pointee_of (hu : P.underlying t = some (.pointer e)) : P.underlying t = some (.pointer (P.pointee t)) := by
  rw [hu]
  simp [Program.pointee, hu]
theorem r_ptrNil {a : Addr} (hx : evF f x = .pointer (some a)) (hy : evF f y = .pointer none) (hu : P.underlying t = some (.pointer e)) : (execOp (evF f) ⟨d, .binOp .eql t x y t2, ty, ps, af, g⟩).run P w = .ok (.value (.bool false)) w := by
  have h := run_eql_pointer_nil w t (some a) (pointee_of hu)
  simp [execOp, hx, hy, eqGuard, h]
theorem r_ptrNilN {a : Addr} (hx : evF f x = .pointer (some a)) (hy : evF f y = .pointer none) (hu : P.underlying t = some (.pointer e)) : (execOp (evF f) ⟨d, .binOp .neq t x y t2, ty, ps, af, g⟩).run P w = .ok (.value (.bool true)) w := by
  have h := run_neq_pointer_nil w t (some a) (pointee_of hu)
  simp [execOp, hx, hy, eqGuard, h]
theorem r_ptrNone (hx : evF f x = .pointer none) (hy : evF f y = .pointer none) (hu : P.underlying t = some (.pointer e)) : (execOp (evF f) ⟨d, .binOp .eql t x y t2, ty, ps, af, g⟩).run P w = .ok (.value (.bool true)) w := by
  have h := run_eql_pointer_nil w t none (pointee_of hu)
  simp [execOp, hx, hy, eqGuard, h]
theorem r_ptrNoneN (hx : evF f x = .pointer none) (hy : evF f y = .pointer none) (hu : P.underlying t = some (.pointer e)) : (execOp (evF f) ⟨d, .binOp .neq t x y t2, ty, ps, af, g⟩).run P w = .ok (.value (.bool false)) w := by
  have h := run_neq_pointer_nil w t none (pointee_of hu)
  simp [execOp, hx, hy, eqGuard, h]
theorem r_minN {m n : Nat} {k : IntKind} {tys : Array TypeId} (hx : evF f x = .int k (m : Int)) (hy : evF f y = .int k (n : Int)) : (execOp (evF f) ⟨d, .call ⟨.builtin .min, #[x, y], tys⟩, ty, ps, af, g⟩).run P w = .ok (.value (.int k ((min m n : Nat) : Int))) w := by
  simp [execOp, resolve, invoke, builtin, hx, hy, Builtin.min_, Builtin.min2]
  split <;> omega
theorem r_makeFunc1 {q : Nat} {a : Operand} {v : Value} (h : evF f a = v) :
    (execOp (evF f) ⟨d, .makeFunc (.func q) #[a] #[], ty, ps, af, g⟩).run P w = .ok (.value (.func (.func q) #[v] #[])) w := by
  simp [execOp, Instr.makeFunc, h]
theorem r_indexP {cs : Array Value} {n sz : Nat} {v : Value} {k : IntKind} {i : Nat} (hx : evF f x = .agg cs) (hy : evF f y = .int k (i : Int)) (hu : P.underlying t = some (.array n e)) (hi : i < n) (hs : (sizeOf e).run P w = .ok sz w) (hp : (part e cs (i * sz)).run P w = .ok v w) :
    (execOp (evF f) ⟨d, .index t x y, ty, ps, af, g⟩).run P w = .ok (.value v) w := by
  simp [execOp, hx, hy, Instr.index, asIntOf, run_underlying hu, hi, hs, hp]
end

section
variable {P : Program} {fr : Nat → Value} {w : World} {d : Option Nat} {ty : TypeId} {ps : String} {af : Array Edge} {g : Option (Nat × Bool)} {x y : Operand} {t kt et : TypeId} {b : Nat}
variable {α β : Type} [DecidableEq α] {enc : α → Value} {encV : β → Value} {l : List (α × β)} {k : α} {S : Value → Prop}
theorem r_lookup2 {z0 : Value} {v0 : β} (hx : evF fr x = .map (some b)) (hy : evF fr y = enc k) (hT : isMap P t = some (kt, et)) (KO : KeyOk P kt S) (hS : ∀ a, S (enc a)) (hi : ∀ a a', enc a = enc a' → a = a')
    (hz : zeroI P et = some z0) (hz0 : z0 = encV v0) (hm : MapT enc encV w b l) :
    (execOp (evF fr) ⟨d, .lookup t x y true, ty, ps, af, g⟩).run P w = .ok (.value (.tuple #[encV ((getL l k).getD v0), .bool (getL l k).isSome])) w := by
  subst hz0
  obtain ⟨f, clock, hm⟩ := hm
  unfold zeroI at hz
  obtain ⟨i, hi2, hzz⟩ := Option.bind_eq_some_iff.1 hz
  rcases find_map (P := P) (kt := kt) (encV := encV) KO hS hi (f := f) hm.nodup w k with ⟨h1, h2⟩ | ⟨j, v, h1, h2, h3⟩
  · rw [getL_none.2 h2]
    simp [execOp, hx, hy, Instr.lookup, run_underlying (isMap_spec hT), getObj, Sem.run, hm.heap, Result.andThen, KO.check w _ (hS k), h1, zeroValue, typeInfo, hi2, hzz]
  · rw [h3]
    simp [execOp, hx, hy, Instr.lookup, run_underlying (isMap_spec hT), getObj, Sem.run, hm.heap, Result.andThen, KO.check w _ (hS k), h1]
end

/-! ### A deed with what has been done -/
def PD (Ta Tn : TypeId) (N ba bm R bx : Nat) (res : (Nat → Prop) → (Nat → Prop) → Nat → Prop) (w : World) (ns : List Nd) (c l : Nat) (S : Nat → Prop) (v : Value) (w' : World) : Prop :=
  ∃ (ns' : List Nd) (id : Nat) (er : Int) (dl : List ((Nat × Nat) × Int)), v = .tuple #[.int .i64 (id : Int), .int .i64 er] ∧ Dx Tn N [bx, ba, bm] w w' ∧ Dia Ta Tn N ba bm R w' ns' ∧ Got ns ns' R c l S id er ∧ MapT key2 keyI w' bx dl ∧ Done res ns' dl
theorem PD.dx {Ta Tn : TypeId} {N ba bm R bx : Nat} {res : (Nat → Prop) → (Nat → Prop) → Nat → Prop} {w w' : World} {ns : List Nd} {c l : Nat} {S : Nat → Prop} {v : Value} (h : PD Ta Tn N ba bm R bx res w ns c l S v w') : Dx Tn N [bx, ba, bm] w w' := by
  obtain ⟨_, _, _, _, _, h, _⟩ := h; exact h
section
variable {Ta Tn T : TypeId} {N N' ba bm R b bx sz : Nat} {w w' : World} {ns : List Nd} {c : Array Value} {dl : List ((Nat × Nat) × Int)}
theorem At.dxm (k : Dia Ta Tn N ba bm R w ns) (hq : MapT key2 keyI w bx dl) (hx : Dx Tn N [bx, ba, bm] w w') (hm : At w b c T) (hTa : T ≠ Ta) (hTn : T ≠ Tn) : At w' b c T := At.dx3 k hx hm hTa hTn (At.ne_map hm hq)
theorem Dx.done {w0 : World} (h : Dx Tn N [bx, ba, bm] w0 w) (k : Dx Tn N [ba, bm] w w') : Dx Tn N [bx, ba, bm] w0 w' := h.trans (k.mono (fun x hx => List.mem_cons_of_mem _ hx))
theorem Dx.toX (k : Dx Tn N [ba, bm] w w') : Dx Tn N [bx, ba, bm] w w' := k.mono (fun x hx => List.mem_cons_of_mem _ hx)
end

end Go.Proofs.Ytpamgfbecgjjeaa
