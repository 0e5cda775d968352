/-
  More operations on memory: new rows of a size, elements that are written, parts of slices, appends onto what has no room.
-/
import Derived.Test.YtnkaebjaeaecmaaDoorPlain
namespace Go.Proofs.YtnkaebjaeaecmaaDoor
set_option linter.unusedVariables false
set_option linter.unusedSimpArgs false
open Go Go.RowKit

theorem agree.maskS {S S' : List Nat} {f g h : Nat → Value} (hs : (S'.all fun t => memN S t) = true) (k : agree S f h) : agree S (Go.Proofs.YtnkaebjaeaecmaaDoor.mask S' f g) h := by
  intro t ht
  have hm : memN S' t = false := by
    cases e : memN S' t with
    | false => rfl
    | true =>
      have h1 : ∀ (l : List Nat), memN l t = true → t ∈ l := fun l => by
        induction l with
        | nil => intro h; simp [memN] at h
        | cons a r ih =>
          intro h
          cases hb : t.beq a with
          | true => rw [Nat.eq_of_beq_eq_true hb]; exact List.mem_cons_self
          | false =>
            simp only [memN, hb] at h
            exact List.mem_cons_of_mem _ (ih h)
      have := List.all_eq_true.1 hs t (h1 S' e)
      rw [ht] at this
      cases this
  simp only [Go.Proofs.YtnkaebjaeaecmaaDoor.mask, hm, cond_false]
  exact k t ht

theorem Yd.callG {P : Program} {o : Oper} {f : Nat → Value} {w : World} {g : Nat} {vs : Array Value} {K Post : Value → World → Prop}
    (h : (execOp (evF f) o).run P w = .ok (.enter g vs) w) (hc : FnG P g vs w Post) (hK : ∀ v w', Post v w' → K v w') : Yd P o f w K := by
  refine ⟨fun a ha Q => ?_⟩
  unfold Oper.wp
  rw [ha, h]
  refine Calls.mono hc.out fun e w' ⟨v, he, hq⟩ => ?_
  subst he
  exact ⟨v, rfl, hK v w' hq⟩
theorem WL_callG {P : Program} {n : Nat} {ops : Array Oper} {Q : (Nat → Value) → World → Prop} {o : Oper} {rest : List Oper} {f : Nat → Value} {w : World} {dd : Option Nat} {g : Nat} {vs : Array Value} {Post : Value → World → Prop}
    (hg : wantedF ops f o = true) (he : o.dst = dd) (hd : dstOk n dd = true) (hr : (execOp (evF f) o).run P w = .ok (.enter g vs) w)
    (hc : FnG P g vs w Post) (h : ∀ v w', Post v w' → WL P n ops Q rest (updo f dd v) w') : WL P n ops Q (o :: rest) f w := WL_step hg he hd (Yd.callG hr hc h)
theorem grownBy_trans {a b c : World} {row : Option Nat} (h : a.grownBy b row) (k : b.grownBy c row) : a.grownBy c row :=
  ⟨k.os.trans h.os, k.tape.trans h.tape, k.output.trans h.output, Nat.le_trans h.size k.size, fun i hi hne => (k.block i (Nat.lt_of_lt_of_le hi h.size) hne).trans (h.block i hi hne)⟩
theorem cells_agg (cs : Array Value) : (Value.agg cs).cells = cs := rfl

theorem upTo_succ {Q : Nat → Prop} {k : Nat} (h : ∀ p, p < k → Q p) (hk : Q k) : ∀ p, p < k + 1 → Q p := fun p hp => by
  rcases Nat.lt_succ_iff_lt_or_eq.1 hp with hp | rfl
  · exact h p hp
  · exact hk
theorem upTo_zero {Q : Nat → Prop} : ∀ p, p < 0 → Q p := fun p h => absurd h (Nat.not_lt_zero p)

section
variable {P : Program} {f : Nat → Value} {w : World} {d : Option Nat} {ty : TypeId} {ps : String} {af : Array Edge} {g : Option (Nat × Bool)} {x y : Operand}
variable {t : TypeId} {b o : Nat} {v u : Value} {c : Array Value} {T e : TypeId} {K : Value → World → Prop} {n sz by_ N : Nat} {xs ys : List Value}

theorem made_replicate {α : Type} {enc : α → List Value} (he : ∀ a, (enc a).length = sz) (a : α) (z : Value) (hz : z.cells.toList = enc a) (hsz : 0 < sz) (n : Nat) :
    (madeCells z.cells (n * sz)).toList = (List.replicate n a).flatMap enc := by
  have hs : z.cells.size = sz := by rw [← Array.length_toList, hz, he]
  refine List.ext_getElem? fun j => ?_
  by_cases hj : j < n * sz
  · have h1 : j / sz < n := Nat.div_lt_of_lt_mul (by rwa [Nat.mul_comm] at hj)
    have h2 : j % sz < sz := Nat.mod_lt _ hsz
    have e1 : j = j / sz * sz + j % sz := by rw [Nat.mul_comm]; exact (Nat.div_add_mod j sz).symm
    have h3 := flat_get he (List.replicate n a) (j / sz) (j % sz) a (by simpa using h1) h2
    rw [← e1] at h3
    have h4 : (List.replicate n a).getD (j / sz) a = a := by simp [h1]
    rw [h3, h4, ← hz]
    simp [madeCells, hj, hs, h2]
  · rw [List.getElem?_eq_none (by simp [size_madeCells]; omega), List.getElem?_eq_none (by rw [flat_len he]; simp; omega)]

theorem OwT.made {α : Type} {enc : α → List Value} (he : ∀ a, (enc a).length = sz) (a : α) {z : Value} (hz : z.cells.toList = enc a) (hsz : 0 < sz) (h : w.ownsRow N e sz v n (madeCells z.cells (n * sz)).toList) :
    OwT enc sz e w N v (List.replicate n a) := by
  unfold OwT
  rw [List.length_replicate, ← made_replicate he a z hz hsz n]
  exact h

end

section
variable {α : Type} {enc : α → List Value} {sz : Nat} {T : TypeId} {w w' : World} {N b : Nat} {v : Value} {l : List α}
theorem OwT.neB (k : OwT enc sz T w N v l) (hb : w.heap.size ≤ b) : v.ownBlock ≠ some b := fun e => by
  have := (World.ownsRow.lt k b e).2
  omega
theorem OwT.grownAtNe (k : OwT enc sz T w N v l) (hne : v.ownBlock ≠ some b) (hG : w.grownBy w' (some b)) : OwT enc sz T w' N v l := World.ownsRow.kept k hG (.inr hne)
theorem At.grownOwNe {c : Array Value} {T' : TypeId} (hm : At w b c T') (hne : v.ownBlock ≠ some b) (hG : w.grownBy w' v.ownBlock) : At w' b c T' := hm.grown hG (fun e => hne e.symm)
end

end Go.Proofs.YtnkaebjaeaecmaaDoor
