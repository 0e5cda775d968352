/-
  More operations on memory: new rows of a size, elements that are written, parts of slices, appends onto what has no room.
-/
import Derived.Test.YtnkaebjaeaecmaaDoorPlain
namespace Go.Proofs.YtnkaebjaeaecmaaDoor
set_option linter.unusedVariables false
set_option linter.unusedSimpArgs false
open Go Go.RowKit

theorem agree.maskS {S S' : List Nat} {f g h : Nat → Value} (hs : (S'.all fun t => memN S t) = true) (k : agree S f h) : agree S (Go.Proofs.YtnkaebjaeaecmaaDoor.mask S' f g) h := by
  intro t ht
  have hm : memN S' t = false := by
    cases e : memN S' t with
    | false => rfl
    | true =>
      have h1 : ∀ (l : List Nat), memN l t = true → t ∈ l := fun l => by
        induction l with
        | nil => intro h; simp [memN] at h
        | cons a r ih =>
          intro h
          cases hb : t.beq a with
          | true => rw [Nat.eq_of_beq_eq_true hb]; exact List.mem_cons_self
          | false =>
            simp only [memN, hb] at h
            exact List.mem_cons_of_mem _ (ih h)
      have := List.all_eq_true.1 hs t (h1 S' e)
      rw [ht] at this
      cases this
  simp only [Go.Proofs.YtnkaebjaeaecmaaDoor.mask, hm, cond_false]
  exact k t ht

theorem Yd.callG {P : Program} {o : Oper} {f : Nat → Value} {w : World} {g : Nat} {vs : Array Value} {K Post : Value → World → Prop}
    (h : (execOp (evF f) o).run P w = .ok (.enter g vs) w) (hc : FnG P g vs w Post) (hK : ∀ v w', Post v w' → K v w') : Yd P o f w K := by
  refine ⟨fun a ha Q => ?_⟩
  unfold Oper.wp
  rw [ha, h]
  refine Calls.mono hc.out fun e w' ⟨v, he, hq⟩ => ?_
  subst he
  exact ⟨v, rfl, hK v w' hq⟩
theorem WL_callG {P : Program} {n : Nat} {ops : Array Oper} {Q : (Nat → Value) → World → Prop} {o : Oper} {rest : List Oper} {f : Nat → Value} {w : World} {dd : Option Nat} {g : Nat} {vs : Array Value} {Post : Value → World → Prop}
    (hg : wantedF ops f o = true) (he : o.dst = dd) (hd : dstOk n dd = true) (hr : (execOp (evF f) o).run P w = .ok (.enter g vs) w)
    (hc : FnG P g vs w Post) (h : ∀ v w', Post v w' → WL P n ops Q rest (updo f dd v) w') : WL P n ops Q (o :: rest) f w := WL_step hg he hd (Yd.callG hr hc h)
theorem grownBy_trans {a b c : World} {row : Option Nat} (h : a.grownBy b row) (k : b.grownBy c row) : a.grownBy c row :=
  ⟨k.os.trans h.os, k.tape.trans h.tape, k.output.trans h.output, Nat.le_trans h.size k.size, fun i hi hne => (k.block i (Nat.lt_of_lt_of_le hi h.size) hne).trans (h.block i hi hne)⟩
theorem cells_agg (cs : Array Value) : (Value.agg cs).cells = cs := rfl

theorem upTo_succ {Q : Nat → Prop} {k : Nat} (h : ∀ p, p < k → Q p) (hk : Q k) : ∀ p, p < k + 1 → Q p := fun p hp => by
  rcases Nat.lt_succ_iff_lt_or_eq.1 hp with hp | rfl
  · exact h p hp
  · exact hk
theorem upTo_zero {Q : Nat → Prop} : ∀ p, p < 0 → Q p := fun p h => absurd h (Nat.not_lt_zero p)

section
variable {P : Program} {f : Nat → Value} {w : World} {d : Option Nat} {ty : TypeId} {ps : String} {af : Array Edge} {g : Option (Nat × Bool)} {x y : Operand}
variable {t : TypeId} {b o : Nat} {v u : Value} {c : Array Value} {T e : TypeId} {K : Value → World → Prop} {n sz by_ N : Nat} {xs ys : List Value}

/-- 'make' of n elements. -/
theorem Y_make {k kk : IntKind} {z : Value} (hx : evF f x = .int k (n : Int)) (hy : evF f y = .int kk (n : Int)) (hT : elemI P t = some (e, sz, by_)) (hz : zeroI P e = some z)
    (hby : by_ * n ≤ 281474976710656) (hn : n ≤ maxLen) (hN : N ≤ w.heap.size)
    (hK : ∀ v' w', Ext w w' → w'.ownsRow N e sz v' n (madeCells z.cells (n * sz)).toList → K v' w') : Yd P ⟨d, .makeSlice t x y, ty, ps, af, g⟩ f w K := by
  unfold zeroI at hz
  obtain ⟨i, hi, hzz⟩ := Option.bind_eq_some_iff.1 hz
  unfold elemI at hT
  cases hun : P.underlying t with
  | none => simp [hun] at hT
  | some desc =>
    cases desc <;> simp [hun] at hT
    rename_i e'
    obtain ⟨i', hi', rfl, h3, rfl⟩ := hT
    obtain rfl : i' = i := by rw [hi] at hi'; exact (Option.some.inj hi').symm
    obtain ⟨w', hr, ho, hg⟩ := run_make_full (P := P) w N t e' i' z sz hun hi hzz h3 k kk n hby hn hN
    refine .val (w' := w') ?_ (hK _ w' (Ext.of_grown hg) ho)
    simp [execOp, hx, hy, hr]

theorem made_replicate {α : Type} {enc : α → List Value} (he : ∀ a, (enc a).length = sz) (a : α) (z : Value) (hz : z.cells.toList = enc a) (hsz : 0 < sz) (n : Nat) :
    (madeCells z.cells (n * sz)).toList = (List.replicate n a).flatMap enc := by
  have hs : z.cells.size = sz := by rw [← Array.length_toList, hz, he]
  refine List.ext_getElem? fun j => ?_
  by_cases hj : j < n * sz
  · have h1 : j / sz < n := Nat.div_lt_of_lt_mul (by rwa [Nat.mul_comm] at hj)
    have h2 : j % sz < sz := Nat.mod_lt _ hsz
    have e1 : j = j / sz * sz + j % sz := by rw [Nat.mul_comm]; exact (Nat.div_add_mod j sz).symm
    have h3 := flat_get he (List.replicate n a) (j / sz) (j % sz) a (by simpa using h1) h2
    rw [← e1] at h3
    have h4 : (List.replicate n a).getD (j / sz) a = a := by simp [h1]
    rw [h3, h4, ← hz]
    simp [madeCells, hj, hs, h2]
  · rw [List.getElem?_eq_none (by simp [size_madeCells]; omega), List.getElem?_eq_none (by rw [flat_len he]; simp; omega)]

theorem OwT.made {α : Type} {enc : α → List Value} (he : ∀ a, (enc a).length = sz) (a : α) {z : Value} (hz : z.cells.toList = enc a) (hsz : 0 < sz) (h : w.ownsRow N e sz v n (madeCells z.cells (n * sz)).toList) :
    OwT enc sz e w N v (List.replicate n a) := by
  unfold OwT
  rw [List.length_replicate, ← made_replicate he a z hz hsz n]
  exact h

theorem flat_set {α : Type} {enc : α → List Value} (he : ∀ a, (enc a).length = sz) (a : α) : ∀ (l : List α) (k : Nat), k < l.length →
    (l.set k a).flatMap enc = (l.flatMap enc).take (k * sz) ++ enc a ++ (l.flatMap enc).drop (k * sz + sz)
  | [], k, h => by simp at h
  | b :: l, 0, _ => by
    simp only [List.set_cons_zero, List.flatMap_cons, Nat.zero_mul, List.take_zero, List.nil_append, Nat.zero_add]
    rw [List.drop_append_of_le_length (by rw [he]; exact Nat.le_refl _), List.drop_of_length_le (by rw [he]; exact Nat.le_refl _), List.nil_append]
  | b :: l, k + 1, h => by
    have ih := flat_set he a l k (by simpa using h)
    have e1 : (k + 1) * sz = (enc b).length + k * sz := by rw [he, Nat.add_mul]; omega
    simp only [List.set_cons_succ, List.flatMap_cons, ih, e1]
    rw [List.take_length_add_append, show (enc b).length + k * sz + sz = (enc b).length + (k * sz + sz) from by omega, List.drop_length_add_append]
    simp only [List.append_assoc]

/-- Some cells of a row of the call's own are written. -/
theorem own_write {g cap o : Nat} {cur : Array Value} {new : List Value} (hl : xs.length = n * sz) (hg : N ≤ g) (hh : w.heap[g]? = some (.cells cur e (0, 0))) (hnc : n ≤ cap) (hcm : cap ≤ maxLen) (hcs : cur.size = cap * sz) (ht : cur.toList.take (n * sz) = xs)
    (ho : o + new.length ≤ n * sz) :
    (w.setRow g (cur.toList.take o ++ new ++ cur.toList.drop (o + new.length)).toArray).ownsRow N e sz (.slice (some ⟨g, 0, none⟩) n cap) n (xs.take o ++ new ++ xs.drop (o + new.length)) := by
  have hle : n * sz ≤ cap * sz := Nat.mul_le_mul_right _ hnc
  refine ⟨by simp; omega, .inr ⟨g, cap, _, rfl, hg, setRow_heap w g cur _ e (0, 0) hh, hnc, hcm, by simp; omega, ?_⟩⟩
  subst ht
  refine List.ext_getElem? fun j => ?_
  simp only [List.getElem?_take, List.getElem?_append, List.getElem?_drop, List.length_take, List.length_append, Array.length_toList]
  by_cases h1 : j < o
  · rw [if_pos (by omega), if_pos (by omega), if_pos (by omega), if_pos h1, if_pos (by omega), if_pos (by omega), if_pos h1, if_pos (by omega)]
  · by_cases h2 : j < o + new.length
    · have e1 : min o cur.size = o := by omega
      have e2 : min o (min (n * sz) cur.size) = o := by omega
      rw [if_pos (by omega), if_pos (by omega), if_neg (by omega), if_pos (by omega), if_neg (by omega), e1, e2]
    · by_cases h3 : j < n * sz
      · have e1 : min o cur.size = o := by omega
        have e2 : min o (min (n * sz) cur.size) = o := by omega
        rw [if_pos h3, if_neg (by omega), if_neg (by omega), if_pos (by omega), e1, e2]
      · rw [if_neg h3, if_neg (by omega), if_neg (by omega)]

/-- One element of a row of the call's own is written. -/
theorem Y_storeE {α : Type} {enc : α → List Value} {a : α} {l : List α} {j : Int} (hx : evF f x = .pointer (some ⟨slB v, slO v + j.toNat * sz, none⟩)) (hy : evF f y = u) (hT : (scalarB P t = true ∧ sz = 1) ∨ aggN P t = some sz) (he : ∀ a, (enc a).length = sz)
    (hu : u.cells.toList = enc a) (h1 : u.cells.toList.all Value.oneCell' = true) (ho : OwT enc sz e w N v l) (h0 : 0 ≤ j) (hj : j < l.length)
    (hK : ∀ w', w.grownBy w' v.ownBlock → OwT enc sz e w' N v (l.set j.toNat a) → K undef w') : Yd P ⟨d, .store t x y, ty, ps, af, g⟩ f w K := by
  obtain ⟨hl, hor⟩ := ho
  rcases hor with ⟨_, h⟩ | ⟨q, cap, cur, rfl, hg, hh, hnc, hcm, hcs, ht⟩
  · omega
  have hul : u.cells.toList.length = sz := by rw [hu, he]
  have hle : l.length * sz ≤ cap * sz := Nat.mul_le_mul_right _ hnc
  have hjs : j.toNat * sz + sz ≤ l.length * sz := by rw [← Nat.succ_mul]; exact Nat.mul_le_mul_right _ (by omega)
  have hst := run_storeCells_at P q (j.toNat * sz) e u.cells.toList 0 cur w hh (by rw [hul]; omega) (fun v h => List.all_eq_true.1 h1 v h)
  rw [Nat.add_zero] at hst
  have hw := own_write (N := N) (e := e) (o := j.toNat * sz) (new := u.cells.toList) hl hg hh hnc hcm hcs ht (by rw [hul]; exact hjs)
  have hgr : ∀ r, w.grownBy (w.setRow q r) (some q) := fun r => ⟨rfl, rfl, rfl, by simp, fun k _ hk => setRow_other w q k r (fun e => hk (by rw [e]))⟩
  refine .skip (w' := w.setRow q (cur.toList.take (j.toNat * sz) ++ u.cells.toList ++ cur.toList.drop (j.toNat * sz + u.cells.toList.length)).toArray) ?_ (hK _ (hgr _) ?_)
  · have hcs2 : (storeVar t ⟨q, j.toNat * sz, none⟩ u).run P w = .ok () (w.setRow q (cur.toList.take (j.toNat * sz) ++ u.cells.toList ++ cur.toList.drop (j.toNat * sz + u.cells.toList.length)).toArray) := by
      have hus : u.cells.size = sz := by simpa using hul
      rcases hT with ⟨hT, h1⟩ | hT
      · have h2 := congrFun (scalarB_spec hT).2 w
        rw [h1] at hus
        simp [storeVar, h2, hst, hus]
      · have h2 := congrFun (aggN_spec hT).2 w
        simp [storeVar, h2, hst, hus]
    have hx' : evF f x = .pointer (some ⟨q, j.toNat * sz, none⟩) := by rw [hx]; simp [slB, slO]
    simp [execOp, hx', hy, Instr.storeAt, Instr.sureAddr, hcs2]
  · unfold OwT
    rw [List.length_set, flat_set he a l j.toNat (by omega), ← hu]
    have e2 : j.toNat * sz + sz = j.toNat * sz + u.cells.toList.length := by rw [hul]
    rw [e2]
    exact hw
end

section
variable {α : Type} {enc : α → List Value} {sz : Nat} {T : TypeId} {w w' : World} {N b : Nat} {v : Value} {l : List α}
theorem OwT.neB (k : OwT enc sz T w N v l) (hb : w.heap.size ≤ b) : v.ownBlock ≠ some b := fun e => by
  have := (World.ownsRow.lt k b e).2
  omega
theorem At.grownOwNe {c : Array Value} {T' : TypeId} (hm : At w b c T') (hne : v.ownBlock ≠ some b) (hG : w.grownBy w' v.ownBlock) : At w' b c T' := hm.grown hG (fun e => hne e.symm)
end

end Go.Proofs.YtnkaebjaeaecmaaDoor
