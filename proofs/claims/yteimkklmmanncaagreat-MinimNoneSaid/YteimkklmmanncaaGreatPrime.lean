/- More operations on memory: new rows of a size, elements that are written, parts of slices, appends onto what has no room. Plain words for the document's own answers: flags of points, literals of cubes. No program in it. Maps of the call's own: what a map's block holds, as a list of keys and values;  -/
import Derived.Test.YteimkklmmanncaaGreatLift1
import Derived.Maps.RangeRun
import Derived.MapKept
import Derived.Maps.AppendAt
namespace Go.Proofs.YteimkklmmanncaaGreat
set_option linter.unusedVariables false
set_option linter.unusedSimpArgs false
section
open Go Go.RowKit
theorem fz.maskS {S S' : List Nat} {f g h : Nat → Value} (hs : (S'.all fun t => oY S t) = true) (k : fz S f h) : fz S (Go.Proofs.YteimkklmmanncaaGreat.mask S' f g) h := by
 intro t ht
 have hm : oY S' t = false := by
  cases e : oY S' t with
  | false => rfl
  | true =>
   have h1 : ∀ (l : List Nat), oY l t = true → t ∈ l := fun l => by
    induction l with
    | nil => intro h; simp [oY] at h
    | cons a r ih =>
     intro h
     cases hb : t.beq a with
     | true => rw [Nat.eq_of_beq_eq_true hb]; exact List.mem_cons_self
     | false =>
      simp only [oY, hb] at h
      exact List.mem_cons_of_mem _ (ih h)
   have := List.all_eq_true.1 hs t (h1 S' e)
   rw [ht] at this
   cases this
 simp only [Go.Proofs.YteimkklmmanncaaGreat.mask, hm, cond_false]
 exact k t ht
theorem Yd.callG {P : Program} {o : Oper} {f : Nat → Value} {w : World} {g : Nat} {vs : Array Value} {K Post : Value → World → Prop}
  (h : (execOp (dO f) o).run P w = .ok (.enter g vs) w) (hc : qJ P g vs w Post) (hK : ∀ v w', Post v w' → K v w') : Yd P o f w K := by
 refine ⟨fun a ha Q => ?_⟩
 unfold Oper.wp
 rw [ha, h]
 refine Calls.mono hc.out fun e w' ⟨v, he, hq⟩ => ?_
 subst he
 exact ⟨v, rfl, hK v w' hq⟩
theorem mG {P : Program} {n : Nat} {ops : Array Oper} {Q : (Nat → Value) → World → Prop} {o : Oper} {rest : List Oper} {f : Nat → Value} {w : World} {dd : Option Nat} {g : Nat} {vs : Array Value} {Post : Value → World → Prop}
  (hg : gw ops f o = true) (he : o.dst = dd) (hd : jz n dd = true) (hr : (execOp (dO f) o).run P w = .ok (.enter g vs) w)
  (hc : qJ P g vs w Post) (h : ∀ v w', Post v w' → WL P n ops Q rest (updo f dd v) w') : WL P n ops Q (o :: rest) f w := gS hg he hd (Yd.callG hr hc h)
theorem dD {a b c : World} {row : Option Nat} (h : a.grownBy b row) (k : b.grownBy c row) : a.grownBy c row :=
 ⟨k.os.trans h.os, k.tape.trans h.tape, k.output.trans h.output, Nat.le_trans h.size k.size, fun i hi hne => (k.block i (Nat.lt_of_lt_of_le hi h.size) hne).trans (h.block i hi hne)⟩
theorem eW (cs : Array Value) : (Value.agg cs).cells = cs := rfl
theorem ey {Q : Nat → Prop} {k : Nat} (h : ∀ p, p < k → Q p) (hk : Q k) : ∀ p, p < k + 1 → Q p := fun p hp => by
 rcases Nat.lt_succ_iff_lt_or_eq.1 hp with hp | rfl
 ·exact h p hp
 ·exact hk
theorem ff {Q : Nat → Prop} : ∀ p, p < 0 → Q p := fun p h => absurd h (Nat.not_lt_zero p)
section
variable {P : Program} {f : Nat → Value} {w : World} {d : Option Nat} {ty : TypeId} {ps : String} {af : Array Edge} {g : Option (Nat × Bool)} {x y : Operand}
variable {t : TypeId} {b o : Nat} {v u : Value} {c : Array Value} {T e : TypeId} {K : Value → World → Prop} {n sz by_ N : Nat} {xs ys : List Value}
theorem NT {k kk : IntKind} {z : Value} (hx : dO f x = .int k (n : Int)) (hy : dO f y = .int kk (n : Int)) (hT : fO P t = some (e, sz, by_)) (hz : eL P e = some z)
  (hby : by_ * n ≤ 281474976710656) (hn : n ≤ maxLen) (hN : N ≤ w.heap.size)
  (hK : ∀ v' w', eo w w' → w'.ownsRow N e sz v' n (madeCells z.cells (n * sz)).toList → K v' w') : Yd P ⟨d, .makeSlice t x y, ty, ps, af, g⟩ f w K := by
 unfold eL at hz
 obtain ⟨i, hi, hzz⟩ := Option.bind_eq_some_iff.1 hz
 unfold fO at hT
 cases hun : P.underlying t with
 | none => simp [hun] at hT
 | some desc =>
  cases desc <;> simp [hun] at hT
  rename_i e'
  obtain ⟨i', hi', rfl, h3, rfl⟩ := hT
  obtain rfl : i' = i := by rw [hi] at hi'; exact (Option.some.inj hi').symm
  obtain ⟨w', hr, ho, hg⟩ := run_make_full (P := P) w N t e' i' z sz hun hi hzz h3 k kk n hby hn hN
  refine .val (w' := w') ?_ (hK _ w' (eo.of_grown hg) ho)
  simp [execOp, hx, hy, hr]
theorem uU {α : Type} {enc : α → List Value} (he : ∀ a, (enc a).length = sz) (a : α) (z : Value) (hz : z.cells.toList = enc a) (hsz : 0 < sz) (n : Nat) :
  (madeCells z.cells (n * sz)).toList = (List.replicate n a).flatMap enc := by
 have hs : z.cells.size = sz := by rw [← Array.length_toList, hz, he]
 refine List.ext_getElem? fun j => ?_
 by_cases hj : j < n * sz
 ·have h1 : j / sz < n := Nat.div_lt_of_lt_mul (by rwa [Nat.mul_comm] at hj)
  have h2 : j % sz < sz := Nat.mod_lt _ hsz
  have e1 : j = j / sz * sz + j % sz := by rw [Nat.mul_comm]; exact (Nat.div_add_mod j sz).symm
  have h3 := rH he (List.replicate n a) (j / sz) (j % sz) a (by simpa using h1) h2
  rw [← e1] at h3
  have h4 : (List.replicate n a).getD (j / sz) a = a := by simp [h1]
  rw [h3, h4, ← hz]
  simp [madeCells, hj, hs, h2]
 ·rw [List.getElem?_eq_none (by simp [size_madeCells]; omega), List.getElem?_eq_none (by rw [ky he]; simp; omega)]
theorem dh.made {α : Type} {enc : α → List Value} (he : ∀ a, (enc a).length = sz) (a : α) {z : Value} (hz : z.cells.toList = enc a) (hsz : 0 < sz) (h : w.ownsRow N e sz v n (madeCells z.cells (n * sz)).toList) :
  dh enc sz e w N v (List.replicate n a) := by
 unfold dh
 rw [List.length_replicate, ← uU he a z hz hsz n]
 exact h
theorem sJ {α : Type} {enc : α → List Value} (he : ∀ a, (enc a).length = sz) (a : α) : ∀ (l : List α) (k : Nat), k < l.length →
  (l.set k a).flatMap enc = (l.flatMap enc).take (k * sz) ++ enc a ++ (l.flatMap enc).drop (k * sz + sz)
 | [], k, h => by simp at h
 | b :: l, 0, _ => by
  simp only [List.set_cons_zero, List.flatMap_cons, Nat.zero_mul, List.take_zero, List.nil_append, Nat.zero_add]
  rw [List.drop_append_of_le_length (by rw [he]; exact Nat.le_refl _), List.drop_of_length_le (by rw [he]; exact Nat.le_refl _), List.nil_append]
 | b :: l, k + 1, h => by
  have ih := sJ he a l k (by simpa using h)
  have e1 : (k + 1) * sz = (enc b).length + k * sz := by rw [he, Nat.add_mul]; omega
  simp only [List.set_cons_succ, List.flatMap_cons, ih, e1]
  rw [List.take_length_add_append, show (enc b).length + k * sz + sz = (enc b).length + (k * sz + sz) from by omega, List.drop_length_add_append]
  simp only [List.append_assoc]
theorem ym {g cap o : Nat} {cur : Array Value} {new : List Value} (hl : xs.length = n * sz) (hg : N ≤ g) (hh : w.heap[g]? = some (.cells cur e (0, 0))) (hnc : n ≤ cap) (hcm : cap ≤ maxLen) (hcs : cur.size = cap * sz) (ht : cur.toList.take (n * sz) = xs)
  (ho : o + new.length ≤ n * sz) :
  (w.setRow g (cur.toList.take o ++ new ++ cur.toList.drop (o + new.length)).toArray).ownsRow N e sz (.slice (some ⟨g, 0, none⟩) n cap) n (xs.take o ++ new ++ xs.drop (o + new.length)) := by
 have hle : n * sz ≤ cap * sz := Nat.mul_le_mul_right _ hnc
 refine ⟨by simp; omega, .inr ⟨g, cap, _, rfl, hg, setRow_heap w g cur _ e (0, 0) hh, hnc, hcm, by simp; omega, ?_⟩⟩
 subst ht
 refine List.ext_getElem? fun j => ?_
 simp only [List.getElem?_take, List.getElem?_append, List.getElem?_drop, List.length_take, List.length_append, Array.length_toList]
 by_cases h1 : j < o
 ·rw [if_pos (by omega), if_pos (by omega), if_pos (by omega), if_pos h1, if_pos (by omega), if_pos (by omega), if_pos h1, if_pos (by omega)]
 ·by_cases h2 : j < o + new.length
  ·have e1 : min o cur.size = o := by omega
   have e2 : min o (min (n * sz) cur.size) = o := by omega
   rw [if_pos (by omega), if_pos (by omega), if_neg (by omega), if_pos (by omega), if_neg (by omega), e1, e2]
  ·by_cases h3 : j < n * sz
   ·have e1 : min o cur.size = o := by omega
    have e2 : min o (min (n * sz) cur.size) = o := by omega
    rw [if_pos h3, if_neg (by omega), if_neg (by omega), if_pos (by omega), e1, e2]
   ·rw [if_neg h3, if_neg (by omega), if_neg (by omega)]
theorem GU {α : Type} {enc : α → List Value} {a : α} {l : List α} {j : Int} (hx : dO f x = .pointer (some ⟨sP v, A8 v + j.toNat * sz, none⟩)) (hy : dO f y = u) (hT : (fp P t = true ∧ sz = 1) ∨ kY P t = some sz) (he : ∀ a, (enc a).length = sz)
  (hu : u.cells.toList = enc a) (h1 : u.cells.toList.all Value.oneCell' = true) (ho : dh enc sz e w N v l) (h0 : 0 ≤ j) (hj : j < l.length)
  (hK : ∀ w', w.grownBy w' v.ownBlock → dh enc sz e w' N v (l.set j.toNat a) → K undef w') : Yd P ⟨d, .store t x y, ty, ps, af, g⟩ f w K := by
 obtain ⟨hl, hor⟩ := ho
 rcases hor with ⟨_, h⟩ | ⟨q, cap, cur, rfl, hg, hh, hnc, hcm, hcs, ht⟩
 ·omega
 have hul : u.cells.toList.length = sz := by rw [hu, he]
 have hle : l.length * sz ≤ cap * sz := Nat.mul_le_mul_right _ hnc
 have hjs : j.toNat * sz + sz ≤ l.length * sz := by rw [← Nat.succ_mul]; exact Nat.mul_le_mul_right _ (by omega)
 have hst := run_storeCells_at P q (j.toNat * sz) e u.cells.toList 0 cur w hh (by rw [hul]; omega) (fun v h => List.all_eq_true.1 h1 v h)
 rw [Nat.add_zero] at hst
 have hw := ym (N := N) (e := e) (o := j.toNat * sz) (new := u.cells.toList) hl hg hh hnc hcm hcs ht (by rw [hul]; exact hjs)
 have hgr : ∀ r, w.grownBy (w.setRow q r) (some q) := fun r => ⟨rfl, rfl, rfl, by simp, fun k _ hk => setRow_other w q k r (fun e => hk (by rw [e]))⟩
 refine .skip (w' := w.setRow q (cur.toList.take (j.toNat * sz) ++ u.cells.toList ++ cur.toList.drop (j.toNat * sz + u.cells.toList.length)).toArray) ?_ (hK _ (hgr _) ?_)
 ·have hcs2 : (storeVar t ⟨q, j.toNat * sz, none⟩ u).run P w = .ok () (w.setRow q (cur.toList.take (j.toNat * sz) ++ u.cells.toList ++ cur.toList.drop (j.toNat * sz + u.cells.toList.length)).toArray) := by
   have hus : u.cells.size = sz := by simpa using hul
   rcases hT with ⟨hT, h1⟩ | hT
   ·have h2 := congrFun (lR hT).2 w
    rw [h1] at hus
    simp [storeVar, h2, hst, hus]
   ·have h2 := congrFun (kV hT).2 w
    simp [storeVar, h2, hst, hus]
  have hx' : dO f x = .pointer (some ⟨q, j.toNat * sz, none⟩) := by rw [hx]; simp [sP, A8]
  simp [execOp, hx', hy, Instr.storeAt, Instr.sureAddr, hcs2]
 ·unfold dh
  rw [List.length_set, sJ he a l j.toNat (by omega), ← hu]
  have e2 : j.toNat * sz + sz = j.toNat * sz + u.cells.toList.length := by rw [hul]
  rw [e2]
  exact hw
end
theorem ul {α : Type} {enc : α → List Value} (h : ∀ a, (enc a).all Value.oneCell' = true) (l : List α) : (l.flatMap enc).all Value.oneCell' = true := by
 induction l with
 | nil => rfl
 | cons a l ih => rw [List.flatMap_cons, List.all_append, h a, ih]; rfl
theorem ku {l : List Int} : (l.flatMap d9).all Value.oneCell' = true := ul (fun _ => rfl) l
theorem ol {l : List Cb} : (l.flatMap gU).all Value.oneCell' = true := ul (fun _ => rfl) l
theorem kA {l : List Rw} : (l.flatMap gv).all Value.oneCell' = true := ul (fun _ => rfl) l
section
variable {α : Type} {enc : α → List Value} {sz : Nat} {T : TypeId} {w w' : World} {N b : Nat} {v : Value} {l : List α}
theorem dh.neB (k : dh enc sz T w N v l) (hb : w.heap.size ≤ b) : v.ownBlock ≠ some b := fun e => by
 have := (World.ownsRow.lt k b e).2
 omega
theorem dh.grownAtNe (k : dh enc sz T w N v l) (hne : v.ownBlock ≠ some b) (hG : w.grownBy w' (some b)) : dh enc sz T w' N v l := World.ownsRow.kept k hG (.inr hne)
theorem At.grownOwNe {c : Array Value} {T' : TypeId} (hm : At w b c T') (hne : v.ownBlock ≠ some b) (hG : w.grownBy w' v.ownBlock) : At w' b c T' := hm.grown hG (fun e => hne e.symm)
end
end
section
open Go Go.RowKit
section
variable {P : Program} {f : Nat → Value} {w : World} {d : Option Nat} {ty t t2 : TypeId} {ps : String} {af : Array Edge} {g : Option (Nat × Bool)} {x y : Operand} {m n : Nat} {b : Int}
theorem Pw (m : Nat) : IntKind.u8.wrap (m : Int) = ((m % 256 : Nat) : Int) := by simp [IntKind.wrap, IntKind.signed, IntKind.bits]
theorem DN (hx : dO f x = .int .u8 (m : Int)) (hy : dO f y = .int .u8 b) (hb : b = (n : Int)) :
  (execOp (dO f) ⟨d, .binOp .mul t x y t2, ty, ps, af, g⟩).run P w = .ok (.value (.int .u8 ((m * n % 256 : Nat) : Int))) w := by
 subst hb
 rw [HQ hx hy, ← Int.natCast_mul, Pw]
end
theorem rY (m k : Nat) : m / 2 ^ k / 2 = m / 2 ^ (k + 1) := by rw [Nat.div_div_eq_div_mul, Nat.pow_succ]
theorem PS {k : Nat} (h : k ≤ 62) : 2 ^ k * 2 < d5 .u64 := by
 have h2 : 2 ^ (k + 1) ≤ 2 ^ 63 := Nat.pow_le_pow_right (by decide) (by omega)
 rw [Nat.pow_succ] at h2
 simp only [d5]
 omega
theorem QT {k : Nat} (h : k ≤ 8) : 2 ^ k ≤ 256 := by
 have h2 : 2 ^ k ≤ 2 ^ 8 := Nat.pow_le_pow_right (by decide) h
 simpa using h2
theorem zE {k : Nat} (h : k < 8) : 2 ^ k ≤ 128 := by
 have h2 : 2 ^ k ≤ 2 ^ 7 := Nat.pow_le_pow_right (by decide) (by omega)
 simpa using h2
theorem gY (x k : Nat) : x.testBit k = decide (x / 2 ^ k % 2 = 1) := Nat.testBit_eq_decide_div_mod_eq
theorem nn {α : Type} (f : Nat → α) (d : α) {k p : Nat} (h : p < k) : ((List.range k).map f).getD p d = f p := by
 simp [List.getD_eq_getElem?_getD, h]
theorem qR {α : Type} (f g : Nat → α) {k p : Nat} (h : ∀ q, q < k → q ≠ p → f q = g q) (a : α) (ha : a = g p) : ((List.range k).map f).set p a = (List.range k).map g := by
 refine List.ext_getElem? fun q => ?_
 rw [List.getElem?_set]
 split
 ·subst_vars
  split
  ·rename_i hl
   simp at hl
   simp [hl]
  ·rename_i hl
   simp at hl
   simp [hl]
 ·rename_i hq
  by_cases hk : q < k
  ·simp [hk, h q hk (fun e => hq e.symm)]
  ·simp [hk]
def lY (s k : Nat) : List Bool := (List.range k).map fun p => s.testBit p
abbrev pr (s : Nat) : List Bool := lY s 256
theorem zb (s k : Nat) : lY s (k + 1) = lY s k ++ [s.testBit k] := by simp [lY, List.range_succ]
theorem cV (s k : Nat) : (lY s k).length = k := by simp [lY]
theorem iE {s k p : Nat} (h : p < k) : (lY s k).getD p false = s.testBit p := nn _ _ h
theorem Ff {s i k : Nat} (h : k < 64) : decide (((wd s i / 2 ^ k % 2 : Nat) : Int) = 1) = s.testBit (64 * i + k) := by
 have h1 := il s i k
 rw [gY] at h1
 rw [decide_eq_true h, Bool.true_and] at h1
 rw [← h1, Bool.eq_iff_iff]
 simp only [decide_eq_true_eq]
 omega
theorem tB {a b k : Nat} (hk : k < 256) (h : (pr a).getD (k : Int).toNat false = false ∨ (!(pr b).getD (k : Int).toNat false) = false) : a.testBit k = true → b.testBit k = true := by
 rw [Int.toNat_natCast, iE hk, iE hk] at h
 rcases h with h | h
 ·intro e; rw [e] at h; cases h
 ·intro _; simpa using h
theorem yZ {a b k : Nat} (hk : k < 256) (h1 : (pr a).getD (k : Int).toNat false = true) (h2 : (!(pr b).getD (k : Int).toNat false) = true) : ep a b = false := by
 rw [Int.toNat_natCast, iE hk] at h1 h2
 refine Bool.eq_false_iff.2 fun h => ?_
 have := d6.1 h k hk h1
 rw [this] at h2
 cases h2
theorem Aj {a b k : Nat} (h : k = 256) (hw : ∀ p, p < k → a.testBit p = true → b.testBit p = true) : ep a b = true := by
 subst h
 exact d6.2 hw
def gt (l : List Bool) : Nat → Nat
 | 0 => 0
 | k + 1 => if l.getD k false = true then kI (gt l k) (k : Int) else gt l k
abbrev HV (l : List Bool) : Nat := gt l 256
theorem pt (l : List Bool) : ∀ (k : Nat), k ≤ 256 → ∀ p, (gt l k).testBit p = (decide (p < k) && l.getD p false) := by
 intro k
 induction k with
 | zero => intro _ p; simp [gt]
 | succ k ih =>
  intro hk p
  have ih' := ih (by omega) p
  simp only [gt]
  split
  ·rename_i h
   rw [k9 (by omega), ih']
   by_cases e : p = k
   ·subst e; rw [h]; simp
   ·simp only [e, decide_false, Bool.false_or]
    congr 1
    rw [Bool.eq_iff_iff]; simp; omega
  ·rename_i h
   rw [ih']
   by_cases e : p = k
   ·subst e
    rw [Bool.eq_false_iff.2 h]; simp
   ·congr 1
    rw [Bool.eq_iff_iff]; simp; omega
theorem tH {l : List Bool} {k : Nat} (h : l.getD k false = false) : gt l (k + 1) = gt l k := by
 rw [gt, if_neg (by rw [h]; decide)]
theorem qd (l : List Bool) {i k : Nat} (hi : i < 4) (hk : k < 64) : wd (gt l (64 * i + k)) i < 2 ^ k := by
 refine Nat.lt_pow_two_of_testBit _ fun j hj => ?_
 rw [il, pt l _ (by omega)]
 by_cases h : j < 64
 ·have : ¬ (64 * i + j < 64 * i + k) := by omega
  simp [this]
 ·simp [h]
theorem Db (l : List Bool) {i k : Nat} (hi : i < 4) (hk : k < 64) : wd (gt l (64 * i + k)) i + 2 ^ k = wd (gt l (64 * i + k)) i ||| 2 ^ k := by
 have h := Nat.two_pow_add_eq_or_of_lt (qd l hi hk) 1
 rw [Nat.mul_one] at h
 rw [Nat.add_comm, h, Nat.or_comm]
theorem F7 (l : List Bool) {i k : Nat} (hi : i < 4) (hk : k < 64) (h : l.getD (64 * i + k) false = true) :
  ∀ j, j < 4 → wd (gt l (64 * i + k + 1)) j = if j = i then wd (gt l (64 * i + k)) i + 2 ^ k else wd (gt l (64 * i + k)) j := by
 intro j hj
 rw [Db l hi hk]
 have e := Af (s := gt l (64 * i + k)) (q := 64 * i + k) (by omega) j hj
 have e1 : (64 * i + k) / 64 = i := by omega
 have e2 : (64 * i + k) % 64 = k := by omega
 rw [e1, e2] at e
 rw [← e]
 simp only [gt, h, if_true]
theorem zd (l : List Bool) {i k : Nat} (hi : i < 4) (hk : k < 64) : wd (gt l (64 * i + k)) i + 2 ^ k < d5 .u64 := by
 have h1 := qd l hi hk
 have h2 : 2 ^ (k + 1) ≤ 2 ^ 64 := Nat.pow_le_pow_right (by decide) (by omega)
 rw [Nat.pow_succ] at h2
 simp only [d5]
 omega
theorem rA {s t i : Nat} (hi : i < 4) (h : ∀ p, p < 256 → s.testBit p = t.testBit p) : wd s i = wd t i := by
 refine jP (tA t i) fun j hj => ?_
 rw [il, h (64 * i + j) (by omega)]
 simp [hj]
def lE (k : Nat) : List Bool := (List.range 256).map fun p => decide (p < k)
theorem cX (k : Nat) : (lE k).length = 256 := by simp [lE]
theorem Bh : List.replicate 256 false = lE 0 := by
 unfold lE
 rw [show (fun p : Nat => decide (p < 0)) = fun _ => false from funext fun p => by simp]
 rw [List.map_const', List.length_range]
theorem Cy (k : Nat) : (lE k).set (k : Int).toNat true = lE (k + 1) := by
 rw [Int.toNat_natCast]
 exact qR _ _ (fun q _ h => by rw [Bool.eq_iff_iff]; simp; omega) _ (by simp)
theorem BU {k : Nat} (_h : k ≤ 256) : ∀ p, p < 256 → (gt (lE k) 256).testBit p = (pQ k).testBit p := by
 intro p hp
 rw [pt _ _ (Nat.le_refl _), pE, lE, nn _ _ hp]
 simp [hp]
def lit (m v i : Nat) : Int := if m / 2 ^ i % 2 = 0 then 2 else ((v / 2 ^ i % 2 : Nat) : Int)
def pS (m v k : Nat) : List Int := (List.range k).map (lit m v)
abbrev lQ (m v : Nat) : List Int := pS m v 8
theorem nb (m v k : Nat) : pS m v (k + 1) = pS m v k ++ [lit m v k] := by simp [pS, List.range_succ]
theorem cW (m v k : Nat) : (pS m v k).length = k := by simp [pS]
theorem jR {m v k p : Nat} (h : p < k) : (pS m v k).getD p 0 = lit m v p := nn _ _ h
theorem FB (m v i : Nat) : lit m v i = 0 ∨ lit m v i = 1 ∨ lit m v i = 2 := by
 unfold lit
 split
 ·exact .inr (.inr rfl)
 ·have : v / 2 ^ i % 2 < 2 := Nat.mod_lt _ (by decide)
  omega
def Kg (l : List Int) : Prop := l.length ≤ 8 ∧ ∀ i, i < l.length → l.getD i 0 = 0 ∨ l.getD i 0 = 1 ∨ l.getD i 0 = 2
theorem vf (m v : Nat) : Kg (lQ m v) := ⟨by rw [cW]; exact Nat.le_refl _, fun i hi => by rw [jR (by rwa [cW] at hi)]; exact FB m v i⟩
def jn (l : List Int) : Nat → Nat
 | 0 => 0
 | k + 1 => if l.getD k 0 < 2 then jn l k + 2 ^ k else jn l k
def lA (l : List Int) : Nat → Nat
 | 0 => 0
 | k + 1 => if l.getD k 0 < 2 then lA l k + 2 ^ k * (l.getD k 0).toNat else lA l k
theorem yh (l : List Int) : ∀ k, jn l k < 2 ^ k
 | 0 => by simp [jn]
 | k + 1 => by
  have ih := yh l k
  simp only [jn, Nat.pow_succ]
  split <;> omega
theorem z4 (l : List Int) : ∀ k, lA l k < 2 ^ k
 | 0 => by simp [lA]
 | k + 1 => by
  have ih := z4 l k
  have hp : 0 < 2 ^ k := Nat.two_pow_pos k
  simp only [lA, Nat.pow_succ]
  split
  ·rename_i h
   have : (l.getD k 0).toNat ≤ 1 := by omega
   have h2 : 2 ^ k * (l.getD k 0).toNat ≤ 2 ^ k * 1 := Nat.mul_le_mul_left _ this
   omega
  ·omega
theorem xX (m v : Nat) : ∀ k, k ≤ 8 → jn (lQ m v) k = m % 2 ^ k
 | 0, _ => by simp [jn, Nat.mod_one]
 | k + 1, h => by
  have ih := xX m v k (by omega)
  have hb : m / 2 ^ k % 2 < 2 := Nat.mod_lt _ (by decide)
  simp only [jn, jR (show k < 8 by omega), ih, Nat.mod_pow_succ]
  unfold lit
  by_cases e : m / 2 ^ k % 2 = 0
  ·simp [e]
  ·have e1 : m / 2 ^ k % 2 = 1 := by omega
   have hv : v / 2 ^ k % 2 < 2 := Nat.mod_lt _ (by decide)
   rw [if_neg e, if_pos (by omega), e1, Nat.mul_one]
theorem J6 (v m k : Nat) : (v &&& m) / 2 ^ k % 2 = if m / 2 ^ k % 2 = 0 then 0 else v / 2 ^ k % 2 := by
 have h := Nat.testBit_and v m k
 rw [gY, gY, gY] at h
 have h1 : (v &&& m) / 2 ^ k % 2 < 2 := Nat.mod_lt _ (by decide)
 have h2 : v / 2 ^ k % 2 < 2 := Nat.mod_lt _ (by decide)
 have h3 : m / 2 ^ k % 2 < 2 := Nat.mod_lt _ (by decide)
 rw [Bool.eq_iff_iff] at h
 simp at h
 split <;> omega
theorem Bb (m v : Nat) : ∀ k, k ≤ 8 → lA (lQ m v) k = (v &&& m) % 2 ^ k
 | 0, _ => by simp [lA, Nat.mod_one]
 | k + 1, h => by
  have ih := Bb m v k (by omega)
  have hb : m / 2 ^ k % 2 < 2 := Nat.mod_lt _ (by decide)
  simp only [lA, jR (show k < 8 by omega), ih, Nat.mod_pow_succ, J6]
  unfold lit
  by_cases e : m / 2 ^ k % 2 = 0
  ·simp [e]
  ·have hv : v / 2 ^ k % 2 < 2 := Nat.mod_lt _ (by decide)
   rw [if_neg e, if_neg e, if_pos (by omega), Int.toNat_natCast]
theorem wq {m v : Nat} (hm : m < 256) {n : Nat} : (∀ i, n ≤ i → i < 8 → lit m v i = 2) ↔ m < 2 ^ n := by
 constructor
 ·intro h
  refine Nat.lt_pow_two_of_testBit _ fun j hj => ?_
  rw [gY]
  by_cases h8 : j < 8
  ·have := h j hj h8
   unfold lit at this
   split at this
   ·rename_i e; simp [e]
   ·have : v / 2 ^ j % 2 < 2 := Nat.mod_lt _ (by decide)
    omega
  ·have h2 : 2 ^ 8 ≤ 2 ^ j := Nat.pow_le_pow_right (by decide) (by omega)
   rw [Nat.div_eq_of_lt (by omega)]
   simp
 ·intro h i hi _
  have h2 : 2 ^ n ≤ 2 ^ i := Nat.pow_le_pow_right (by decide) hi
  simp [lit, Nat.div_eq_of_lt (Nat.lt_of_lt_of_le h h2)]
theorem ph {v m : Nat} : andNot v m = 0 ↔ v &&& m = v := by
 constructor
 ·intro h
  refine Nat.eq_of_testBit_eq fun i => ?_
  have h2 := congrArg (fun x => x.testBit i) h
  simp only [eh, Nat.zero_testBit] at h2
  rw [Nat.testBit_and]
  cases hv : v.testBit i <;> simp_all
 ·intro h
  refine Nat.eq_of_testBit_eq fun i => ?_
  have h2 := congrArg (fun x => x.testBit i) h
  simp only [Nat.testBit_and] at h2
  rw [eh, Nat.zero_testBit]
  cases hv : v.testBit i <;> simp_all
def pf (m v p : Nat) : Bool := decide (p &&& m = v &&& m)
theorem yd {m v p : Nat} (hm : m < 256) : (∀ i, i < 8 → lit m v i = 2 ∨ lit m v i = ((p / 2 ^ i % 2 : Nat) : Int)) ↔ p &&& m = v &&& m := by
 constructor
 ·intro h
  refine Nat.eq_of_testBit_eq fun i => ?_
  rw [Nat.testBit_and, Nat.testBit_and, gY p, gY v, gY m]
  by_cases h8 : i < 8
  ·have h2 : v / 2 ^ i % 2 < 2 := Nat.mod_lt _ (by decide)
   have h1 := h i h8
   unfold lit at h1
   split at h1
   ·rename_i e; simp [e]
   ·have : p / 2 ^ i % 2 = v / 2 ^ i % 2 := by omega
    rw [this]
  ·have h2 : 2 ^ 8 ≤ 2 ^ i := Nat.pow_le_pow_right (by decide) (by omega)
   rw [show m / 2 ^ i = 0 from Nat.div_eq_of_lt (by omega)]
   simp
 ·intro h i _
  unfold lit
  have h2 := congrArg (fun x => x.testBit i) h
  simp only [Nat.testBit_and] at h2
  rw [gY p, gY v, gY m] at h2
  have h3 : v / 2 ^ i % 2 < 2 := Nat.mod_lt _ (by decide)
  have h4 : p / 2 ^ i % 2 < 2 := Nat.mod_lt _ (by decide)
  split
  ·exact .inl rfl
  ·rename_i e
   have : m / 2 ^ i % 2 = 1 := by have := Nat.mod_lt (m / 2 ^ i) (show 0 < 2 by decide); omega
   right
   rw [Bool.eq_iff_iff] at h2
   simp [this] at h2
   omega
def QW (m v n k : Nat) : List Bool := (List.range 256).map fun p => decide (p < 2 ^ n) && (decide (¬ p < k) || pf m v p)
theorem da (m v n k : Nat) : (QW m v n k).length = 256 := by simp [QW]
theorem Kg.get {l : List Int} (h : Kg l) {k : Nat} (hk : k < l.length) (h2 : l.getD k 0 < 2) : ∃ q : Nat, q ≤ 1 ∧ l.getD k 0 = (q : Int) := by
 rcases h.2 k hk with e | e | e
 ·exact ⟨0, by decide, e⟩
 ·exact ⟨1, by decide, e⟩
 ·omega
theorem ou {l : List Int} {k q : Nat} (hq : l.getD k 0 = (q : Int)) (h1 : q ≤ 1) : jn l (k + 1) = jn l k + 2 ^ k ∧ lA l (k + 1) = lA l k + 2 ^ k * q := by
 simp only [jn, lA, hq, Int.toNat_natCast]
 rw [if_pos (by omega), if_pos (by omega)]
 exact ⟨rfl, rfl⟩
theorem oo {l : List Int} {k : Nat} (h : ¬ l.getD k 0 < 2) : jn l (k + 1) = jn l k ∧ lA l (k + 1) = lA l k := by
 simp only [jn, lA, if_neg h, and_self]
theorem Cs {m v n i : Nat} (hw : ∀ q, n ≤ q → q < i → lit m v q = 2) (hi : i < 8) (h : (lQ m v).getD (i : Int).toNat 0 = 2) : ∀ q, n ≤ q → q < i + 1 → lit m v q = 2 := fun q h1 h2 => by
 rcases Nat.lt_succ_iff_lt_or_eq.1 h2 with h2 | rfl
 ·exact hw q h1 h2
 ·rwa [Int.toNat_natCast, jR hi] at h
theorem mf {m v : Nat} {n : Int} (h : n < 0 ∨ 8 < n) : dY m v n = false := by
 unfold dY
 rcases h with h | h
 ·rw [decide_eq_false (show ¬ 0 ≤ n by omega)]; rfl
 ·rw [decide_eq_false (show ¬ n ≤ 8 by omega)]; simp
theorem Fy {m v i : Nat} {n : Int} (hm : m < 256) (hi : n.toNat ≤ i ∧ i < 8) (h : ¬ (lQ m v).getD (i : Int).toNat 0 = 2) : dY m v n = false := by
 rw [Int.toNat_natCast, jR hi.2] at h
 have : ¬ m < 2 ^ n.toNat := fun hlt => h ((wq hm).2 hlt i hi.1 hi.2)
 unfold dY
 rw [decide_eq_false this]; simp
theorem Fi {m v : Nat} {n : Int} (hm : m < 256) (hv : v < 256) (hn : 0 ≤ n ∧ n ≤ 8) (hw : ∀ q, n.toNat ≤ q → q < 8 → lit m v q = 2) :
  decide (((jn (lQ m v) (lQ m v).length : Nat) : Int) = (m : Int) ∧ ((lA (lQ m v) (lQ m v).length : Nat) : Int) = (v : Int)) = dY m v n := by
 have h1 := (wq hm).1 hw
 have h2 : v &&& m ≤ v := Nat.and_le_left
 rw [cW, xX m v 8 (Nat.le_refl _), Bb m v 8 (Nat.le_refl _), Nat.mod_eq_of_lt (by simpa using hm), Nat.mod_eq_of_lt (by simp; omega)]
 unfold dY
 rw [decide_eq_true hn.1, decide_eq_true hn.2, decide_eq_true h1, Bool.true_and, Bool.true_and, Bool.true_and, Bool.eq_iff_iff]
 simp only [decide_eq_true_eq]
 exact ⟨fun h => ph.2 (by exact_mod_cast h.2), fun h => ⟨trivial, by rw [ph.1 h]⟩⟩
theorem AZ {m v k p : Nat} (hk : k < 8) (h : ¬ (¬ (lQ m v).getD (k : Int).toNat 0 = 2) ∨ ¬ (¬ (lQ m v).getD (k : Int).toNat 0 = ((p / 2 ^ k % 2 : Nat) : Int))) : lit m v k = 2 ∨ lit m v k = ((p / 2 ^ k % 2 : Nat) : Int) := by
 rw [Int.toNat_natCast, jR hk] at h
 rcases h with h | h
 ·exact .inl (Decidable.not_not.1 h)
 ·exact .inr (Decidable.not_not.1 h)
theorem J4 {m v k p : Nat} (hm : m < 256) (hk : k < 8) (h1 : ¬ (lQ m v).getD (k : Int).toNat 0 = 2) (h2 : ¬ (lQ m v).getD (k : Int).toNat 0 = ((p / 2 ^ k % 2 : Nat) : Int)) : pf m v p = false := by
 rw [Int.toNat_natCast, jR hk] at h1 h2
 refine decide_eq_false fun h => ?_
 rcases (yd hm).2 h k hk with e | e
 ·exact h1 e
 ·exact h2 e
theorem LK {m v p : Nat} (hm : m < 256) (hw : ∀ q, q < 8 → lit m v q = 2 ∨ lit m v q = ((p / 2 ^ q % 2 : Nat) : Int)) : true = pf m v p :=
 (decide_eq_true ((yd hm).1 hw)).symm
end
section
open Go Go.RowKit
open Go.ChangeMaps (setBlock)
section
variable {α β : Type} [DecidableEq α]
def g6 : List (α × β) → α → Option β
 | [], _ => none
 | (a, b) :: r, k => if a = k then some b else g6 r k
def g7 (l : List (α × β)) (k : α) (v : β) : List (α × β) := if k ∈ l.map (·.1) then l.map (fun p => if p.1 = k then (k, v) else p) else l ++ [(k, v)]
def iB (l : List α) (k : α) : List α := if k ∈ l then l else l ++ [k]
def ft (l : List α) : List (α × Bool) := l.map fun a => (a, true)
theorem nD {l : List (α × β)} {k : α} : g6 l k = none ↔ k ∉ l.map (·.1) := by
 induction l with
 | nil => simp [g6]
 | cons p r ih =>
  obtain ⟨a, b⟩ := p
  simp only [g6, List.map_cons, List.mem_cons, not_or]
  by_cases e : a = k
  ·subst e; simp
  ·simp only [if_neg e, ih]
   exact ⟨fun h => ⟨fun h2 => e h2.symm, h⟩, fun h => h.2⟩
theorem md {l : List (α × β)} {k : α} {v : β} (hn : (l.map (·.1)).Nodup) : g6 l k = some v ↔ (k, v) ∈ l := by
 induction l with
 | nil => simp [g6]
 | cons p r ih =>
  obtain ⟨a, b⟩ := p
  rw [List.map_cons, List.nodup_cons] at hn
  simp only [g6, List.mem_cons, Prod.mk.injEq]
  by_cases e : a = k
  ·subst e
   simp only [if_true, Option.some.injEq, true_and]
   constructor
   ·intro h; exact .inl h.symm
   ·rintro (h | h)
    ·exact h.symm
    ·exact absurd (List.mem_map_of_mem (f := (·.1)) h) hn.1
  ·rw [if_neg e, ih hn.2]
   constructor
   ·intro h; exact .inr h
   ·rintro (⟨h, _⟩ | h)
    ·exact absurd h.symm e
    ·exact h
theorem j7 (l : List (α × β)) (k : α) (v : β) : (g7 l k v).map (·.1) = iB (l.map (·.1)) k := by
 unfold g7 iB
 split
 ·rw [List.map_map]
  refine List.map_congr_left fun p _ => ?_
  simp only [Function.comp]
  split
  ·rename_i h; exact h.symm
  ·rfl
 ·simp
theorem xJ {α : Type} (l : List α) : (ft l).map (·.1) = l := by
 unfold ft
 rw [List.map_map]
 exact List.map_id l
theorem xA {γ : Type} {l : List γ} (hn : l.Nodup) {i j : Nat} {a : γ} (hi : l[i]? = some a) (hj : l[j]? = some a) : i = j := by
 have h := List.pairwise_iff_getElem.1 hn
 obtain ⟨hi', h1⟩ := List.getElem?_eq_some_iff.1 hi
 obtain ⟨hj', h2⟩ := List.getElem?_eq_some_iff.1 hj
 rcases Nat.lt_trichotomy i j with hlt | rfl | hlt
 ·exact absurd (h1.trans h2.symm) (h i j hi' hj' hlt)
 ·rfl
 ·exact absurd (h2.trans h1.symm) (h j i hj' hi' hlt)
theorem jj (l : List α) (k : α) : g7 (ft l) k true = ft (iB l k) := by
 unfold g7 iB
 rw [xJ]
 split
 ·unfold ft
  rw [List.map_map]
  refine List.map_congr_left fun a _ => ?_
  simp only [Function.comp]
  split
  ·rename_i h; rw [h]
  ·rfl
 ·simp [ft]
theorem ls (l : List α) (k : α) : (g6 (ft l) k).getD false = decide (k ∈ l) := by
 induction l with
 | nil => rfl
 | cons a r ih =>
  unfold ft at *
  simp only [List.map_cons, g6, List.mem_cons]
  by_cases e : a = k
  ·subst e; simp
  ·rw [if_neg e, ih, Bool.eq_iff_iff]
   simp only [decide_eq_true_eq]
   exact ⟨fun h => .inr h, fun h => h.resolve_left (fun h2 => e h2.symm)⟩
theorem gm {l : List α} {k a : α} : a ∈ iB l k ↔ a ∈ l ∨ a = k := by
 unfold iB
 split
 ·rename_i h
  exact ⟨.inl, fun h2 => h2.elim id fun e => e ▸ h⟩
 ·simp
theorem jl {l : List α} (h : l.Nodup) (k : α) : (iB l k).Nodup := by
 unfold iB
 split
 ·exact h
 ·rename_i hk
  rw [List.nodup_append]
  exact ⟨h, by simp, fun a ha b hb => by simp at hb; subst hb; exact fun e => hk (e ▸ ha)⟩
theorem pn (l : List α) (k : α) : (iB l k).length ≤ l.length + 1 := by
 unfold iB
 split <;> simp
end
structure oS (P : Program) (k : TypeId) (S : Value → Prop) : Prop where
 check : ∀ (w : World) (em : Bool) {v : Value}, S v → (Instr.checkKey em 10000 k v).run P w = .ok () w
 find : ∀ (w : World) {x : Value}, S x → ∀ es : List MapEntry, (∀ e ∈ es, S e.key) →
  ((Instr.findKey k x es).run P w = .ok none w ∧ ∀ e ∈ es, e.key ≠ x) ∨ ∃ j e, (Instr.findKey k x es).run P w = .ok (some (j, e.val)) w ∧ es[j]? = some e ∧ e.key = x
 stays : ∀ (w : World) {v : Value}, S v → (Instr.keyThatStays v v).run P w = .ok v w
theorem oT {P : Program} {k : TypeId} {S : Value → Prop} (hE : ∀ (w : World) {a b : Value}, S a → S b → ∃ r, (Op.equal k a b).run P w = .ok r w ∧ (r = true ↔ a = b)) (w : World) {x : Value} (hx : S x) :
  ∀ (es : List MapEntry) (i : Nat), (∀ e ∈ es, S e.key) →
  ((Instr.findAsking k x es i).run P w = .ok none w ∧ ∀ e ∈ es, e.key ≠ x) ∨ ∃ j e, (Instr.findAsking k x es i).run P w = .ok (some (i + j, e.val)) w ∧ es[j]? = some e ∧ e.key = x
 | [], i, _ => .inl ⟨by simp [Instr.findAsking], by simp⟩
 | e :: es, i, h => by
  obtain ⟨r, h1, h2⟩ := hE w hx (h e (by simp))
  cases r with
  | true =>
   refine .inr ⟨0, e, ?_, rfl, (h2.1 rfl).symm⟩
   simp [Instr.findAsking, h1]
  | false =>
   have hne : e.key ≠ x := fun h => by have := h2.2 h.symm; cases this
   rcases oT hE w hx es (i + 1) (fun e he => h e (by simp [he])) with ⟨g1, g2⟩ | ⟨j, e', g1, g2, g3⟩
   ·refine .inl ⟨?_, fun e' he' => ?_⟩
    ·simp [Instr.findAsking, h1, g1]
    ·rcases List.mem_cons.1 he' with rfl | he'
     ·exact hne
     ·exact g2 e' he'
   ·refine .inr ⟨j + 1, e', ?_, by simpa using g2, g3⟩
    simp [Instr.findAsking, h1, g1]
    omega
theorem qN {desc : TypeDesc} {S : Value → Prop} (hN : ∀ a b, S a → S b → Instr.sameNow desc a b = none ∨ ∃ r, Instr.sameNow desc a b = some r ∧ (r = true ↔ a = b)) {x : Value} (hx : S x) :
  ∀ (es : List MapEntry) (i : Nat), (∀ e ∈ es, S e.key) → Instr.findNow desc x es i = none ∨ (Instr.findNow desc x es i = some none ∧ ∀ e ∈ es, e.key ≠ x) ∨ ∃ j e, Instr.findNow desc x es i = some (some (i + j, e.val)) ∧ es[j]? = some e ∧ e.key = x
 | [], i, _ => .inr (.inl ⟨rfl, by simp⟩)
 | e :: es, i, h => by
  rcases hN x e.key hx (h e (by simp)) with h1 | ⟨r, h1, h2⟩
  ·left; simp [Instr.findNow, h1]
  ·cases r with
   | true => exact .inr (.inr ⟨0, e, by simp [Instr.findNow, h1], rfl, (h2.1 rfl).symm⟩)
   | false =>
    have hne : e.key ≠ x := fun h => by have := h2.2 h.symm; cases this
    rcases qN hN hx es (i + 1) (fun e he => h e (by simp [he])) with g | ⟨g1, g2⟩ | ⟨j, e', g1, g2, g3⟩
    ·left; simp [Instr.findNow, h1, g]
    ·refine .inr (.inl ⟨by simp [Instr.findNow, h1, g1], fun e' he' => ?_⟩)
     rcases List.mem_cons.1 he' with rfl | he'
     ·exact hne
     ·exact g2 e' he'
    ·refine .inr (.inr ⟨j + 1, e', ?_, by simpa using g2, g3⟩)
     simp [Instr.findNow, h1, g1]
     omega
theorem nG {P : Program} {k : TypeId} {desc : TypeDesc} {S : Value → Prop} (hu : P.underlying k = some desc)
  (hE : ∀ (w : World) {a b : Value}, S a → S b → ∃ r, (Op.equal k a b).run P w = .ok r w ∧ (r = true ↔ a = b))
  (hN : ∀ a b, S a → S b → Instr.sameNow desc a b = none ∨ ∃ r, Instr.sameNow desc a b = some r ∧ (r = true ↔ a = b))
  (hC : ∀ (w : World) (em : Bool) {v : Value}, S v → (Instr.checkKey em 10000 k v).run P w = .ok () w)
  (hS : ∀ v, S v → Instr.sameBits 10000 v v = true) : oS P k S := by
 refine ⟨hC, fun w x hx es hes => ?_, fun w v hv => by simp [Instr.keyThatStays, hS v hv]⟩
 rcases qN hN hx es 0 hes with g | ⟨g1, g2⟩ | ⟨j, e', g1, g2, g3⟩
 ·rcases oT hE w hx es 0 hes with ⟨h1, h2⟩ | ⟨j, e, h1, h2, h3⟩
  ·exact .inl ⟨by simp [Instr.findKey, run_underlying hu, g, h1], h2⟩
  ·exact .inr ⟨j, e, by simpa [Instr.findKey, run_underlying hu, g] using h1, h2, h3⟩
 ·exact .inl ⟨by simp [Instr.findKey, run_underlying hu, g1], g2⟩
 ·exact .inr ⟨j, e', by simp [Instr.findKey, run_underlying hu, g1], g2, g3⟩
def jQ {α β : Type} (enc : α → Value) (encV : β → Value) (f : α → Nat) (l : List (α × β)) : List MapEntry := l.map fun p => ⟨enc p.1, encV p.2, f p.1⟩
structure ru {α β : Type} (enc : α → Value) (encV : β → Value) (w : World) (b : Nat) (l : List (α × β)) (f : α → Nat) (clock : Nat) : Prop where
 heap : w.heap[b]? = some (.map (jQ enc encV f l).toArray clock)
 born : ∀ p ∈ l, f p.1 < clock
 inj : ∀ p ∈ l, ∀ q ∈ l, f p.1 = f q.1 → p.1 = q.1
 nodup : (l.map (·.1)).Nodup
def dR {α β : Type} (enc : α → Value) (encV : β → Value) (w : World) (b : Nat) (l : List (α × β)) : Prop := ∃ f clock, ru enc encV w b l f clock
structure eJ {α β : Type} (enc : α → Value) (encV : β → Value) (w : World) (it b : Nat) (l : List (α × β)) (seen : List α) : Prop where
 out : ∃ f clock since c0 sn, ru enc encV w b l f clock ∧ w.heap[it]? = some (.mapIter (some b) since sn c0) ∧ since ≤ c0 ∧ since ≤ clock ∧ (∀ p ∈ l, f p.1 < since) ∧ sn.toList = (seen.map f).reverse ∧ (seen = [] ∨ c0 = clock)
 sub : ∀ k ∈ seen, k ∈ l.map (·.1)
 nodup : seen.Nodup
section
variable {α β : Type} {enc : α → Value} {encV : β → Value} {w w' : World} {b it : Nat} {l : List (α × β)} {f : α → Nat} {clock : Nat} {seen : List α}
theorem ru.lt (h : ru enc encV w b l f clock) : b < w.heap.size := iF h.heap
theorem dR.lt (h : dR enc encV w b l) : b < w.heap.size := by obtain ⟨f, c, h⟩ := h; exact h.lt
theorem ru.moved (h : ru enc encV w b l f clock) (e : w'.heap[b]? = w.heap[b]?) : ru enc encV w' b l f clock := ⟨by rw [e]; exact h.heap, h.born, h.inj, h.nodup⟩
theorem dR.moved (h : dR enc encV w b l) (e : w'.heap[b]? = w.heap[b]?) : dR enc encV w' b l := by
 obtain ⟨f, c, h⟩ := h; exact ⟨f, c, h.moved e⟩
theorem eo.mapT (h : eo w w') (k : dR enc encV w b l) : dR enc encV w' b l := k.moved (Below.block h b k.lt)
theorem dR.grown {row : Option Nat} (k : dR enc encV w b l) (h : w.grownBy w' row) (hne : some b ≠ row) : dR enc encV w' b l := k.moved (h.block b k.lt hne)
theorem eJ.map (h : eJ enc encV w it b l seen) : dR enc encV w b l := by
 obtain ⟨f, c, _, _, _, h, _⟩ := h.out; exact ⟨f, c, h⟩
theorem eJ.lt (h : eJ enc encV w it b l seen) : it < w.heap.size := by
 obtain ⟨_, _, _, _, _, _, h, _⟩ := h.out; exact iF h
theorem eJ.ltB (h : eJ enc encV w it b l seen) : b < w.heap.size := h.map.lt
theorem eJ.moved (h : eJ enc encV w it b l seen) (e : w'.heap[b]? = w.heap[b]?) (e2 : w'.heap[it]? = w.heap[it]?) : eJ enc encV w' it b l seen := by
 obtain ⟨f, c, s, c0, sn, h1, h2, r⟩ := h.out
 exact ⟨⟨f, c, s, c0, sn, h1.moved e, by rw [e2]; exact h2, r⟩, h.sub, h.nodup⟩
theorem eo.iterT (h : eo w w') (k : eJ enc encV w it b l seen) : eJ enc encV w' it b l seen := k.moved (Below.block h b k.ltB) (Below.block h it k.lt)
theorem eJ.grown {row : Option Nat} (k : eJ enc encV w it b l seen) (h : w.grownBy w' row) (hne : some b ≠ row) (hne2 : some it ≠ row) : eJ enc encV w' it b l seen :=
 k.moved (h.block b k.ltB hne) (h.block it k.lt hne2)
theorem dR.nodup (h : dR enc encV w b l) : (l.map (·.1)).Nodup := by obtain ⟨f, c, h⟩ := h; exact h.nodup
theorem eJ.ne (h : eJ enc encV w it b l seen) : it ≠ b := by
 obtain ⟨f, c, s, c0, sn, h1, h2, _⟩ := h.out
 rintro rfl
 rw [h1.heap] at h2
 cases h2
theorem At.ne_map {c : Array Value} {T : TypeId} {a : Nat} (h : At w a c T) (k : dR enc encV w b l) : a ≠ b := by
 rintro rfl
 obtain ⟨f, c, k⟩ := k
 unfold At at h
 rw [k.heap] at h
 cases h
theorem At.ne_iter {c : Array Value} {T : TypeId} {a : Nat} (h : At w a c T) (k : eJ enc encV w it b l seen) : a ≠ it := by
 rintro rfl
 obtain ⟨_, _, _, _, _, _, h2, _⟩ := k.out
 unfold At at h
 rw [h2] at h
 cases h
theorem rk {N sz n : Nat} {T : TypeId} {v : Value} {xs : List Value} (h : w.ownsRow N T sz v n xs) (k : dR enc encV w b l) : some b ≠ v.ownBlock := by
 intro e
 rcases h.2 with ⟨rfl, rfl⟩ | ⟨g, cap, cur, rfl, hg, hh, _⟩
 ·simp [Value.ownBlock] at e
 ·simp [Value.ownBlock] at e
  exact At.ne_map (T := T) (c := cur) (a := g) hh k e.symm
theorem tU {N sz n : Nat} {T : TypeId} {v : Value} {xs : List Value} (h : w.ownsRow N T sz v n xs) (k : eJ enc encV w it b l seen) : some it ≠ v.ownBlock := by
 intro e
 rcases h.2 with ⟨rfl, rfl⟩ | ⟨g, cap, cur, rfl, hg, hh, _⟩
 ·simp [Value.ownBlock] at e
 ·simp [Value.ownBlock] at e
  exact At.ne_iter (T := T) (c := cur) (a := g) hh k e.symm
theorem eJ.ne_map {β' : Type} {α' : Type} {enc' : α' → Value} {encV' : β' → Value} {l' : List (α' × β')} {b' : Nat} (h : eJ enc encV w it b l seen) (k : dR enc' encV' w b' l') : it ≠ b' := by
 rintro rfl
 obtain ⟨_, _, _, _, _, _, h2, _⟩ := h.out
 obtain ⟨f, c, k⟩ := k
 rw [k.heap] at h2
 cases h2
theorem iw {o : Obj} (w : World) (b : Nat) : w.grownBy (setBlock w b o) (some b) :=
 ⟨rfl, rfl, rfl, by simp [setBlock], fun i _ hi => by
  show (w.heap.setIfInBounds b o)[i]? = w.heap[i]?
  rw [Array.getElem?_setIfInBounds_ne (fun e => hi (by rw [e]))]⟩
theorem jO {o : Obj} (h : b < w.heap.size) : (setBlock w b o).heap[b]? = some o := by
 show (w.heap.setIfInBounds b o)[b]? = _
 simp [h]
end
section
variable {α β : Type} [DecidableEq α] {enc : α → Value} {encV : β → Value} {S : Value → Prop}
variable {P : Program} {fr : Nat → Value} {w w' : World} {d : Option Nat} {ty : TypeId} {ps : String} {af : Array Edge} {g : Option (Nat × Bool)} {x y z : Operand}
variable {t kt et : TypeId} {b it : Nat} {l : List (α × β)} {K : Value → World → Prop} {k : α} {v : β}
theorem pA {α β : Type} {enc : α → Value} {encV : β → Value} {l : List (α × β)} {f : α → Nat} {j : Nat} : (jQ enc encV f l)[j]? = (l[j]?).map fun p => ⟨enc p.1, encV p.2, f p.1⟩ := by simp [jQ]
theorem ip (h : lK P t = some (kt, et)) : P.underlying t = some (.map kt et) := by
 unfold lK at h
 cases hu : P.underlying t with
 | none => simp [hu] at h
 | some desc =>
  cases desc <;> simp [hu] at h
  obtain ⟨rfl, rfl⟩ := h
  rfl
theorem rP (KO : oS P kt S) (hS : ∀ a, S (enc a)) (hi : ∀ a a', enc a = enc a' → a = a') {f : α → Nat} (hn : (l.map (·.1)).Nodup) (w : World) (k : α) :
  ((Instr.findKey kt (enc k) (jQ enc encV f l)).run P w = .ok none w ∧ k ∉ l.map (·.1)) ∨ ∃ j v, (Instr.findKey kt (enc k) (jQ enc encV f l)).run P w = .ok (some (j, encV v)) w ∧ l[j]? = some (k, v) ∧ g6 l k = some v := by
 rcases KO.find w (hS k) (jQ enc encV f l) (fun e he => by simp [jQ] at he; obtain ⟨a, _, _, rfl⟩ := he; exact hS _) with ⟨h1, h2⟩ | ⟨j, e, h1, h2, h3⟩
 ·refine .inl ⟨h1, fun hk => ?_⟩
  obtain ⟨p, hp, rfl⟩ := List.mem_map.1 hk
  exact h2 ⟨enc p.1, encV p.2, f p.1⟩ (List.mem_map.2 ⟨p, hp, rfl⟩) rfl
 ·rw [pA] at h2
  obtain ⟨p, hp, rfl⟩ := Option.map_eq_some_iff.1 h2
  obtain ⟨a, v⟩ := p
  obtain rfl := hi _ _ h3
  exact .inr ⟨j, v, h1, hp, (md hn).2 (List.mem_of_getElem? hp)⟩
theorem gE {α β : Type} {enc : α → Value} {encV : β → Value} (hK : ∀ b w', b = w.heap.size → eo w w' → dR enc encV w' b ([] : List (α × β)) → K (.map (some b)) w') : Yd P ⟨d, .makeMap t none, ty, ps, af, g⟩ fr w K := by
 refine .val (w' := w.alloc (.map #[] 0)) ?_ (hK w.heap.size _ rfl (eo.alloc w _) ⟨fun _ => 0, 0, ⟨heap_alloc_new w _, by simp, by simp, by simp⟩⟩)
 simp [execOp, Instr.makeMap, newObj, Sem.run]
theorem fR {z0 : Value} {v0 : β} (hx : dO fr x = .map (some b)) (hy : dO fr y = enc k) (hT : lK P t = some (kt, et)) (KO : oS P kt S) (hS : ∀ a, S (enc a)) (hi : ∀ a a', enc a = enc a' → a = a')
  (hz : eL P et = some z0) (hz0 : z0 = encV v0) (hm : dR enc encV w b l) :
  (execOp (dO fr) ⟨d, .lookup t x y false, ty, ps, af, g⟩).run P w = .ok (.value (encV ((g6 l k).getD v0))) w := by
 subst hz0
 obtain ⟨f, clock, hm⟩ := hm
 unfold eL at hz
 obtain ⟨i, hi2, hzz⟩ := Option.bind_eq_some_iff.1 hz
 rcases rP (P := P) (kt := kt) (encV := encV) KO hS hi (f := f) hm.nodup w k with ⟨h1, h2⟩ | ⟨j, v, h1, h2, h3⟩
 ·rw [nD.2 h2]
  simp [execOp, hx, hy, Instr.lookup, run_underlying (ip hT), getObj, Sem.run, hm.heap, Result.andThen, KO.check w _ (hS k), h1, zeroValue, typeInfo, hi2, hzz]
 ·rw [h3]
  simp [execOp, hx, hy, Instr.lookup, run_underlying (ip hT), getObj, Sem.run, hm.heap, Result.andThen, KO.check w _ (hS k), h1]
theorem IZ {α β : Type} {enc : α → Value} {encV : β → Value} {l : List (α × β)} (hx : dO fr x = .map (some b)) (hT : lK P t = some (kt, et)) (hm : dR enc encV w b l) :
  (execOp (dO fr) ⟨d, .call ⟨.builtin .len, #[x], #[t]⟩, ty, ps, af, g⟩).run P w = .ok (.value (.int .i64 (l.length : Int))) w := by
 obtain ⟨f, clock, hm⟩ := hm
 simp [execOp, resolve, invoke, builtin, hx, Builtin.len_, run_underlying (ip hT), getObj, Sem.run, hm.heap, goInt, Result.andThen, jQ]
theorem ze {f : α → Nat} {clock : Nat} (hk : k ∉ l.map (·.1)) : (jQ enc encV f l).toArray.push ⟨enc k, encV v, clock⟩ = (jQ enc encV (fun a => if a = k then clock else f a) (g7 l k v)).toArray := by
 have e1 : ∀ p ∈ l, p.1 ≠ k := fun p hp e => hk (e ▸ List.mem_map_of_mem (f := (·.1)) hp)
 unfold g7
 rw [if_neg hk]
 unfold jQ
 rw [List.map_append]
 simp only [List.push_toArray, List.map_cons, List.map_nil, if_true]
 congr 2
 refine List.map_congr_left fun p hp => ?_
 rw [if_neg (e1 p hp)]
theorem zn {f : α → Nat} {j : Nat} {v0 : β} (hj : l[j]? = some (k, v0)) (hn : (l.map (·.1)).Nodup) (F : MapEntry → MapEntry) (hF : F ⟨enc k, encV v0, f k⟩ = ⟨enc k, encV v, f k⟩) :
  (jQ enc encV f l).toArray.modify j F = (jQ enc encV f (g7 l k v)).toArray := by
 have hk : k ∈ l.map (·.1) := List.mem_map.2 ⟨_, List.mem_of_getElem? hj, rfl⟩
 unfold g7
 rw [if_pos hk]
 apply Array.ext'
 rw [Array.toList_modify]
 refine List.ext_getElem? fun i => ?_
 rw [List.getElem?_modify]
 simp only [pA, List.getElem?_map]
 by_cases e : j = i
 ·subst e
  simp [hj, hF]
 ·simp only [e, if_false]
  cases hi : l[i]? with
  | none => simp
  | some p =>
   have hne : p.1 ≠ k := fun hpk => by
    have h1 : (l.map (·.1))[i]? = some k := by rw [List.getElem?_map, hi]; simp [hpk]
    have h2 : (l.map (·.1))[j]? = some k := by rw [List.getElem?_map, hj]; rfl
    exact e (xA hn h2 h1)
   simp [hne]
theorem ru.put_new {f : α → Nat} {clock : Nat} (hm : ru enc encV w b l f clock) (hk : k ∉ l.map (·.1)) (v : β) :
  ru enc encV (setBlock w b (.map ((jQ enc encV f l).toArray.push ⟨enc k, encV v, clock⟩) (clock + 1))) b (g7 l k v) (fun a => if a = k then clock else f a) (clock + 1) := by
 have e1 : ∀ p ∈ l, p.1 ≠ k := fun p hp e => hk (e ▸ List.mem_map_of_mem (f := (·.1)) hp)
 have hmem : ∀ p ∈ g7 l k v, p ∈ l ∨ p = (k, v) := fun p hp => by
  unfold g7 at hp
  rw [if_neg hk] at hp
  simpa using hp
 have hb2 : ∀ p ∈ g7 l k v, (p ∈ l ∧ (if p.1 = k then clock else f p.1) = f p.1 ∧ f p.1 < clock) ∨ (p = (k, v) ∧ (if p.1 = k then clock else f p.1) = clock) := fun p hp => by
  rcases hmem p hp with h | h
  ·exact .inl ⟨h, by rw [if_neg (e1 p h)], hm.born p h⟩
  ·subst h; exact .inr ⟨rfl, by simp⟩
 refine ⟨?_, fun p hp => ?_, fun p hp q hq e => ?_, ?_⟩
 ·rw [jO hm.lt, ze hk]
 ·rcases hb2 p hp with ⟨_, h1, h2⟩ | ⟨_, h1⟩ <;> simp only [h1] <;> omega
 ·replace e : (if p.1 = k then clock else f p.1) = (if q.1 = k then clock else f q.1) := e
  rcases hb2 p hp with ⟨hp', h1, h2⟩ | ⟨rfl, h1⟩ <;> rcases hb2 q hq with ⟨hq', h3, h4⟩ | ⟨rfl, h3⟩
  ·rw [h1, h3] at e; exact hm.inj p hp' q hq' e
  ·rw [h1, h3] at e; omega
  ·rw [h1, h3] at e; omega
  ·rfl
 ·rw [j7]; exact jl hm.nodup k
theorem ru.put_old {f : α → Nat} {clock j : Nat} {v0 : β} (hm : ru enc encV w b l f clock) (hj : l[j]? = some (k, v0)) (F : MapEntry → MapEntry) (hF : F ⟨enc k, encV v0, f k⟩ = ⟨enc k, encV v, f k⟩) :
  ru enc encV (setBlock w b (.map ((jQ enc encV f l).toArray.modify j F) clock)) b (g7 l k v) f clock := by
 have hk : k ∈ l.map (·.1) := List.mem_map.2 ⟨_, List.mem_of_getElem? hj, rfl⟩
 have hkeys : (g7 l k v).map (·.1) = l.map (·.1) := by rw [j7, iB, if_pos hk]
 have hmem : ∀ p ∈ g7 l k v, ∃ q ∈ l, q.1 = p.1 := fun p hp => by
  have : p.1 ∈ (g7 l k v).map (·.1) := List.mem_map_of_mem hp
  rw [hkeys] at this
  obtain ⟨q, hq, e⟩ := List.mem_map.1 this
  exact ⟨q, hq, e⟩
 refine ⟨?_, fun p hp => ?_, fun p hp q hq e => ?_, ?_⟩
 ·rw [jO hm.lt, zn hj hm.nodup F hF]
 ·obtain ⟨q, hq, e⟩ := hmem p hp; rw [← e]; exact hm.born q hq
 ·obtain ⟨p', hp', e1⟩ := hmem p hp
  obtain ⟨q', hq', e2⟩ := hmem q hq
  rw [← e1, ← e2] at e ⊢
  exact hm.inj p' hp' q' hq' e
 ·rw [hkeys]; exact hm.nodup
theorem fI (hx : dO fr x = .map (some b)) (hy : dO fr y = enc k) (hz : dO fr z = encV v) (hT : lK P t = some (kt, et)) (KO : oS P kt S) (hS : ∀ a, S (enc a)) (hi : ∀ a a', enc a = enc a' → a = a') (hm : dR enc encV w b l)
  (hK : ∀ w', w.grownBy w' (some b) → dR enc encV w' b (g7 l k v) → K undef w') : Yd P ⟨d, .mapUpdate t x y z, ty, ps, af, g⟩ fr w K := by
 obtain ⟨f, clock, hm⟩ := hm
 rcases rP (P := P) (kt := kt) (encV := encV) KO hS hi (f := f) hm.nodup w k with ⟨h1, h2⟩ | ⟨j, v0, h1, h2, h3⟩
 ·refine .skip ?_ (hK _ (iw w b) ⟨_, _, hm.put_new h2 v⟩)
  have hg := fun o => MapKept.run_setObj_map (P := P) o hm.heap
  simp only [execOp, hx, hy, hz, Instr.mapUpdate, Sem.run_bind, run_underlying (ip hT), Result.andThen_ok, MapKept.run_getObj_map hm.heap, KO.check w _ (hS k), h1, hg]
  rfl
 ·have hF := hm.put_old h2 (v := v) (fun e => ⟨enc k, encV v, e.born⟩) rfl
  refine .skip ?_ (hK _ (iw w b) ⟨_, _, hF⟩)
  have hg := fun o => MapKept.run_setObj_map (P := P) o hm.heap
  have hkey : (((jQ enc encV f l).toArray[j]?).map (·.key)).getD (enc k) = enc k := by simp [pA, h2]
  simp only [execOp, hx, hy, hz, Instr.mapUpdate, Sem.run_bind, run_underlying (ip hT), Result.andThen_ok, MapKept.run_getObj_map hm.heap, KO.check w _ (hS k), h1, hkey, KO.stays w (hS k), hg]
  rfl
structure GJ (enc : α → Value) (encV : β → Value) (w : World) (b : Nat) (l : List (α × β)) (k : α) (stamp : Nat) : Prop where
 out : ∃ (l2 : List (α × β)) (f : α → Nat) (clock j : Nat) (v0 : β), ru enc encV w b l2 f clock ∧ l2[j]? = some (k, v0) ∧ f k = stamp ∧ ∀ v, g7 l2 k v = g7 l k v
theorem Ie (l : List (α × β)) (k : α) (v v' : β) : g7 (g7 l k v) k v' = g7 l k v' := by
 have hk : k ∈ (g7 l k v).map (·.1) := by rw [j7, gm]; exact .inr rfl
 rw [g7, if_pos hk]
 unfold g7
 split
 ·rw [List.map_map]
  refine List.map_congr_left fun p _ => ?_
  simp only [Function.comp]
  by_cases e : p.1 = k <;> simp [e]
 ·rename_i h
  have e1 : ∀ p ∈ l, p.1 ≠ k := fun p hp e => h (e ▸ List.mem_map_of_mem (f := (·.1)) hp)
  rw [List.map_append]
  simp only [List.map_cons, List.map_nil, if_true]
  congr 1
  conv => rhs; rw [← List.map_id l]
  refine List.map_congr_left fun p hp => ?_
  simp [e1 p hp]
theorem Dv {z0 : Value} {v0 : β} (hx : dO fr x = .map (some b)) (hy : dO fr y = enc k) (hT : lK P t = some (kt, et)) (KO : oS P kt S) (hS : ∀ a, S (enc a)) (hi : ∀ a a', enc a = enc a' → a = a')
  (hz : eL P et = some z0) (hz0 : z0 = encV v0) (hm : dR enc encV w b l)
  (hK : ∀ st w', w.grownBy w' (some b) → GJ enc encV w' b l k st → K (.tuple #[encV ((g6 l k).getD v0), .int .i64 (st : Int)]) w') : Yd P ⟨d, .mapEntry t x y, ty, ps, af, g⟩ fr w K := by
 subst hz0
 obtain ⟨f, clock, hm⟩ := hm
 unfold eL at hz
 obtain ⟨i, hi2, hzz⟩ := Option.bind_eq_some_iff.1 hz
 have hg := fun o => MapKept.run_setObj_map (P := P) o hm.heap
 rcases rP (P := P) (kt := kt) (encV := encV) KO hS hi (f := f) hm.nodup w k with ⟨h1, h2⟩ | ⟨j, v, h1, h2, h3⟩
 ·have hm2 := hm.put_new h2 v0
  have hj : (g7 l k v0)[l.length]? = some (k, v0) := by unfold g7; rw [if_neg h2]; simp
  have := hK clock _ (iw w b) ⟨⟨g7 l k v0, _, _, l.length, v0, hm2, hj, by simp, fun v => Ie l k v0 v⟩⟩
  rw [nD.2 h2] at this
  refine .val ?_ this
  simp only [execOp, hx, hy, Instr.mapEntry, Sem.run_bind, run_underlying (ip hT), Result.andThen_ok, MapKept.run_getObj_map hm.heap, KO.check w _ (hS k), h1, zeroValue, typeInfo]
  simp [hi2, hzz, hg, goInt, setBlock]
 ·have hm2 := hm.put_old h2 (v := v) (fun e => ⟨enc k, e.val, e.born⟩) rfl
  have hl2 : g7 l k v = l := by
   have hk : k ∈ l.map (·.1) := List.mem_map.2 ⟨_, List.mem_of_getElem? h2, rfl⟩
   unfold g7
   rw [if_pos hk]
   conv => rhs; rw [← List.map_id l]
   refine List.map_congr_left fun p hp => ?_
   by_cases e : p.1 = k
   ·obtain ⟨a, u⟩ := p
    obtain rfl : a = k := e
    have := (md hm.nodup).2 hp
    rw [h3] at this
    cases this
    simp
   ·simp [e]
  rw [hl2] at hm2
  have := hK (f k) _ (iw w b) ⟨⟨l, _, _, j, v, hm2, h2, rfl, fun v => rfl⟩⟩
  rw [h3] at this
  refine .val ?_ this
  have hkey : (((jQ enc encV f l).toArray[j]?).map (·.key)).getD (enc k) = enc k := by simp [pA, h2]
  have hborn : (((jQ enc encV f l).toArray[j]?).map (fun x => ((x.born : Nat) : Int))).getD 0 = (f k : Int) := by simp [pA, h2]
  simp only [execOp, hx, hy, Instr.mapEntry, Sem.run_bind, run_underlying (ip hT), Result.andThen_ok, MapKept.run_getObj_map hm.heap, KO.check w _ (hS k), h1, hkey, hborn, KO.stays w (hS k), hg]
  rfl
theorem yH {st : Nat} (hx : dO fr x = .map (some b)) (hy : dO fr y = .int .i64 (st : Int)) (hz : dO fr z = encV v) (hm : GJ enc encV w b l k st)
  (hK : ∀ w', w.grownBy w' (some b) → dR enc encV w' b (g7 l k v) → K undef w') : Yd P ⟨d, .entryStore t x y z, ty, ps, af, g⟩ fr w K := by
 obtain ⟨l2, f, clock, j, v0, hm2, hj, rfl, hp⟩ := hm.out
 have hg := fun o => MapKept.run_setObj_map (P := P) o hm2.heap
 have hF := hm2.put_old hj (v := v) (fun e => { e with val := encV v }) rfl
 rw [hp] at hF
 refine .skip ?_ (hK _ (iw w b) ⟨_, _, hF⟩)
 have hfind : (jQ enc encV f l2).toArray.findIdx? (fun e => (e.born : Int) == (f k : Int)) = some j := by
  rw [Array.findIdx?_eq_some_iff_getElem]
  have hjl : j < l2.length := (List.getElem?_eq_some_iff.1 hj).1
  have hjv : l2[j] = (k, v0) := (List.getElem?_eq_some_iff.1 hj).2
  refine ⟨by simpa [jQ] using hjl, ?_, fun i hi => ?_⟩
  ·simp [jQ, hjv]
  ·have hil : i < l2.length := Nat.lt_trans hi hjl
   simp only [jQ, List.getElem_toArray, List.getElem_map, beq_iff_eq]
   intro e
   have e2 : f l2[i].1 = f l2[j].1 := by rw [hjv]; exact_mod_cast e
   have e3 := hm2.inj _ (List.getElem_mem hil) _ (List.getElem_mem hjl) e2
   have h8 : (l2.map (·.1))[i]? = some (l2[i].1) := by simp [hil]
   have h9 : (l2.map (·.1))[j]? = some (l2[i].1) := by rw [e3]; simp [hjl]
   have := xA hm2.nodup h8 h9
   omega
 simp only [execOp, hx, hy, hz, Instr.entryStore, Sem.run_bind, Result.andThen_ok, MapKept.run_getObj_map hm2.heap, asInt, asIntOf]
 have hfind2 : (jQ enc encV f l2).findIdx? (fun e => (e.born : Int) == (f k : Int)) = some j := by simpa using hfind
 simp [hfind2, hg, setBlock]
theorem zv {α β : Type} {enc : α → Value} {encV : β → Value} {l : List (α × β)} (hx : dO fr x = .map (some b)) (hT : lK P t = some (kt, et)) (hm : dR enc encV w b l)
  (hK : ∀ it w', it = w.heap.size → eo w w' → eJ enc encV w' it b l [] → K (.pointer (some ⟨it, 0, none⟩)) w') : Yd P ⟨d, .range t x, ty, ps, af, g⟩ fr w K := by
 obtain ⟨f, clock, hm⟩ := hm
 have hE := eo.alloc w (.mapIter (some b) clock #[] clock)
 refine .val ?_ (hK w.heap.size _ rfl hE ⟨⟨f, clock, clock, clock, #[], hm.moved (Below.block hE b hm.lt), heap_alloc_new w _, Nat.le_refl _, Nat.le_refl _, hm.born, by simp, .inl rfl⟩, by simp, by simp⟩)
 simp only [execOp, hx, Instr.range, Sem.run_bind, run_underlying (ip hT), Result.andThen_ok, MapKept.run_getObj_map hm.heap]
 simp [newObj, Sem.run]
theorem Dp {seen : List α} (hx : dO fr x = .pointer (some ⟨it, 0, none⟩)) (hm : eJ enc encV w it b l seen)
  (hK0 : (∀ p ∈ l, p.1 ∈ seen) → K (.tuple #[.bool false]) w)
  (hK : ∀ k v w', (k, v) ∈ l → k ∉ seen → w.grownBy w' (some it) → eJ enc encV w' it b l (k :: seen) → K (.tuple #[.bool true, enc k, encV v]) w') : Yd P ⟨d, .next x false, ty, ps, af, g⟩ fr w K := by
 obtain ⟨f, clock, since, c0, sn, h1, h2, h3, h3', h4, h5, h6⟩ := hm.out
 have hsn : ∀ p ∈ l, (sn.contains (f p.1) = true ↔ p.1 ∈ seen) := fun p hp => by
  rw [Array.contains_iff_mem, ← Array.mem_toList_iff, h5, List.mem_reverse, List.mem_map]
  constructor
  ·rintro ⟨a, ha, e⟩
   obtain ⟨q, hq, rfl⟩ := List.mem_map.1 (hm.sub a ha)
   rw [← h1.inj q hq p hp e]; exact ha
  ·intro h; exact ⟨_, h, rfl⟩
 have hleft : ∀ e, e ∈ (leftOf (jQ enc encV f l).toArray sn).toList ↔ ∃ p ∈ l, e = ⟨enc p.1, encV p.2, f p.1⟩ ∧ p.1 ∉ seen := fun e => by
  unfold leftOf
  simp only [Array.toList_filter, List.mem_filter, jQ, List.mem_map]
  constructor
  ·rintro ⟨⟨p, hp, rfl⟩, h⟩
   refine ⟨p, hp, rfl, fun hs => ?_⟩
   have := (hsn p hp).2 hs
   replace h : (!sn.contains (f p.1)) = true := h
   rw [this] at h
   cases h
  ·rintro ⟨p, hp, rfl, hs⟩
   refine ⟨⟨p, hp, rfl⟩, ?_⟩
   have : sn.contains (f p.1) = false := Bool.eq_false_iff.2 fun h => hs ((hsn p hp).1 h)
   show (!sn.contains (f p.1)) = true
   rw [this]; rfl
 rcases run_next_at (P := P) w ty it b since c0 sn (jQ enc encV f l).toArray clock h2 h1.heap (fun e he => by simp only [jQ, List.mem_map] at he; obtain ⟨p, hp, rfl⟩ := he; exact h4 p hp) h3 with ⟨g1, g2⟩ | ⟨e, he, w1, hw1, g2⟩
 ·refine .val (w' := w) (v := .tuple #[.bool false]) (by simp [execOp, hx, g2]) (hK0 fun p hp => ?_)
  refine Decidable.byContradiction fun hs => ?_
  have := (hleft ⟨enc p.1, encV p.2, f p.1⟩).2 ⟨p, hp, rfl, hs⟩
  have h0 : (leftOf (jQ enc encV f l).toArray sn).toList = [] := List.eq_nil_of_length_eq_zero (by simpa using g1)
  rw [h0] at this
  cases this
 ·obtain ⟨p, hp, rfl, hs⟩ := (hleft e).1 he
  have hw : w1.heap = w.heap ∧ w1.os = w.os ∧ w1.tape = w.tape ∧ w1.output = w.output := by rcases hw1 with rfl | rfl <;> exact ⟨rfl, rfl, rfl, rfl⟩
  have hne := hm.ne
  have hg : w.grownBy (setBlock w1 it (.mapIter (some b) since (sn.push (f p.1)) clock)) (some it) :=
   ⟨hw.2.1, hw.2.2.1, hw.2.2.2, by simp [setBlock, hw.1], fun i hi hne => by
    show (w1.heap.setIfInBounds it _)[i]? = _
    rw [Array.getElem?_setIfInBounds_ne (fun e => hne (by rw [e])), hw.1]⟩
  refine .val (by simp [execOp, hx, g2]) (hK p.1 p.2 _ hp hs hg ⟨⟨f, clock, since, clock, sn.push (f p.1), h1.moved (hg.block b h1.lt (fun e => hne (Option.some.inj e).symm)), ?_, h3', h3', h4, by simp [h5], .inr rfl⟩, ?_, ?_⟩)
  ·refine jO ?_
   rw [hw.1]; exact hm.lt
  ·intro a ha
   rcases List.mem_cons.1 ha with rfl | ha
   ·exact List.mem_map_of_mem hp
   ·exact hm.sub a ha
  ·exact List.nodup_cons.2 ⟨hs, hm.nodup⟩
theorem zM {α β : Type} {enc : α → Value} {encV : β → Value} {l : List (α × β)} {k : α} {v : β} {seen : List α} (hx : dO fr x = .pointer (some ⟨it, 0, none⟩)) (hm : eJ enc encV w it b l (k :: seen)) (hk : (k, v) ∈ l) :
  (execOp (dO fr) ⟨d, .entry x, ty, ps, af, g⟩).run P w = .ok (.value (.tuple #[enc k, encV v])) w := by
 obtain ⟨f, clock, since, c0, sn, h1, h2, h3, h3', h4, h5, h6⟩ := hm.out
 obtain rfl : c0 = clock := by
  rcases h6 with h6 | h6
  ·cases h6
  ·exact h6
 have e1 : sn = (List.reverse (seen.map f)).toArray.push (f k) := by
  apply Array.ext'
  rw [h5]; simp
 rw [e1] at h2
 have hr := run_entry_at (P := P) w it b since _ (jQ enc encV f l).toArray c0 ⟨enc k, encV v, f k⟩ h2 h1.heap (List.mem_map.2 ⟨_, hk, rfl⟩) (by
  have : (jQ enc encV f l).toArray.toList.map (·.born) = (l.map (·.1)).map f := by simp [jQ]
  rw [this]
  refine List.pairwise_map.2 (h1.nodup.imp_of_mem fun {a c} ha hc hne e => ?_)
  obtain ⟨p, hp, rfl⟩ := List.mem_map.1 ha
  obtain ⟨q, hq, rfl⟩ := List.mem_map.1 hc
  exact hne (h1.inj p hp q hq e))
 simp [execOp, hx, hr]
end
theorem vO {P : Program} {f : Nat → Value} {w : World} {d : Option Nat} {ty : TypeId} {ps : String} {af : Array Edge} {g : Option (Nat × Bool)} {x : Operand} {v0 : Value} (h : dO f x = .tuple #[v0]) :
  (execOp (dO f) ⟨d, .extract x 0, ty, ps, af, g⟩).run P w = .ok (.value v0) w := by simp [execOp, h, Instr.extract]
def iC (c : Cb) : Value := .agg #[.int .u8 (c.m : Int), .int .u8 (c.v : Int)]
def qC (r : Rw) : Value := .agg #[.int .u8 (r.c.m : Int), .int .u8 (r.c.v : Int), .int .u8 (r.o : Int)]
def eK (z : Int) : Value := .int .i64 z
theorem mn (a b : Cb) (h : iC a = iC b) : a = b := by
 obtain ⟨m, v⟩ := a
 obtain ⟨m', v'⟩ := b
 simp only [iC, Value.agg.injEq, Array.mk.injEq, List.cons.injEq, Value.int.injEq, true_and, and_true] at h
 obtain ⟨h1, h2⟩ := h
 simp only [Cb.mk.injEq]
 omega
theorem sB (a b : Rw) (h : qC a = qC b) : a = b := by
 obtain ⟨⟨m, v⟩, o⟩ := a
 obtain ⟨⟨m', v'⟩, o'⟩ := b
 simp only [qC, Value.agg.injEq, Array.mk.injEq, List.cons.injEq, Value.int.injEq, true_and, and_true] at h
 obtain ⟨h1, h2, h3⟩ := h
 simp only [Rw.mk.injEq, Cb.mk.injEq]
 omega
theorem fS (a b : Int) (h : eK a = eK b) : a = b := by
 simpa [eK] using h
theorem sV {P : Program} {w : World} {s : Sem Bool} {r : Bool} (h : ((s.run P w).andThen (fun b w' => Result.ok (Value.bool b) w')).andThen (fun a w' => Result.ok (Next.value a) w') = .ok (.value (.bool r)) w) : s.run P w = .ok r w := by
 cases hr : s.run P w <;> rw [hr] at h <;> simp [Result.andThen] at h
 obtain ⟨rfl, rfl⟩ := h
 rfl
theorem ql {P : Program} {w : World} {t : TypeId} {A B : Array Value} {r : Bool} (hg : P.eqGuardType P.depth t = false)
  (h : (execOp (dO fun _ => undef) ⟨none, .binOp .eql t (.const (.agg A)) (.const (.agg B)) 0, 0, "", #[], none⟩).run P w = .ok (.value (.bool r)) w) : (Op.equal t (.agg A) (.agg B)).run P w = .ok r w := by
 have e : ∀ v : Value, dO (fun _ => undef) (.const v) = v := fun _ => rfl
 simp only [execOp, e, Sem.run_bind, run_eqGuard_agg _ _ _ _ _ _ _ hg, Result.andThen_ok, run_eql_struct] at h
 refine sV (P := P) (w := w) (s := Op.equal t (.agg A) (.agg B)) (r := r) ?_
 simpa [Op.equal, Op.maxDepth] using h
end
section
open Go Go.RowKit
def fV (sz : Nat) (v : Value) (l h m : Nat) : Value := .slice (if m = l then zI v else (zI v).map (·.add (l * sz))) (h - l) (m - l)
section
variable {P : Program} {f : Nat → Value} {w : World} {d : Option Nat} {ty : TypeId} {ps : String} {af : Array Edge} {g : Option (Nat × Bool)} {x y : Operand}
variable {t : TypeId} {v u : Value} {T e : TypeId} {K : Value → World → Prop} {n sz by_ N l h m : Nat} {xs ys : List Value}
theorem Sl.eqv (k : Sl w sz v n xs) : v = .slice (zI v) n (iU v) ∧ n ≤ iU v ∧ (zI v = none → iU v = 0) ∧ ∀ a', zI v = some a' → 0 < iU v → a' = ⟨sP v, A8 v, none⟩ := by
 obtain ⟨a, hv, h1, h2, h3⟩ := k.form
 generalize hc : iU v = c at *
 subst hv
 exact ⟨rfl, h1, h2, h3⟩
theorem Sl.part (k : Sl w sz v n xs) (h1 : l ≤ h) (h2 : h ≤ n) (h3 : h ≤ m) (h4 : m ≤ iU v) : Sl w sz (fV sz v l h m) (h - l) ((xs.drop (l * sz)).take ((h - l) * sz)) := by
 obtain ⟨hv, hn, h0, ha⟩ := k.eqv
 have hC : iU (fV sz v l h m) = m - l := rfl
 have hle : h * sz ≤ n * sz := Nat.mul_le_mul_right _ h2
 have hle2 : l * sz ≤ h * sz := Nat.mul_le_mul_right _ h1
 have hsub : (h - l) * sz = h * sz - l * sz := Nat.sub_mul _ _ _
 have hlen := k.len
 refine ⟨⟨_, rfl, by rw [hC]; omega, fun hnone => ?_, fun a' ha' hpos => ?_⟩, ?_, ?_⟩
 ·rw [hC]
  by_cases e : m = l
  ·omega
  ·rw [if_neg e, Option.map_eq_none_iff] at hnone
   have := h0 hnone
   omega
 ·have hB : ∀ a'', (if m = l then zI v else (zI v).map (·.add (l * sz))) = some a'' → sP (fV sz v l h m) = a''.block ∧ A8 (fV sz v l h m) = a''.off := fun a'' h => by
   unfold fV
   rw [h]
   exact ⟨rfl, rfl⟩
  obtain ⟨e1, e2⟩ := hB a' ha'
  rw [e1, e2]
  rw [hC] at hpos
  split at ha'
  ·rw [ha a' ha' (by omega)]
  ·obtain ⟨a0, h5, rfl⟩ := Option.map_eq_some_iff.1 ha'
   rw [ha a0 h5 (by omega), gR]
 ·rw [List.length_take, List.length_drop, hlen]
  omega
 ·intro j u hu
  rw [List.getElem?_take] at hu
  split at hu
  ·rename_i hj
   rw [List.getElem?_drop] at hu
   have hc := k.cell _ u hu
   have hne : ¬ m = l := by
    intro e
    have : h - l = 0 := by omega
    rw [this, Nat.zero_mul] at hj
    omega
   have hn0 : zI v ≠ none := fun e => by
    have := h0 e
    have h9 : h - l = 0 := by omega
    rw [h9, Nat.zero_mul] at hj
    omega
   obtain ⟨a0, ha0⟩ := Option.ne_none_iff_exists'.1 hn0
   have hs : fV sz v l h m = .slice (some (a0.add (l * sz))) (h - l) (m - l) := by unfold fV; rw [if_neg hne, ha0]; rfl
   rw [hs]
   have hpos : 0 < iU v := Nat.pos_of_ne_zero fun e => by
    have h9 : h - l = 0 := by omega
    rw [h9, Nat.zero_mul] at hj
    omega
   rw [ha a0 ha0 hpos, gR]
   show w.cell? ⟨sP v, A8 v + l * sz + j, none⟩ = some u
   rw [Nat.add_assoc]
   exact hc
  ·cases hu
theorem qh {α : Type} {enc : α → List Value} (he : ∀ a, (enc a).length = sz) : ∀ (L : List α) (q : Nat), (L.drop q).flatMap enc = (L.flatMap enc).drop (q * sz)
 | [], q => by simp
 | a :: L, 0 => by simp
 | a :: L, q + 1 => by
  rw [List.drop_succ_cons, qh he L q, List.flatMap_cons, show (q + 1) * sz = (enc a).length + q * sz from by rw [he, Nat.add_mul]; omega, List.drop_length_add_append]
theorem qo {α : Type} {enc : α → List Value} (he : ∀ a, (enc a).length = sz) : ∀ (L : List α) (q : Nat), (L.take q).flatMap enc = (L.flatMap enc).take (q * sz)
 | [], q => by simp
 | a :: L, 0 => by simp
 | a :: L, q + 1 => by
  rw [List.take_succ_cons, List.flatMap_cons, qo he L q, List.flatMap_cons, show (q + 1) * sz = (enc a).length + q * sz from by rw [he, Nat.add_mul]; omega, List.take_length_add_append]
theorem dM.part {α : Type} {enc : α → List Value} {L : List α} (he : ∀ a, (enc a).length = sz) (k : dM enc sz w v L) (h1 : l ≤ h) (h2 : h ≤ L.length) (h3 : h ≤ m) (h4 : m ≤ iU v) : dM enc sz w (fV sz v l h m) ((L.drop l).take (h - l)) := by
 have hp := Sl.part k h1 h2 h3 h4
 unfold dM
 rw [qo he, qh he, List.length_take, List.length_drop, Nat.min_eq_left (by omega)]
 exact hp
theorem l8 {j k : Int} {kj kk : IntKind} {xj xk : Operand} (hx : dO f x = v) (hs : Sl w sz v n xs) (hT : fO P t = some (e, sz, by_)) (hj : dO f xj = .int kj j) (hk : dO f xk = .int kk k)
  (h1 : 0 ≤ j) (h2 : j ≤ k) (h3 : k ≤ iU v) :
  (execOp (dO f) ⟨d, .slice t x none (some xj) (some xk), ty, ps, af, g⟩).run P w = .ok (.value (fV sz v 0 j.toNat k.toNat)) w := by
 obtain ⟨hv, hn, _, _⟩ := hs.eqv
 unfold fO at hT
 cases hu : P.underlying t with
 | none => simp [hu] at hT
 | some desc =>
  cases desc <;> simp [hu] at hT
  obtain ⟨i', hi', rfl, rfl, rfl⟩ := hT
  unfold fV
  rw [hv] at hx
  generalize zI v = A at *
  generalize iU v = C at *
  have hC : k ≤ (C : Int) := h3
  simp [execOp, hx, hj, hk, Instr.sliceAt, Instr.slice, run_underlying hu, Instr.sliceBounds, Instr.sliceBound, asIntOf, sizeOf, typeInfo, hi', show 0 ≤ k from by omega, h1, hC, show j ≤ max k 0 from by omega]
theorem l9 {i : Int} {ki : IntKind} {xi : Operand} (hx : dO f x = v) (hs : Sl w sz v n xs) (hT : fO P t = some (e, sz, by_)) (hi : dO f xi = .int ki i) (h0 : 0 ≤ i) (h1 : i ≤ n) :
  (execOp (dO f) ⟨d, .slice t x (some xi) none none, ty, ps, af, g⟩).run P w = .ok (.value (fV sz v i.toNat n (iU v))) w := by
 obtain ⟨hv, hn, _, _⟩ := hs.eqv
 unfold fO at hT
 cases hu : P.underlying t with
 | none => simp [hu] at hT
 | some desc =>
  cases desc <;> simp [hu] at hT
  obtain ⟨i', hi', rfl, rfl, rfl⟩ := hT
  unfold fV
  rw [hv] at hx
  generalize zI v = A at *
  generalize iU v = C at *
  simp [execOp, hx, hi, Instr.sliceAt, Instr.slice, run_underlying hu, Instr.sliceBounds, Instr.sliceBound, asIntOf, sizeOf, typeInfo, hi', h0, h1]
theorem FM {j : Int} {kj : IntKind} {xj : Operand} (hx : dO f x = v) (hs : Sl w sz v n xs) (hT : fO P t = some (e, sz, by_)) (hj : dO f xj = .int kj j) (h0 : 0 ≤ j) (h1 : j ≤ iU v) :
  (execOp (dO f) ⟨d, .slice t x none (some xj) none, ty, ps, af, g⟩).run P w = .ok (.value (fV sz v 0 j.toNat (iU v))) w := by
 obtain ⟨hv, hn, _, _⟩ := hs.eqv
 unfold fO at hT
 cases hu : P.underlying t with
 | none => simp [hu] at hT
 | some desc =>
  cases desc <;> simp [hu] at hT
  obtain ⟨i', hi', rfl, rfl, rfl⟩ := hT
  unfold fV
  rw [hv] at hx
  generalize zI v = A at *
  generalize iU v = C at *
  have hC : j ≤ (C : Int) := h1
  simp [execOp, hx, hj, Instr.sliceAt, Instr.slice, run_underlying hu, Instr.sliceBounds, Instr.sliceBound, asIntOf, sizeOf, typeInfo, hi', h0, hC]
theorem js {v2 : Value} (hx : dO f x = v) (hy : dO f y = v2) (hT : fO P t = some (e, sz, by_)) (hz : (eL P e).map (fun z => z.cells.size) = some sz)
  (hs : Sl w sz v n xs) (hfull : iU v = n) (hs2 : Sl w sz v2 m ys) (hm0 : 0 < m) (hN : N ≤ w.heap.size) (hb : (n + m) * by_ ≤ 140737488355328) (hm : n + m ≤ 9223372036854775807)
  (hK : ∀ v' w', eo w w' → w'.ownsRow N e sz v' (n + m) (xs ++ ys) → K v' w') : Yd P ⟨d, .call ⟨.builtin .append, #[x, y], #[t, t]⟩, ty, ps, af, g⟩ f w K := by
 obtain ⟨z, hz, hzs⟩ := Option.map_eq_some_iff.1 hz
 unfold eL at hz
 obtain ⟨i, hi, hzz⟩ := Option.bind_eq_some_iff.1 hz
 unfold fO at hT
 cases hun : P.underlying t with
 | none => simp [hun] at hT
 | some desc =>
  cases desc <;> simp [hun] at hT
  rename_i e'
  obtain ⟨i', hi', rfl, rfl, rfl⟩ := hT
  obtain rfl : i' = i := by rw [hi] at hi'; exact (Option.some.inj hi').symm
  have hv2 := hs2.eqn hm0
  have hcell2 := hs2.cell
  generalize sP v2 = B2 at *
  generalize A8 v2 = O2 at *
  generalize iU v2 = C2 at *
  subst hv2
  have h63 : n + m ≤ maxLen := by simpa [maxLen] using hm
  have grown : ∀ (old : Nat), old < n + m →
    (w.drew.alloc (.cells (xs.toArray ++ ys.toArray ++ Builtin.zeroCells z.cells (grownCap w (n + m) old e' - (n + m))) e')).ownsRow N e' i'.size
     (.slice (some ⟨w.heap.size, 0, none⟩) (n + m) (grownCap w (n + m) old e')) (n + m) (xs ++ ys) ∧
    eo w (w.drew.alloc (.cells (xs.toArray ++ ys.toArray ++ Builtin.zeroCells z.cells (grownCap w (n + m) old e' - (n + m))) e')) := by
   intro old ho
   have hlen : (xs ++ ys).length = (n + m) * i'.size := by rw [List.length_append, hs.len, hs2.len, Nat.add_mul]
   have hge := grownCap_ge w (n + m) old e'
   have hcm : grownCap w (n + m) old e' ≤ maxLen := grownCap_le_maxLen w (n + m) old e' h63
   refine ⟨⟨hlen, .inr ⟨w.heap.size, _, _, rfl, hN, heap_alloc_new w.drew _, hge, hcm, ?_, ?_⟩⟩, ⟨rfl, rfl, rfl, by simp, fun k hk => heap_alloc_old w.drew _ hk⟩⟩
   ·simp only [Array.size_append, List.size_toArray, size_zeroCells, hzs, hs.len, hs2.len, ← Nat.add_mul]
    congr 1
    omega
   ·simp only [Array.toList_append, List.append_assoc]
    rw [← List.append_assoc, ← hlen]
    exact List.take_left
  have hn2 : ∀ j u, ys[j]? = some u → w.cell? ((⟨B2, O2, none⟩ : Addr).add j) = some u := fun j u hu => by rw [gR]; exact hcell2 j u hu
  obtain ⟨hv, hn, h0, ha⟩ := hs.eqv
  cases hA : zI v with
  | none =>
   have h9 := h0 hA
   rw [hfull] at h9
   subst h9
   have hxs : xs = [] := List.eq_nil_of_length_eq_zero (by simpa using hs.len)
   subst hxs
   have hr := run_append_nil (P := P) w t ty e' i' z hun hi hzz ⟨B2, O2, none⟩ m C2 ys hs2.len hn2 hm0 (by omega) (by rw [Nat.zero_add] at hb; omega)
   have hg := grown 0 (by omega)
   simp only [Nat.zero_add, List.nil_append, Array.empty_append] at hg
   rw [hA, hfull] at hv
   refine .val ?_ (hK _ _ hg.2 (by simpa using hg.1))
   simp [execOp, resolve, invoke, builtin, hx, hy, hv, hr]
  | some a0 =>
   rw [hA, hfull] at hv
   have hr := run_append_grow (P := P) w t ty e' i' z hun hi hzz a0 n n xs hs.len (fun j u hu => by
    have hpos : 0 < iU v := Nat.pos_of_ne_zero fun e => by
     have h0 : n = 0 := hfull.symm.trans e
     have hx0 : xs = [] := List.eq_nil_of_length_eq_zero (by rw [hs.len, h0, Nat.zero_mul])
     rw [hx0] at hu
     cases hu
    rw [ha a0 hA hpos, gR]; exact hs.cell j u hu) ⟨B2, O2, none⟩ m C2 ys hs2.len hn2 (by omega) (by omega) (growslice_fits (by omega) hb)
   have hg := grown n (by omega)
   refine .val ?_ (hK _ _ hg.2 hg.1)
   rw [hv] at hx
   simp [execOp, resolve, invoke, builtin, hx, hy, hr]
theorem ix {α : Type} {enc : α → List Value} {b : Nat} {c : Array Value} {a : α} (k : At w b c T) (hc : c.toList = enc a) (hs : c.size = sz) (hN : N ≤ b) : dh enc sz T w N (.slice (some ⟨b, 0, none⟩) 1 1) [a] :=
 ⟨by simp [← hc, hs], .inr ⟨b, 1, c, rfl, hN, k, Nat.le_refl _, by decide, by rw [hs, Nat.one_mul], by
  show c.toList.take (1 * sz) = _
  rw [Nat.one_mul, ← hs, ← Array.length_toList, List.take_length, hc]; simp⟩⟩
end
section
variable {α β : Type} {enc : α → Value} {encV : β → Value} {w w' : World} {b it : Nat} {l : List (α × β)} {seen : List α}
variable {α' β' : Type} {enc' : α' → Value} {encV' : β' → Value} {b' it' : Nat} {l' : List (α' × β')} {seen' : List α'}
variable {γ : Type} {encE : γ → List Value} {sz N : Nat} {T : TypeId} {v : Value} {L : List γ} {a : Nat} {c : Array Value}
theorem At.grownMap (h : At w a c T) (k : dR enc encV w b l) (hG : w.grownBy w' (some b)) : At w' a c T := h.grown hG (fun e => At.ne_map h k (Option.some.inj e))
theorem At.grownMapP [DecidableEq α] {k : α} {st : Nat} (h : At w a c T) (m : GJ enc encV w b l k st) (hG : w.grownBy w' (some b)) : At w' a c T := by
 obtain ⟨l2, f, cl, _, _, h1, _⟩ := m.out
 exact h.grownMap ⟨f, cl, h1⟩ hG
theorem At.grownIter (h : At w a c T) (k : eJ enc encV w it b l seen) (hG : w.grownBy w' (some it)) : At w' a c T := h.grown hG (fun e => At.ne_iter h k (Option.some.inj e))
theorem dh.grownMap (h : dh encE sz T w N v L) (k : dR enc encV w b l) (hG : w.grownBy w' (some b)) : dh encE sz T w' N v L := World.ownsRow.kept h hG (.inr (fun e => rk h k e.symm))
theorem dh.grownMapP [DecidableEq α] {k : α} {st : Nat} (h : dh encE sz T w N v L) (m : GJ enc encV w b l k st) (hG : w.grownBy w' (some b)) : dh encE sz T w' N v L := by
 obtain ⟨l2, f, cl, _, _, h1, _⟩ := m.out
 exact h.grownMap ⟨f, cl, h1⟩ hG
theorem dh.grownIter (h : dh encE sz T w N v L) (k : eJ enc encV w it b l seen) (hG : w.grownBy w' (some it)) : dh encE sz T w' N v L := World.ownsRow.kept h hG (.inr (fun e => tU h k e.symm))
theorem dR.grownAt (k : dR enc encV w b l) (h : At w a c T) (hG : w.grownBy w' (some a)) : dR enc encV w' b l := k.grown hG (fun e => At.ne_map h k (Option.some.inj e).symm)
theorem dR.grownOw (k : dR enc encV w b l) (h : dh encE sz T w N v L) (hG : w.grownBy w' v.ownBlock) : dR enc encV w' b l := k.grown hG (rk h k)
theorem dR.grownNe (k : dR enc encV w b l) (hne : b ≠ b') (hG : w.grownBy w' (some b')) : dR enc encV w' b l := k.grown hG (fun e => hne (Option.some.inj e))
theorem dR.grownIter (k : dR enc encV w b l) (h : eJ enc' encV' w it' b' l' seen') (hG : w.grownBy w' (some it')) : dR enc encV w' b l := k.grown hG (fun e => eJ.ne_map h k (Option.some.inj e).symm)
theorem eJ.grownAt (k : eJ enc encV w it b l seen) (h : At w a c T) (hG : w.grownBy w' (some a)) : eJ enc encV w' it b l seen :=
 k.grown hG (fun e => At.ne_map h k.map (Option.some.inj e).symm) (fun e => At.ne_iter h k (Option.some.inj e).symm)
theorem eJ.grownOw (k : eJ enc encV w it b l seen) (h : dh encE sz T w N v L) (hG : w.grownBy w' v.ownBlock) : eJ enc encV w' it b l seen := k.grown hG (rk h k.map) (tU h k)
theorem eJ.grownMap (k : eJ enc encV w it b l seen) (h : dR enc' encV' w b' l') (hne : b ≠ b') (hG : w.grownBy w' (some b')) : eJ enc encV w' it b l seen :=
 k.grown hG (fun e => hne (Option.some.inj e)) (fun e => eJ.ne_map k h (Option.some.inj e))
theorem eJ.grownMapP [DecidableEq α'] {kk : α'} {st : Nat} (k : eJ enc encV w it b l seen) (h : GJ enc' encV' w b' l' kk st) (hne : b ≠ b') (hG : w.grownBy w' (some b')) : eJ enc encV w' it b l seen := by
 obtain ⟨l2, f, cl, _, _, h1, _⟩ := h.out
 exact k.grownMap ⟨f, cl, h1⟩ hne hG
end
end
section
open Go Go.RowKit
section
variable {P : Program} {f : Nat → Value} {w w' : World} {d : Option Nat} {ty : TypeId} {ps : String} {af : Array Edge} {g : Option (Nat × Bool)} {x y : Operand}
variable {t : TypeId} {b o : Nat} {v u : Value} {c nw : Array Value} {T e : TypeId} {K : Value → World → Prop} {n sz by_ N k : Nat} {xs ys : List Value}
theorem vP (hx : dO f x = .pointer (some ⟨b, o, none⟩)) (hy : dO f y = .agg nw) (hT : kY P t = some k) (hk : k = nw.size) (hm : At w b c T) (hs0 : o + k ≤ c.size) (hv0 : nw.toList.all Value.oneCell' = true)
  (hK : ∀ w', w.grownBy w' (some b) → At w' b (c.toList.take o ++ nw.toList ++ c.toList.drop (o + nw.toList.length)).toArray T → K undef w') : Yd P ⟨d, .store t x y, ty, ps, af, g⟩ f w K := by
 subst hk
 have h2 := congrFun (kV hT).2 w
 have hst := run_storeCells_at P b o T nw.toList 0 c w hm (by simp; omega) (fun v h => List.all_eq_true.1 hv0 v h)
 rw [Nat.add_zero] at hst
 refine .skip (w' := w.setRow b (c.toList.take o ++ nw.toList ++ c.toList.drop (o + nw.toList.length)).toArray) ?_ (hK _ ⟨rfl, rfl, rfl, by simp, fun j _ hj => setRow_other w b j _ (fun e => hj (by rw [e]))⟩ (setRow_heap w b c _ T (0, 0) hm))
 simp [execOp, hx, hy, Instr.storeAt, Instr.sureAddr, storeVar, h2, Value.cells, hst]
theorem oK {K : (Nat → Value) → World → Prop} {Q : Exit → (Nat → Value) → World → Prop} {F : Nat → Value} {W : World} {id : Nat} (h : Q (.exit id) F W) : wI K Q (.exit id) F W := h
theorem nc {Q : Exit → (Nat → Value) → World → Prop} {F : Nat → Value} {W : World} {id : Nat} (h : Q .normal F W) : re id Q (.exit id) F W := by
 simp only [re, if_true]; exact h
theorem CU (off : Nat) (l : List Value) : ∀ (k : Nat) (cs : Array Value), off + k + l.length ≤ cs.size →
  (l.zipIdx k).foldl (fun cs (p : Value × Nat) => cs.setIfInBounds (off + p.2) p.1) cs = (cs.toList.take (off + k) ++ l ++ cs.toList.drop (off + k + l.length)).toArray := by
 induction l with
 | nil => intro k cs _; simp
 | cons u r ih =>
  intro k cs h
  simp only [List.length_cons] at h
  rw [List.zipIdx_cons, List.foldl_cons, ih (k + 1) _ (by simp; omega)]
  have := list_seg_step cs.toList (off + k) u r (by simpa using h)
  simp only [Array.toList_setIfInBounds]
  rw [show off + (k + 1) = off + k + 1 from rfl, this]
  rfl
theorem nP (sz i : Nat) (u : Value) (rest : List (Nat × Value)) (cs : Array Value) (hu : u.cells.size = sz) (hc : i * sz + sz ≤ cs.size) :
  Instr.fill (fun i => some (i * sz, sz)) cs ((i, u) :: rest) = Instr.fill (fun i => some (i * sz, sz)) (cs.toList.take (i * sz) ++ u.cells.toList ++ cs.toList.drop (i * sz + sz)).toArray rest := by
 have h := CU (i * sz) u.cells.toList 0 cs (by simp [hu]; omega)
 have hn : ¬ cs.size < i * sz + sz := by omega
 simp only [Instr.fill, hu, ne_eq, not_true_eq_false, decide_false, gt_iff_lt, hn, Bool.or_self, Bool.false_eq_true, if_false]
 rw [← Array.foldl_toList, Array.toList_zipIdx, h]
 simp [hu]
theorem HT (u0 u1 : Value) (z : Array Value) (sz : Nat) (hu0 : u0.cells.size = sz) (hu1 : u1.cells.size = sz) (hz : z.size = 2 * sz) : Instr.fill (fun i => some (i * sz, sz)) z [(0, u0), (1, u1)] = some (u0.cells ++ u1.cells) := by
 rw [nP sz 0 u0 _ z hu0 (by omega), nP sz 1 u1 _ _ hu1 (by simp [hu0]; omega), Instr.fill]
 congr 1
 apply Array.ext'
 simp only [Nat.zero_mul, List.take_zero, List.nil_append, Nat.zero_add, Nat.one_mul, List.toList_toArray, Array.toList_append]
 have h0 : u0.cells.toList.length = sz := by simp [hu0]
 rw [List.take_append_of_le_length (by omega), List.take_of_length_le (by omega), List.drop_eq_nil_of_le (by simp [hu0, hz]; omega), List.append_nil]
theorem Cx {x0 x1 : Operand} {u0 u1 : Value} (hx0 : dO f x0 = u0) (hx1 : dO f x1 = u1) (hT : fO P t = some (e, sz, by_)) (hz : (eL P e).map (fun z => z.cells.size) = some sz) (hu0 : u0.cells.size = sz) (hu1 : u1.cells.size = sz) (hsz : 0 < sz) (hsz2 : sz ≤ 100)
  (hK : ∀ b w', b = w.heap.size → eo w w' → At w' b (u0.cells ++ u1.cells) e → K (.slice (some ⟨b, 0, none⟩) 2 2) w') : Yd P ⟨d, .buildSlice t 2 #[(0, x0), (1, x1)], ty, ps, af, g⟩ f w K := by
 obtain ⟨z, hz, hzs⟩ := Option.map_eq_some_iff.1 hz
 unfold eL at hz
 obtain ⟨i, hi, hzz⟩ := Option.bind_eq_some_iff.1 hz
 unfold fO at hT
 cases hun : P.underlying t with
 | none => simp [hun] at hT
 | some desc =>
  cases desc <;> simp [hun] at hT
  rename_i e'
  obtain ⟨i', hi', rfl, h1, rfl⟩ := hT
  obtain rfl : i' = i := by rw [hi] at hi'; exact (Option.some.inj hi').symm
  refine .val (w' := w.alloc (.cells (u0.cells ++ u1.cells) e')) ?_ (hK w.heap.size _ rfl (eo.alloc w _) (nL w _ _))
  have hbig : ¬ 16777216 < 2 * sz := by omega
  have hne : ¬ sz = 0 := by omega
  have hf := HT u0 u1 ((Array.range (2 * sz)).map (z.cells[· % z.cells.size]!)) sz hu0 hu1 (by simp)
  simp [execOp, hx0, hx1, Instr.buildSlice, run_underlying hun, sizeOf, typeInfo, hi, h1, zeroValue, hzz, hne, hbig, newRow, hf]
  intro h
  omega
theorem wz {α : Type} {enc : α → List Value} {b : Nat} {u0 u1 : Value} {a0 a1 : α} (k : At w b (u0.cells ++ u1.cells) T) (h0 : u0.cells.toList = enc a0) (h1 : u1.cells.toList = enc a1) (hs0 : u0.cells.size = sz) (hs1 : u1.cells.size = sz) (hN : N ≤ b) : dh enc sz T w N (.slice (some ⟨b, 0, none⟩) 2 2) [a0, a1] :=
 ⟨by simp [← h0, ← h1, hs0, hs1]; omega, .inr ⟨b, 2, _, rfl, hN, k, Nat.le_refl _, by decide, by simp [hs0, hs1]; omega, by
  rw [List.take_of_length_le (by simp [hs0, hs1]; omega)]
  simp [h0, h1]⟩⟩
theorem zg (hT : fO P t = some (e, sz, by_))
  (hK : ∀ b w', b = w.heap.size → eo w w' → At w' b #[] e → K (.slice (some ⟨b, 0, none⟩) 0 0) w') : Yd P ⟨d, .buildSlice t 0 #[], ty, ps, af, g⟩ f w K := by
 unfold fO at hT
 cases hun : P.underlying t with
 | none => simp [hun] at hT
 | some desc =>
  cases desc <;> simp [hun] at hT
  rename_i e'
  obtain ⟨i', hi', rfl, h1, rfl⟩ := hT
  refine .val (w' := w.alloc (.cells #[] e')) ?_ (hK w.heap.size _ rfl (eo.alloc w _) (nL w _ _))
  simp [execOp, Instr.buildSlice, run_underlying hun, sizeOf, typeInfo, hi', newRow, Instr.fill]
  have e0 : Array.range 0 = #[] := by simp [Array.range]
  rw [e0, List.map_toArray]
  rfl
theorem sy {α : Type} {enc : α → List Value} {b : Nat} (k : At w b #[] T) (hN : N ≤ b) : dh enc sz T w N (.slice (some ⟨b, 0, none⟩) 0 0) ([] : List α) :=
 ⟨by simp, .inr ⟨b, 0, _, rfl, hN, k, Nat.le_refl _, Nat.zero_le _, by simp, by simp⟩⟩
def eO (v v' : Value) : Prop := ∀ b, v.ownBlock = some b → v'.ownBlock = some b → False
theorem eO.symm {v v' : Value} (h : eO v v') : eO v' v := fun b h1 h2 => h b h2 h1
theorem eO.nilL {v : Value} : eO (.slice none 0 0) v := fun b h => by cases h
theorem eO.kept {v v' : Value} (h : eO v v') : v'.ownBlock = none ∨ v'.ownBlock ≠ v.ownBlock := by
 cases hv : v'.ownBlock with
 | none => exact .inl rfl
 | some b => exact .inr fun e => h b e.symm hv
theorem eO.app {α : Type} {enc : α → List Value} {v v1 v2 : Value} {l : List α} (h : eO v v2) (hob : v1.ownBlock = v.ownBlock ∨ v1.ownBlock = some w.heap.size) (k : dh enc sz T w N v2 l) : eO v1 v2 := fun b h1 h2 => by
 rcases hob with e | e
 ·exact h b (e ▸ h1) h2
 ·rw [e] at h1
  cases h1
  have := (World.ownsRow.lt k _ h2).2
  omega
section
variable {α β : Type} {enc : α → List Value} {rV : β → List Value} {l : List α} {l' : List β} {v' : Value} {N' sz' : Nat} {T' : TypeId}
theorem dh.lt2 (k : dh enc sz T w N v l) : ∀ j, v.ownBlock = some j → j < w.heap.size := fun j hj => (World.ownsRow.lt k j hj).2
theorem eO.new {M : Nat} (h : ∀ j, v.ownBlock = some j → j < M) (k : dh enc sz T w M v' l) : eO v v' := fun b h1 h2 => by
 have h3 := (World.ownsRow.lt k b h2).1
 have h4 := h b h1
 omega
theorem dh.grownAp (k : dh enc sz T w N v l) (h : eO v' v) (hG : w.grownBy w' v'.ownBlock) : dh enc sz T w' N v l := World.ownsRow.kept k hG h.kept
def Mx {α : Type} (v : Value) (l : List α) (b : Nat) : Prop := l = [] ∨ sP v ≠ b
theorem dM.far {b : Nat} (k : dM enc sz w v l) (hb : w.heap.size ≤ b) (hsz : 0 < sz := by decide) (he : ∀ a, (enc a).length = sz := by intro a; rfl) : Mx v l b := by
 cases l with
 | nil => exact .inl rfl
 | cons a r =>
  right
  have h0 : ∃ u, ((a :: r).flatMap enc)[0]? = some u := by
   rw [List.flatMap_cons]
   have := he a
   cases hc : enc a with
   | nil => rw [hc] at this; simp at this; omega
   | cons u q => exact ⟨u, rfl⟩
  obtain ⟨u, hu⟩ := h0
  have hc := Sl.cell k 0 u hu
  have := World.block_lt_of_cell? w _ hc
  have h2 : sP v < w.heap.size := this
  omega
theorem dM.grownFar {b : Nat} (k : dM enc sz w v l) (h : Mx v l b) (hG : w.grownBy w' (some b)) : dM enc sz w' v l := by
 refine ⟨k.form, k.len, fun j u hu => ?_⟩
 rcases h with rfl | h
 ·simp at hu
 ·have hc := Sl.cell k j u hu
  have hlt := World.block_lt_of_cell? w _ hc
  have e := hG.block (sP v) hlt (fun e => h (Option.some.inj e))
  rw [← hc]
  unfold World.cell?
  simp only [e]
theorem dM.one (k : dM enc sz w v l) : v.oneCell' = true := by
 obtain ⟨a, h, _⟩ := k.form
 rw [h]; rfl
theorem dh.one (k : dh enc sz T w N v l) : v.oneCell' = true := k.sl.one
theorem dM.cells (k : dM enc sz w v l) : v.cells = #[v] := by
 obtain ⟨a, h, _⟩ := k.form
 rw [h]; rfl
end
theorem jr {m : Nat} {v2 : Value} (hx : dO f x = v) (hy : dO f y = v2) (hT : fO P t = some (e, sz, by_)) (hz : (eL P e).map (fun z => z.cells.size) = some sz) (hsz : 0 < sz)
  (ho : w.ownsRow N e sz v n xs) (hs : Sl w sz v2 m ys) (h10 : ys.all Value.oneCell' = true) (hN : N ≤ w.heap.size) (hb : (n + m) * by_ ≤ 140737488355328) (hm : n + m ≤ 9223372036854775807)
  (hK : ∀ v' w', w.grownBy w' v.ownBlock → w'.ownsRow N e sz v' (n + m) (xs ++ ys) → (v'.ownBlock = v.ownBlock ∨ v'.ownBlock = some w.heap.size) → K v' w') : Yd P ⟨d, .call ⟨.builtin .append, #[x, y], #[t, t]⟩, ty, ps, af, g⟩ f w K := by
 have h1 : ∀ u ∈ ys, u.oneCell' = true := fun u h => List.all_eq_true.1 h10 u h
 obtain ⟨z, hz, hzs⟩ := Option.map_eq_some_iff.1 hz
 unfold eL at hz
 obtain ⟨i, hi, hzz⟩ := Option.bind_eq_some_iff.1 hz
 unfold fO at hT
 cases hun : P.underlying t with
 | none => simp [hun] at hT
 | some desc =>
  cases desc <;> simp [hun] at hT
  rename_i e'
  obtain ⟨i', hi', rfl, h3, rfl⟩ := hT
  obtain rfl : i' = i := by rw [hi] at hi'; exact (Option.some.inj hi').symm
  by_cases hm0 : m = 0
  ·subst hm0
   have hys : ys = [] := List.eq_nil_of_length_eq_zero (by simpa using hs.len)
   subst hys
   have hrun : (Builtin.append_ #[t, t] ty #[v, v2]).run P w = .ok v w := by
    obtain ⟨a2, hv2, _⟩ := hs.form
    generalize iU v2 = c2 at hv2
    subst hv2
    rcases ho.2 with ⟨rfl, rfl⟩ | ⟨q, cap, cur, rfl, hg, hh, hnc, hcm, hcs, ht⟩
    ·simp [Builtin.append_, run_underlying hun, sizeOf, typeInfo, hi, Builtin.lenOf, Builtin.firstCells]
     cases a2 <;> simp [loadCells, loadCellsFrom]
    ·cases a2 <;> simp [Builtin.append_, run_underlying hun, sizeOf, typeInfo, hi, Builtin.lenOf, Builtin.firstCells, loadCells, loadCellsFrom, hnc, storeCells]
   refine .val (v := v) (w' := w) ?_ (hK v w (World.grownBy.refl w _) (by simpa using ho) (.inl rfl))
   simp [execOp, resolve, invoke, builtin, hx, hy, hrun]
  ·have hv2 := hs.eqn (by omega)
   have hcell := hs.cell
   generalize sP v2 = B at *
   generalize A8 v2 = O at *
   generalize iU v2 = C at *
   subst hv2
   obtain ⟨v', w', hr, h4, h5, _, h6⟩ := run_append_own_at (P := P) (w := w) N t ty e' i' z sz i'.bytes hun hi hzz h3 rfl hzs hsz v n xs ho ⟨B, O, none⟩ m C ys hs.len
    (fun j u hu => by rw [gR]; exact hcell j u hu) h1 (by simpa [maxLen] using hm) hb hN
   refine .val (v := v') (w' := w') ?_ (hK v' w' h5 h4 h6)
   simp [execOp, resolve, invoke, builtin, hx, hy, hr]
end
structure Gp (r1 r2 : Option Nat) (w w' : World) : Prop where
 os : w'.os = w.os
 tape : w'.tape = w.tape
 output : w'.output = w.output
 size : w.heap.size ≤ w'.heap.size
 block : ∀ k, k < w.heap.size → some k ≠ r1 → some k ≠ r2 → w'.heap[k]? = w.heap[k]?
section
variable {r1 r2 : Option Nat} {a w w' : World}
theorem Gp.refl : Gp r1 r2 w w := ⟨rfl, rfl, rfl, Nat.le_refl _, fun _ _ _ _ => rfl⟩
theorem Gp.ext (h : Gp r1 r2 a w) (k : eo w w') : Gp r1 r2 a w' :=
 ⟨(Below.os k).trans h.os, (Below.tape k).trans h.tape, (Below.output k).trans h.output, Nat.le_trans h.size (Below.size k), fun j hj q1 q2 => (Below.block k j (Nat.lt_of_lt_of_le hj h.size)).trans (h.block j hj q1 q2)⟩
theorem Gp.one (h : Gp r1 r2 a w) (k : w.grownBy w' r1) : Gp r1 r2 a w' :=
 ⟨k.os.trans h.os, k.tape.trans h.tape, k.output.trans h.output, Nat.le_trans h.size k.size, fun j hj q1 q2 => (k.block j (Nat.lt_of_lt_of_le hj h.size) q1).trans (h.block j hj q1 q2)⟩
theorem Gp.two (h : Gp r1 r2 a w) (k : w.grownBy w' r2) : Gp r1 r2 a w' :=
 ⟨k.os.trans h.os, k.tape.trans h.tape, k.output.trans h.output, Nat.le_trans h.size k.size, fun j hj q1 q2 => (k.block j (Nat.lt_of_lt_of_le hj h.size) q2).trans (h.block j hj q1 q2)⟩
end
end
section
open Go Go.RowKit
def uA (s : Nat) (n : Int) : Bool := decide (0 ≤ n) && (decide (n ≤ 8) && ep s (fj n.toNat))
theorem xf {s s' t t' : Nat} (h : ∀ p, p < 256 → s.testBit p = s'.testBit p) (h2 : ∀ p, p < 256 → t.testBit p = t'.testBit p) : ep s t = ep s' t' := by
 rw [Bool.eq_iff_iff, d6, d6]
 constructor
 ·intro k p hp hs; rw [← h2 p hp]; exact k p hp (by rw [h p hp]; exact hs)
 ·intro k p hp hs; rw [h2 p hp]; exact k p hp (by rw [← h p hp]; exact hs)
theorem tV {s : Nat} {n : Int} (h : n ≤ 8) : ep s (HV (lE (2 ^ n.toNat))) = ep s (fj n.toNat) :=
 xf (fun _ _ => rfl) (BU (fh h))
def o0 (m v s : Nat) (n : Int) : Bool := dY m v n && ep (qI m v n.toNat) s
theorem dW {m v : Nat} {n : Int} : dY m v n = true ↔ 0 ≤ n ∧ n ≤ 8 ∧ m < 2 ^ n.toNat ∧ v &&& m = v := by
 unfold dY
 simp only [Bool.and_eq_true, decide_eq_true_eq, ph]
theorem sS {m v s : Nat} {n : Int} (h : o0 m v s n = true) : dY m v n = true := (Bool.and_eq_true _ _ ▸ h : _ ∧ _).1
theorem O3 {m v s : Nat} {n : Int} (h : dY m v n = true) : ep (qI m v n.toNat) s = o0 m v s n := by
 rw [o0, h]; rfl
theorem P0 {m v s : Nat} {n : Int} (h : dY m v n = false) : false = o0 m v s n := by
 rw [o0, h]; rfl
theorem eN {m i : Nat} (hi : i < 8) (j : Nat) : (jx m (i : Int)).testBit j = (m.testBit j && decide (j ≠ i)) := by
 unfold jx
 rw [if_pos (by omega), eh, Int.toNat_natCast, Nat.testBit_two_pow]
 congr 1
 by_cases e : i = j
 ·subst e; simp
 ·have : ¬ j = i := fun h => e h.symm
  simp [e, this]
theorem uT (m : Nat) (i : Int) : jx m i ≤ m := by
 unfold jx
 split
 ·exact qx _ _
 ·exact Nat.le_refl _
theorem yp {m v i : Nat} (hi : i < 8) : (lQ m v).set (i : Int).toNat 2 = lQ (jx m (i : Int)) v := by
 rw [Int.toNat_natCast]
 refine qR _ _ (fun q hq hne => ?_) _ ?_
 ·unfold lit
  have h := eN (m := m) hi q
  rw [gY, gY, decide_eq_true (show q ≠ i from hne), Bool.and_true] at h
  have h1 : jx m (i : Int) / 2 ^ q % 2 < 2 := Nat.mod_lt _ (by decide)
  have h2 : m / 2 ^ q % 2 < 2 := Nat.mod_lt _ (by decide)
  have h3 : jx m (i : Int) / 2 ^ q % 2 = m / 2 ^ q % 2 := by
   rw [Bool.eq_iff_iff] at h
   simp only [decide_eq_true_eq] at h
   omega
  rw [h3]
 ·unfold lit
  have h := eN (m := m) hi i
  rw [gY, decide_eq_false (show ¬ i ≠ i by simp), Bool.and_false, decide_eq_false_iff_not] at h
  have h1 : jx m (i : Int) / 2 ^ i % 2 < 2 := Nat.mod_lt _ (by decide)
  rw [if_pos (by omega)]
abbrev NW (m v : Nat) (i : Int) : Value := .agg #[.int .u8 ((jx m i : Nat) : Int), .int .u8 ((v &&& jx m i : Nat) : Int)]
def ke (m v s : Nat) (n : Int) (i : Nat) : Bool := m.testBit i && o0 (jx m (i : Int)) (v &&& jx m (i : Int)) s n
def gK (m v s : Nat) (n : Int) : Bool := o0 m v s n && (List.range n.toNat).all fun i => !ke m v s n i
theorem fY {m v s : Nat} {n : Int} : gK m v s n = true ↔ o0 m v s n = true ∧ ∀ i, i < n.toNat → ke m v s n i = false := by
 unfold gK
 rw [Bool.and_eq_true, List.all_eq_true]
 simp only [List.mem_range, Bool.not_eq_true']
theorem k7 {m i : Nat} : (((m / 2 ^ i &&& 1 : Nat) : Int) = 1) ↔ m.testBit i = true := by
 rw [uF, gY, decide_eq_true_eq]
 omega
def eY (s : Nat) (n : Int) (c : Cb) : Nat → Cb
 | 0 => c
 | i + 1 =>
  let d := eY s n c i
  if o0 (jx d.m (i : Int)) (d.v &&& jx d.m (i : Int)) s n = true then ⟨jx d.m (i : Int), d.v &&& jx d.m (i : Int)⟩ else d
theorem wK {s i : Nat} {n : Int} {c : Cb} (h : o0 (jx (eY s n c i).m (i : Int)) ((eY s n c i).v &&& jx (eY s n c i).m (i : Int)) s n = true) :
  eY s n c (i + 1) = ⟨jx (eY s n c i).m (i : Int), (eY s n c i).v &&& jx (eY s n c i).m (i : Int)⟩ := by
 simp only [eY]; rw [if_pos h]
theorem u6 {s i : Nat} {n : Int} {c : Cb} (h : o0 (jx (eY s n c i).m (i : Int)) ((eY s n c i).v &&& jx (eY s n c i).m (i : Int)) s n = false) : eY s n c (i + 1) = eY s n c i := by
 simp only [eY]; rw [if_neg (by rw [h]; decide)]
theorem xW {s : Nat} {n : Int} {c : Cb} (h : c.m < 256 ∧ c.v < 256) : ∀ i, (eY s n c i).m < 256 ∧ (eY s n c i).v < 256
 | 0 => h
 | i + 1 => by
  have ih := xW (s := s) (n := n) h i
  simp only [eY]
  split
  ·exact ⟨Nat.lt_of_le_of_lt (uT _ _) ih.1, Nat.lt_of_le_of_lt Nat.and_le_left ih.2⟩
  ·exact ih
def jw (s : Nat) (n : Int) (c : Cb) : Cb := eY s n c n.toNat
def wu (a b : Cb) : Bool := decide (a.m < b.m) || decide (a.m = b.m) && decide (a.v < b.v)
def vG (c : Cb) : Nat := c.m * 256 + c.v
def jH (s : Nat) (n : Int) (m : Nat) : Nat → List Cb
 | 0 => []
 | k + 1 => if gK m k s n = true then jH s n m k ++ [⟨m, k⟩] else jH s n m k
def kZ (s : Nat) (n : Int) : Nat → List Cb
 | 0 => []
 | k + 1 => kZ s n k ++ jH s n k (2 ^ n.toNat)
def eH (s : Nat) (n : Int) : List Cb := kZ s n (2 ^ n.toNat)
theorem tS (s : Nat) (n : Int) (m : Nat) : ∀ k, (jH s n m k).length ≤ k
 | 0 => by simp [jH]
 | k + 1 => by
  have := tS s n m k
  simp only [jH]
  split <;> simp <;> omega
theorem tF (s : Nat) (n : Int) : ∀ k, (kZ s n k).length ≤ k * 2 ^ n.toNat
 | 0 => by simp [kZ]
 | k + 1 => by
  have := tF s n k
  have h2 := tS s n k (2 ^ n.toNat)
  simp only [kZ, List.length_append, Nat.add_mul, Nat.one_mul]
  omega
theorem mY {s m : Nat} {n : Int} {c : Cb} : ∀ k, c ∈ jH s n m k ↔ c.m = m ∧ c.v < k ∧ gK c.m c.v s n = true
 | 0 => by simp [jH]
 | k + 1 => by
  have ih := mY (s := s) (m := m) (n := n) (c := c) k
  obtain ⟨cm, cv⟩ := c
  simp only [jH]
  split
  ·rename_i h
   simp only [List.mem_append, List.mem_singleton, ih, Cb.mk.injEq]
   constructor
   ·rintro (⟨h1, h2, h3⟩ | ⟨rfl, rfl⟩)
    ·exact ⟨h1, Nat.lt_succ_of_lt h2, h3⟩
    ·exact ⟨rfl, Nat.lt_succ_self _, h⟩
   ·rintro ⟨h1, h2, h3⟩
    rcases Nat.lt_succ_iff_lt_or_eq.1 h2 with h2 | h2
    ·exact .inl ⟨h1, h2, h3⟩
    ·exact .inr ⟨h1, h2⟩
  ·rename_i h
   rw [ih]
   constructor
   ·rintro ⟨h1, h2, h3⟩; exact ⟨h1, Nat.lt_succ_of_lt h2, h3⟩
   ·rintro ⟨h1, h2, h3⟩
    refine ⟨h1, ?_, h3⟩
    rcases Nat.lt_succ_iff_lt_or_eq.1 h2 with h2 | h2
    ·exact h2
    ·subst h1; subst h2; exact absurd h3 h
theorem qc {s : Nat} {n : Int} {c : Cb} : ∀ k, c ∈ kZ s n k ↔ c.m < k ∧ c.v < 2 ^ n.toNat ∧ gK c.m c.v s n = true
 | 0 => by simp [kZ]
 | k + 1 => by
  simp only [kZ, List.mem_append, qc k, mY]
  constructor
  ·rintro (⟨h1, h2, h3⟩ | ⟨h1, h2, h3⟩)
   ·exact ⟨by omega, h2, h3⟩
   ·exact ⟨by omega, h2, h3⟩
  ·rintro ⟨h1, h2, h3⟩
   rcases Nat.lt_succ_iff_lt_or_eq.1 h1 with h1 | h1
   ·exact .inl ⟨h1, h2, h3⟩
   ·exact .inr ⟨h1, h2, h3⟩
theorem ly {m v : Nat} {n : Int} (h : dY m v n = true) : m < 2 ^ n.toNat ∧ v < 2 ^ n.toNat := by
 have h1 := dW.1 h
 have h2 : v &&& m ≤ m := Nat.and_le_right
 rw [h1.2.2.2] at h2
 exact ⟨h1.2.2.1, by omega⟩
theorem j1 {m v s : Nat} {n : Int} (h : gK m v s n = true) : dY m v n = true := sS (fY.1 h).1
theorem mV {s : Nat} {n : Int} {c : Cb} : c ∈ eH s n ↔ gK c.m c.v s n = true := by
 unfold eH
 rw [qc]
 exact ⟨fun h => h.2.2, fun h => ⟨(ly (j1 h)).1, (ly (j1 h)).2, h⟩⟩
def iM (l : List Cb) : Prop := l.Pairwise fun a b => wu a b = true
theorem kx {a b : Cb} : wu a b = true ↔ a.m < b.m ∨ a.m = b.m ∧ a.v < b.v := by
 simp [wu]
theorem xz {a b c : Cb} (h : wu a b = true) (k : wu b c = true) : wu a c = true := by
 rw [kx] at *
 omega
theorem q6 (a : Cb) : wu a a = false := by
 refine Bool.eq_false_iff.2 fun h => ?_
 rw [kx] at h
 omega
theorem FF {a b : Cb} (h : wu a b = false) (hne : a ≠ b) : wu b a = true := by
 rw [kx]
 have h1 : ¬ (a.m < b.m ∨ a.m = b.m ∧ a.v < b.v) := fun k => by rw [kx.2 k] at h; cases h
 have h2 : ¬ (a.m = b.m ∧ a.v = b.v) := fun ⟨k, k2⟩ => hne (by cases a; cases b; simp_all)
 omega
theorem pW (s : Nat) (n : Int) (m : Nat) : ∀ k, iM (jH s n m k)
 | 0 => by simp [jH, iM]
 | k + 1 => by
  have ih := pW s n m k
  simp only [jH]
  split
  ·refine List.pairwise_append.2 ⟨ih, by simp, fun a ha b hb => ?_⟩
   simp at hb
   subst hb
   have := (mY k).1 ha
   rw [kx]
   exact .inr ⟨this.1, this.2.1⟩
  ·exact ih
theorem pJ (s : Nat) (n : Int) : ∀ k, iM (kZ s n k)
 | 0 => by simp [kZ, iM]
 | k + 1 => by
  refine List.pairwise_append.2 ⟨pJ s n k, pW s n k _, fun a ha b hb => ?_⟩
  have h1 := (qc k).1 ha
  have h2 := (mY _).1 hb
  rw [kx]
  exact .inl (by omega)
theorem p7 (s : Nat) (n : Int) : iM (eH s n) := pJ s n _
theorem vU : ∀ {l l' : List Cb}, iM l → iM l' → (∀ c, c ∈ l ↔ c ∈ l') → l = l'
 | [], [], _, _, _ => rfl
 | [], b :: r, _, _, h => by have := (h b).2 (by simp); simp at this
 | a :: l, [], _, _, h => by have := (h a).1 (by simp); simp at this
 | a :: l, b :: r, h1, h2, h => by
  obtain ⟨p1, q1⟩ := List.pairwise_cons.1 h1
  obtain ⟨p2, q2⟩ := List.pairwise_cons.1 h2
  have hab : a = b := by
   refine Decidable.byContradiction fun hne => ?_
   have ha : a ∈ r := ((List.mem_cons.1 ((h a).1 (by simp))).resolve_left hne)
   have hb : b ∈ l := ((List.mem_cons.1 ((h b).2 (by simp))).resolve_left (fun e => hne e.symm))
   have := xz (p1 b hb) (p2 a ha)
   rw [q6] at this
   cases this
  subst hab
  congr 1
  refine vU q1 q2 fun c => ?_
  constructor
  ·intro hc
   rcases List.mem_cons.1 ((h c).1 (by simp [hc])) with e | hc'
   ·subst e; have := p1 c hc; rw [q6] at this; cases this
   ·exact hc'
  ·intro hc
   rcases List.mem_cons.1 ((h c).2 (by simp [hc])) with e | hc'
   ·subst e; have := p2 c hc; rw [q6] at this; cases this
   ·exact hc'
def mR (l : List Cb) (c : Cb) : Nat → Nat
 | 0 => 0
 | i + 1 => if wu (l.getD i ⟨0, 0⟩) c = true then i + 1 else mR l c i
def yC (l : List Cb) (c : Cb) : List Cb := l.take (mR l c l.length) ++ c :: l.drop (mR l c l.length)
theorem EG (l : List Cb) (c : Cb) : ∀ k, mR l c k ≤ k
 | 0 => by simp [mR]
 | k + 1 => by
  have := EG l c k
  simp only [mR]
  split <;> omega
theorem GT {l : List Cb} {c d : Cb} : d ∈ yC l c ↔ d = c ∨ d ∈ l := by
 unfold yC
 rw [List.mem_append, List.mem_cons]
 conv => rhs; rw [← List.take_append_drop (mR l c l.length) l, List.mem_append]
 constructor
 ·rintro (h | h | h)
  ·exact .inr (.inl h)
  ·exact .inl h
  ·exact .inr (.inr h)
 ·rintro (h | h | h)
  ·exact .inr (.inl h)
  ·exact .inl h
  ·exact .inr (.inr h)
theorem xN (l : List Cb) (c : Cb) : ∀ k, (∀ j, mR l c k ≤ j → j < k → wu (l.getD j ⟨0, 0⟩) c = false) ∧ (mR l c k = 0 ∨ wu (l.getD (mR l c k - 1) ⟨0, 0⟩) c = true)
 | 0 => by simp [mR]
 | k + 1 => by
  have ih := xN l c k
  simp only [mR]
  split
  ·rename_i h
   exact ⟨fun j h1 h2 => by omega, .inr (by simpa using h)⟩
  ·rename_i h
   refine ⟨fun j h1 h2 => ?_, ih.2⟩
   rcases Nat.lt_succ_iff_lt_or_eq.1 h2 with h2 | rfl
   ·exact ih.1 j h1 h2
   ·exact Bool.eq_false_iff.2 h
theorem zY {l : List Cb} {c : Cb} (h : iM l) (hc : c ∉ l) : iM (yC l c) := by
 obtain ⟨h1, h2⟩ := xN l c l.length
 have hp := EG l c l.length
 have hg := List.pairwise_iff_getElem.1 h
 unfold yC
 generalize mR l c l.length = k at *
 have hlow : ∀ a ∈ l.take k, wu a c = true := fun a ha => by
  obtain ⟨i, hi, rfl⟩ := List.mem_iff_getElem.1 ha
  rw [List.length_take] at hi
  rw [List.getElem_take]
  rcases h2 with h2 | h2
  ·omega
  ·have hk : l.getD (k - 1) ⟨0, 0⟩ = l[k - 1]'(by omega) := by simp [show k - 1 < l.length by omega]
   rw [hk] at h2
   by_cases e : i = k - 1
   ·subst e; exact h2
   ·exact xz (hg i (k - 1) (by omega) (by omega) (by omega)) h2
 have hhigh : ∀ a ∈ l.drop k, wu c a = true := fun a ha => by
  obtain ⟨i, hi, rfl⟩ := List.mem_iff_getElem.1 ha
  rw [List.length_drop] at hi
  rw [List.getElem_drop]
  have h3 := h1 (k + i) (by omega) (by omega)
  have hk : l.getD (k + i) ⟨0, 0⟩ = l[k + i]'(by omega) := by simp [show k + i < l.length by omega]
  rw [hk] at h3
  exact FF h3 (fun e => hc (e ▸ List.getElem_mem _))
 have hs : iM (l.take k ++ l.drop k) := by rw [List.take_append_drop]; exact h
 obtain ⟨s1, s2, s3⟩ := List.pairwise_append.1 hs
 refine List.pairwise_append.2 ⟨s1, List.pairwise_cons.2 ⟨hhigh, s2⟩, fun a ha b hb => ?_⟩
 rcases List.mem_cons.1 hb with rfl | hb
 ·exact hlow a ha
 ·exact s3 a ha b hb
theorem ID {a b : Cb} (ha : a.v < 256) (hb : b.v < 256) (h : wu a b = true) : vG a < vG b := by
 rw [kx] at h
 unfold vG
 omega
theorem v8 : ∀ (l : List Cb) (B : Nat), iM l → (∀ c ∈ l, c.v < 256) → (∀ c ∈ l, B ≤ vG c ∧ vG c < 65536) → l.length + B ≤ 65536 ∨ l = []
 | [], _, _, _, _ => .inr rfl
 | a :: l, B, h, hv, hb => by
  obtain ⟨p, q⟩ := List.pairwise_cons.1 h
  have h1 := hb a (by simp)
  rcases v8 l (vG a + 1) q (fun c hc => hv c (by simp [hc])) (fun c hc => ⟨ID (hv a (by simp)) (hv c (by simp [hc])) (p c hc), (hb c (by simp [hc])).2⟩) with h2 | rfl
  ·left; simp; omega
  ·left; simp; omega
theorem zC {l : List Cb} (h : iM l) (hm : ∀ c ∈ l, c.m < 256 ∧ c.v < 256) : l.length ≤ 65536 := by
 rcases v8 l 0 h (fun c hc => (hm c hc).2) (fun c hc => ⟨Nat.zero_le _, by have := hm c hc; unfold vG; omega⟩) with h | rfl
 ·omega
 ·simp
def i7 (a b : Cb) : Bool := decide (andNot a.m b.m = 0) && decide ((a.v ^^^ b.v) &&& a.m = 0)
theorem ES {m u k : Nat} (h : ((k &&& m : Nat) : Int) = (u : Int)) : m5 m u (k + 1) = kI (m5 m u k) (k : Int) := if_pos (by omega)
theorem EO {m u k : Nat} (h : ¬ ((k &&& m : Nat) : Int) = (u : Int)) : m5 m u (k + 1) = m5 m u k := if_neg (by omega)
theorem sC {m u : Nat} {n : Int} (h0 : 0 ≤ n) (h8 : n ≤ 8) (h : (m : Int) < ((1 * 2 ^ n.toNat : Nat) : Int)) : decide (((andNot u m : Nat) : Int) = 0) = dY m u n := by
 unfold dY
 rw [decide_eq_true h0, decide_eq_true h8, decide_eq_true (show m < 2 ^ n.toNat by omega), Bool.eq_iff_iff]
 simp only [Bool.true_and, decide_eq_true_eq]
 omega
theorem r8 {m u : Nat} {n : Int} (h : ¬ (m : Int) < ((1 * 2 ^ n.toNat : Nat) : Int)) : false = dY m u n := by
 unfold dY
 rw [decide_eq_false (show ¬ m < 2 ^ n.toNat by omega)]
 simp
end
end Go.Proofs.YteimkklmmanncaaGreat
