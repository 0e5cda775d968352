/-
  Words: strings as lists of bytes, the operations on them, and a range over one. No program in it.
-/
import Derived.Test.YtnkaebjaeaecmaaGreatDoorLow
import Derived.Laws.RangeAny
import Derived.Deep.Draws
import Derived.Stop.IfaceNil
import Derived.Laws.Strings2
import Derived.Laws.Strings3
import Derived.Laws.Concat
import Derived.Laws.BytesString
namespace Go.Proofs.YtnkaebjaeaecmaaGreatDoor
set_option linter.unusedVariables false
set_option linter.unusedSimpArgs false
open Go Go.RowKit

/-- A string as an element of a slice. -/
def encW (l : List UInt8) : List Value := [keyW l]
theorem encW_len (l : List UInt8) : (encW l).length = 1 := rfl
theorem bytes_back (s : ByteArray) : Value.string s = keyW s.data.toList := by
  unfold keyW
  rw [Array.toArray_toList]
/-- A byte's number. -/
def byN (l : List UInt8) (i : Nat) : Nat := (l.getD i 0).toNat
section
variable {P : Program} {f : Nat → Value} {w : World} {d : Option Nat} {ty : TypeId} {ps : String} {af : Array Edge} {g : Option (Nat × Bool)} {x y : Operand} {v : Value} {t t2 : TypeId}
theorem r_addW {a b : List UInt8} (hx : evF f x = keyW a) (hy : evF f y = keyW b) (hn : a.length + b.length ≤ 9223372036854775807) :
    (execOp (evF f) ⟨d, .binOp .add t x y t2, ty, ps, af, g⟩).run P w = .ok (.value (keyW (a ++ b))) w := by
  have h := run_string_add_sum (P := P) w ⟨a.toArray⟩ ⟨b.toArray⟩ (by simpa [ByteArray.size] using hn)
  rw [ByteArray.mk_append_mk] at h
  unfold keyW at hx hy ⊢
  simp [execOp, hx, hy, eqGuard, binOp, h]
theorem r_eqlW {a b : List UInt8} (hx : evF f x = keyW a) (hy : evF f y = keyW b) :
    (execOp (evF f) ⟨d, .binOp .eql t x y t2, ty, ps, af, g⟩).run P w = .ok (.value (.bool (decide (a = b)))) w := by
  unfold keyW at hx hy
  have e : (a == b) = decide (a = b) := by by_cases h : a = b <;> simp [h]
  simp [execOp, hx, hy, eqGuard, binOp, Op.stringOp, e]
theorem r_neqW {a b : List UInt8} (hx : evF f x = keyW a) (hy : evF f y = keyW b) :
    (execOp (evF f) ⟨d, .binOp .neq t x y t2, ty, ps, af, g⟩).run P w = .ok (.value (.bool (decide (¬ a = b)))) w := by
  unfold keyW at hx hy
  have e : (a == b) = decide (a = b) := by by_cases h : a = b <;> simp [h]
  simp [execOp, hx, hy, eqGuard, binOp, Op.stringOp, bne, e]
theorem r_lenW {a : List UInt8} (hx : evF f x = keyW a) (ht : P.underlying t = some .string) :
    (execOp (evF f) ⟨d, .call ⟨.builtin .len, #[x], #[t]⟩, ty, ps, af, g⟩).run P w = .ok (.value (.int .i64 (a.length : Int))) w := by
  unfold keyW at hx
  have h := run_len_string (P := P) w t ty ⟨a.toArray⟩ ht
  rw [show (⟨a.toArray⟩ : ByteArray).size = a.length from rfl] at h
  simp [execOp, resolve, invoke, builtin, hx, h, goInt]
theorem r_indexW {a : List UInt8} {k : IntKind} {i : Nat} (hx : evF f x = keyW a) (hy : evF f y = .int k (i : Int)) (ht : P.underlying t = some .string) (hi : i < a.length) :
    (execOp (evF f) ⟨d, .index t x y, ty, ps, af, g⟩).run P w = .ok (.value (.int .u8 ((byN a i : Nat) : Int))) w := by
  unfold keyW at hx
  have hs : (i : Int) < ((⟨a.toArray⟩ : ByteArray).size : Int) := by simp [ByteArray.size]; exact hi
  have h := run_index_string (P := P) w t ⟨a.toArray⟩ k (i : Int) ht
  rw [dif_pos ⟨by omega, hs⟩] at h
  have e : ((⟨a.toArray⟩ : ByteArray)[(i : Int).toNat]'(by simpa [ByteArray.size] using hi)).toNat = byN a i := by
    unfold byN
    rw [List.getD_eq_getElem?_getD, List.getElem?_eq_getElem hi]
    rfl
  rw [e] at h
  simp [execOp, hx, hy, h]
theorem r_neqNil {te : TypeId} {p : Value} (hx : evF f x = .iface te p) (ht : P.isIface t = true) :
    (execOp (evF f) ⟨d, .binOp .neq t x (.const .nilIface) t2, ty, ps, af, g⟩).run P w = .ok (.value (.bool true)) w := by
  have h := run_neq_iface_nil (P := P) w t ht te p
  have hy : evF f (.const .nilIface) = .nilIface := rfl
  simp [execOp, hx, hy, eqGuard, h]
theorem r_neqNil0 (hx : evF f x = .nilIface) (ht : P.isIface t = true) :
    (execOp (evF f) ⟨d, .binOp .neq t x (.const .nilIface) t2, ty, ps, af, g⟩).run P w = .ok (.value (.bool false)) w := by
  have h := run_neq_nil_nil_at (P := P) w t ht
  have hy : evF f (.const .nilIface) = .nilIface := rfl
  simp [execOp, hx, hy, eqGuard, h]
end

/-! ### A range over a string -/
def ItW (w : World) (b : Nat) (l : List UInt8) (i : Nat) : Prop := w.heap[b]? = some (.stringIter ⟨l.toArray⟩ i)
section
variable {P : Program} {fr : Nat → Value} {w w' : World} {d : Option Nat} {ty : TypeId} {ps : String} {af : Array Edge} {g : Option (Nat × Bool)} {x : Operand} {t : TypeId} {K : Value → World → Prop} {l : List UInt8} {it i : Nat}
theorem ItW.lt (h : ItW w it l i) : it < w.heap.size := lt_of_block h
theorem Ext.itW (h : Ext w w') (k : ItW w it l i) : ItW w' it l i := h.block k
theorem ItW.grown {row : Option Nat} (k : ItW w it l i) (h : w.grownBy w' row) (hne : some it ≠ row) : ItW w' it l i := by
  have hlt := k.lt
  unfold ItW at *
  rw [h.block it hlt hne]
  exact k
theorem ItW.neAt {b : Nat} {c : Array Value} {T : TypeId} (k : ItW w it l i) (h : At w b c T) : it ≠ b := fun e => by
  subst e
  unfold ItW at k
  unfold At at h
  rw [h] at k
  cases k
theorem own_ne_itW {N sz n : Nat} {T : TypeId} {v : Value} {xs : List Value} (h : w.ownsRow N T sz v n xs) (k : ItW w it l i) : some it ≠ v.ownBlock := by
  intro e
  rcases h.2 with ⟨rfl, rfl⟩ | ⟨g, cap, cur, rfl, hg, hh, _⟩
  · simp [Value.ownBlock] at e
  · simp [Value.ownBlock] at e
    exact k.neAt (T := T) (c := cur) (b := g) hh e
theorem OwT.grownItW {α : Type} {enc : α → List Value} {sz N : Nat} {T : TypeId} {v : Value} {L : List α} (h : OwT enc sz T w N v L) (k : ItW w it l i) (hG : w.grownBy w' (some it)) : OwT enc sz T w' N v L := World.ownsRow.kept h hG (.inr (fun e => own_ne_itW h k e.symm))
theorem ItW.grownOw {α : Type} {enc : α → List Value} {sz N : Nat} {T : TypeId} {v : Value} {L : List α} (k : ItW w it l i) (h : OwT enc sz T w N v L) (hG : w.grownBy w' v.ownBlock) : ItW w' it l i := k.grown hG (own_ne_itW h k)
theorem At.grownItW {b : Nat} {c : Array Value} {T : TypeId} (h : At w b c T) (k : ItW w it l i) (hG : w.grownBy w' (some it)) : At w' b c T := h.grown hG (fun e => k.neAt h (Option.some.inj e).symm)
theorem ItW.grownAt {b : Nat} {c : Array Value} {T : TypeId} (k : ItW w it l i) (h : At w b c T) (hG : w.grownBy w' (some b)) : ItW w' it l i := k.grown hG (fun e => k.neAt h (Option.some.inj e))
theorem SlT.grownItW {α : Type} {enc : α → List Value} {sz : Nat} {v : Value} {L : List α} (h : SlT enc sz w v L) (k : ItW w it l i) (hG : w.grownBy w' (some it)) : SlT enc sz w' v L := by
  refine ⟨h.form, h.len, fun j u hu => ?_⟩
  have hc := Sl.cell h j u hu
  have hlt := World.block_lt_of_cell? w _ hc
  have e := hG.block (slB v) hlt (fun e => by
    have e2 := Option.some.inj e
    unfold ItW at k
    unfold World.cell? at hc
    simp only [e2, k] at hc
    cases hc)
  rw [← hc]
  unfold World.cell?
  simp only [e]
theorem Y_rangeW (hx : evF fr x = keyW l) (ht : P.underlying t = some .string) (hK : ∀ it w', it = w.heap.size → Ext w w' → ItW w' it l 0 → K (.pointer (some ⟨it, 0, none⟩)) w') : Yd P ⟨d, .range t x, ty, ps, af, g⟩ fr w K := by
  unfold keyW at hx
  refine .val ?_ (hK w.heap.size (w.iter ⟨l.toArray⟩ 0) rfl (Ext.alloc w _) (World.iter_heap w _ 0))
  simp [execOp, hx, run_range_string w t _ ht]
theorem grownBy_iter (w : World) (b : Nat) (o : Obj) : w.grownBy { w with heap := w.heap.setIfInBounds b o } (some b) := by
  refine ⟨rfl, rfl, rfl, by simp, fun k _ hne => ?_⟩
  show (w.heap.setIfInBounds b o)[k]? = _
  rw [Array.getElem?_setIfInBounds_ne]
  intro e
  exact hne (by rw [e])
/-- The next rune: at the end; a byte below 128 is the rune itself; any other one is 128 at least. -/
theorem Y_nextW (hx : evF fr x = .pointer (some ⟨it, 0, none⟩)) (hm : ItW w it l i) (hK0 : l.length ≤ i → K (.tuple #[.bool false]) w)
    (hK : ∀ (r n : Nat) w', i < l.length → i < n → ((byN l i < 128 ∧ r = byN l i ∧ n = i + 1) ∨ (128 ≤ byN l i ∧ 128 ≤ r ∧ r ≤ 2147483647)) → w.grownBy w' (some it) → ItW w' it l n → K (.tuple #[.bool true, .int .i64 (i : Int), .int .i32 (r : Int)]) w') :
    Yd P ⟨d, .next x true, ty, ps, af, g⟩ fr w K := by
  have hm2 : w.heap[it]? = some (.stringIter ⟨l.toArray⟩ i) := hm
  have hsz : (⟨l.toArray⟩ : ByteArray).size = l.length := by simp [ByteArray.size]
  by_cases hi : i < l.length
  · have hi2 : i < (⟨l.toArray⟩ : ByteArray).size := by rw [hsz]; exact hi
    have e : ((⟨l.toArray⟩ : ByteArray)[i]'hi2).toNat = byN l i := by
      unfold byN
      rw [List.getD_eq_getElem?_getD, List.getElem?_eq_getElem hi]
      rfl
    have hrun : (execOp (evF fr) ⟨d, .next x true, ty, ps, af, g⟩).run P w = .ok (.value (.tuple #[.bool true, .int .i64 i, .int .i32 (Utf8.decode ⟨l.toArray⟩ i).1])) { w with heap := w.heap.setIfInBounds it (.stringIter ⟨l.toArray⟩ (i + (Utf8.decode ⟨l.toArray⟩ i).2)) } := by
      simp [execOp, hx, Instr.next, getObj, setObj, Sem.run_bind, Sem.run, hm2, Result.andThen, hi2, goInt]
    have hnew : ItW { w with heap := w.heap.setIfInBounds it (.stringIter ⟨l.toArray⟩ (i + (Utf8.decode ⟨l.toArray⟩ i).2)) } it l (i + (Utf8.decode ⟨l.toArray⟩ i).2) := by
      show (w.heap.setIfInBounds it _)[it]? = _
      rw [Array.getElem?_setIfInBounds_self_of_lt hm.lt]
    rcases Nat.lt_or_ge (byN l i) 128 with h | h
    · have hd := decode_ascii ⟨l.toArray⟩ i hi2 (by rw [e]; exact h)
      rw [e] at hd
      rw [hd] at hrun hnew
      exact .val hrun (hK _ _ _ hi (Nat.lt_succ_self _) (.inl ⟨h, rfl, rfl⟩) (grownBy_iter w it _) hnew)
    · obtain ⟨h1, h2⟩ := decode_high ⟨l.toArray⟩ i hi2 (by rw [e]; exact h)
      exact .val hrun (hK _ _ _ hi (by omega) (.inr ⟨h, h1, decode_le _ _⟩) (grownBy_iter w it _) hnew)
  · refine .val ?_ (hK0 (by omega))
    have hi2 : ¬ i < (⟨l.toArray⟩ : ByteArray).size := by rw [hsz]; exact hi
    simp [execOp, hx, Instr.next, getObj, Sem.run_bind, Sem.run, hm2, Result.andThen, hi2]
end

/-! ### A contract of the library's -/
theorem Fn_of_calls {P : Program} {g : Nat} {vs : Array Value} {w : World} {v : Value} (h : Calls P g vs w fun e w' => e = .returned v ∧ w' = w) : Fn P g vs w fun x _ => x = v :=
  ⟨Calls.mono h fun e w' ⟨h1, h2⟩ => ⟨v, h1, by rw [h2]; exact Ext.refl w, rfl⟩⟩
theorem Ext.drewN (w : World) (n : Nat) : Ext w (w.drewN n) := Ext.drawn w _
/-- The variable of this number holds some int. -/
def Bal (g : Nat) (w : World) : Prop := ∃ m : Int, w.cell? ⟨g, 0, none⟩ = some (.int .i64 m)
theorem Bal.below {g : Nat} {w W : World} (h : Go.RowKit.Below w.heap.size w W) (k : Bal g w) : Bal g W := by
  obtain ⟨m, hm⟩ := k
  exact ⟨m, by rw [World.cell?_of_block (h.block g (World.block_lt_of_cell? _ _ hm))]; exact hm⟩

end Go.Proofs.YtnkaebjaeaecmaaGreatDoor
