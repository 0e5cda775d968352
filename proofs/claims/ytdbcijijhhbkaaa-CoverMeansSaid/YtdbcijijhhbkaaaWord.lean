/-
  Words: rows of bytes, strings made of them, and maps whose keys are strings. Rows of rows that are the call's own. No program in it.
-/
import Derived.Test.YtdbcijijhhbkaaaLists
namespace Go.Proofs.Ytdbcijijhhbkaaa
set_option linter.unusedVariables false
set_option linter.unusedSimpArgs false
open Go Go.RowKit

def encY (n : Int) : List Value := [.int .u8 n]
theorem encY_len (n : Int) : (encY n).length = 1 := rfl
theorem enc_one_encY {l : List Int} : (l.flatMap encY).all Value.oneCell' = true := enc_one (fun _ => rfl) l
theorem flat_encY (l : List Int) : l.flatMap encY = l.map (Value.int .u8) := by
  induction l with
  | nil => rfl
  | cons a l ih => simp [List.flatMap_cons, ih, encY]
def keyW (l : List UInt8) : Value := .string ⟨l.toArray⟩
theorem keyW_inj (a b : List UInt8) (h : keyW a = keyW b) : a = b := by
  simpa [keyW] using h
theorem keyW_beq (a c : List UInt8) : ((⟨a.toArray⟩ : ByteArray) == ⟨c.toArray⟩) = true ↔ a = c := by
  show (a.toArray == c.toArray) = true ↔ a = c
  simp
def bytesL (xs : List Int) : List UInt8 := xs.map fun n => UInt8.ofNat n.toNat
theorem fold_bytes : ∀ (ns : List Int) (s : ByteArray), ns.foldl (fun r n => r.push (UInt8.ofNat n.toNat)) s = ⟨s.data ++ (bytesL ns).toArray⟩
  | [], s => by simp [bytesL]
  | n :: ns, s => by
    rw [List.foldl_cons, fold_bytes ns]
    simp [ByteArray.push, bytesL]

section
variable {P : Program} {f : Nat → Value} {w : World} {d : Option Nat} {ty : TypeId} {ps : String} {af : Array Edge} {g : Option (Nat × Bool)} {x y : Operand} {v : Value}
theorem r_bytesStr {src dst e : TypeId} {xs : List Int} (hx : evF f x = v) (hs : SlT encY 1 w v xs) (h1 : P.underlying src = some (.slice e)) (h2 : P.underlying e = some (.int .u8)) (h3 : P.underlying dst = some .string) :
    (execOp (evF f) ⟨d, .convert src dst x, ty, ps, af, g⟩).run P w = .ok (.value (keyW (bytesL xs))) w := by
  have hsl : Sl w 1 v xs.length (xs.flatMap encY) := hs
  have hc := hsl.cell
  obtain ⟨hv, hn, h0, ha⟩ := hsl.eqv
  cases hA : slA v with
  | none =>
    have h4 := h0 hA
    have hxs : xs = [] := List.eq_nil_of_length_eq_zero (by omega)
    rw [hA] at hv
    rw [hv] at hx
    subst hxs
    have hr := run_convert_bytes_string w src dst e none 0 (slC v) h1 h2 h3
    rw [show Conv.bytesToString (.slice none 0 (slC v)) = pure (.string .empty) from rfl] at hr
    have hr2 : (convert src dst (.slice none 0 (slC v))).run P w = .ok (.string ⟨#[]⟩) w := hr
    have hx2 : evF f x = .slice none 0 (slC v) := hx
    simp [execOp, hx2, hr2, keyW, bytesL]
  | some a =>
    rw [hA] at hv
    have hl := _root_.Go.run_loadCells_list (P := P) w a (xs.map (Value.int .u8)) (fun j u hj => by
      have hj' : j < xs.length := by
        have := (List.getElem?_eq_some_iff.1 hj).1
        simpa using this
      rw [ha a hA (by omega), addr_add]
      exact hc j u (by rw [flat_encY]; exact hj))
    rw [List.length_map] at hl
    have hr := run_convert_bytes_string w src dst e (some a) xs.length (slC v) h1 h2 h3
    rw [run_bytesToString w a xs.length (slC v) xs hl, fold_bytes] at hr
    rw [hv] at hx
    simp [execOp, hx, hr, keyW]
end

section
variable {P : Program} {f : Nat → Value} {w : World} {d : Option Nat} {ty : TypeId} {ps : String} {af : Array Edge} {g : Option (Nat × Bool)} {x y : Operand} {t t2 : TypeId} {a : Int}
theorem r_shr8 (hx : evF f x = .int .i64 a) (hy : evF f y = .int .u64 8) (h0 : 0 ≤ a) : (execOp (evF f) ⟨d, .binOp .shr t x y t2, ty, ps, af, g⟩).run P w = .ok (.value (.int .i64 (a / 256))) w := by
  obtain ⟨m, rfl⟩ := Int.eq_ofNat_of_zero_le h0
  rw [r_shr hx hy (by omega) (by decide)]
  simp
theorem r_byte {desc : TypeDesc} (h : evF f x = .int .i64 a) (hs : P.underlying t = some desc) (ht : P.underlying t2 = some (.int .u8)) :
    (execOp (evF f) ⟨d, .convert t t2 x, ty, ps, af, g⟩).run P w = .ok (.value (.int .u8 (a % 256))) w := by
  rw [r_conv h hs ht]
  rfl
end

theorem allT_in {α : Type} [DecidableEq α] {l : List α} {k : α} (h : (getL (allT l) k).getD false = true) : k ∈ l := by
  rw [allT_get, decide_eq_true_eq] at h; exact h
theorem allT_out {α : Type} [DecidableEq α] {l : List α} {k : α} (h : (getL (allT l) k).getD false = false) : k ∉ l := by
  rw [allT_get, decide_eq_false_iff_not] at h; exact h
/-! ### What stands still -/
section
variable {w W : World}
theorem Below.ow {α : Type} {enc : α → List Value} {sz : Nat} {T : TypeId} {N : Nat} {v : Value} {l : List α} (h : Go.RowKit.Below w.heap.size w W) (k : OwT enc sz T w N v l) : OwT enc sz T W N v l :=
  World.ownsRow.kept k (row := none) ⟨h.os, h.tape, h.output, h.size, fun j hj _ => h.block j hj⟩ (by cases v.ownBlock <;> simp)
theorem Below.mapI {α β : Type} {enc : α → Value} {encV : β → Value} {b : Nat} {l : List (α × β)} (h : Go.RowKit.Below w.heap.size w W) (k : MapT enc encV w b l) : MapT enc encV W b l := k.moved (h.block b k.lt)
end

/-- Slice values, each a row of the call's own, whose numbers are L. -/
structure LO (T : TypeId) (N : Nat) (w : World) (vs : List Value) (L : List (List Int)) : Prop where
  len : vs.length = L.length
  get : ∀ k, k < L.length → OwT encI 1 T w N (vs.getD k undef) (L.getD k [])

section
variable {T : TypeId} {N : Nat} {w w' : World} {vs : List Value} {L : List (List Int)}
theorem LO.nil : LO T N w [] [] := ⟨rfl, fun k hk => by cases hk⟩
theorem LO.ll (h : LO T N w vs L) : LL w vs L := ⟨h.len, fun k hk => (h.get k hk).sl⟩
theorem LO.ext (h : Ext w w') (k : LO T N w vs L) : LO T N w' vs L := ⟨k.len, fun i hi => h.ow (k.get i hi)⟩
theorem LO.mono {N' : Nat} (k : LO T N w vs L) (h : N' ≤ N) : LO T N' w vs L := ⟨k.len, fun i hi => (k.get i hi).mono h⟩
theorem LO.grownAt {b : Nat} {c : Array Value} {T' : TypeId} (k : LO T N w vs L) (hm : At w b c T') (hG : w.grownBy w' (some b)) (hT : T' ≠ T) : LO T N w' vs L := ⟨k.len, fun i hi => (k.get i hi).grownAt hm hG hT⟩
theorem LO.grownMap {α β : Type} {enc : α → Value} {encV : β → Value} {b : Nat} {l : List (α × β)} (k : LO T N w vs L) (hm : MapT enc encV w b l) (hG : w.grownBy w' (some b)) : LO T N w' vs L := ⟨k.len, fun i hi => (k.get i hi).grownMap hm hG⟩
theorem LO.grownOw {α : Type} {enc : α → List Value} {sz N' : Nat} {T' : TypeId} {v : Value} {l : List α} (k : LO T N w vs L) (h : OwT enc sz T' w N' v l) (hG : w.grownBy w' v.ownBlock) (hT : T' ≠ T) : LO T N w' vs L := ⟨k.len, fun i hi => (k.get i hi).grownOw h hG hT.symm⟩
theorem LO.one (k : LO T N w vs L) : ∀ v, v ∈ vs → Value.oneCell' v = true := fun v hv => by
  obtain ⟨j, hj, e⟩ := mem_getD (d := undef) hv
  have h := (k.get j (by rw [← k.len]; exact hj)).sl
  rw [e] at h
  obtain ⟨h1, _⟩ := Sl.eqv h
  rw [h1]; rfl
theorem one_part {vs : List Value} (h : ∀ v, v ∈ vs → Value.oneCell' v = true) {i j : Nat} : (((vs.drop i).take j).flatMap encV).all Value.oneCell' = true := by
  rw [List.all_eq_true]
  intro v hv
  obtain ⟨u, hu, he⟩ := List.mem_flatMap.1 hv
  obtain rfl : v = u := by simpa [encV] using he
  exact h _ (List.mem_of_mem_drop (List.mem_of_mem_take hu))
theorem LO.below {W : World} (h : Below w.heap.size w W) (k : LO T N w vs L) : LO T N W vs L := ⟨k.len, fun i hi => Below.ow h (k.get i hi)⟩
theorem put_get {α : Type} (l : List α) (x d : α) {i : Nat} (j : Nat) (hi : i ≤ l.length) : (l.take i ++ ([x] ++ l.drop i)).getD j d = if j < i then l.getD j d else if j = i then x else l.getD (j - 1) d := by
  have hl : (l.take i).length = i := by rw [List.length_take]; omega
  simp only [List.getD_eq_getElem?_getD]
  by_cases h1 : j < i
  · rw [if_pos h1, List.getElem?_append_left (by omega), List.getElem?_take, if_pos h1]
  · rw [if_neg h1, List.getElem?_append_right (by omega), hl]
    by_cases h2 : j = i
    · rw [if_pos h2, h2, Nat.sub_self]; rfl
    · rw [if_neg h2, List.getElem?_append_right (by simp; omega), List.getElem?_drop]
      congr 2
      simp
      omega
theorem LO.put {v : Value} {l : List Int} {i : Nat} (k : LO T N w vs L) (h : OwT encI 1 T w N v l) (hi : i ≤ L.length) : LO T N w (vs.take i ++ ([v] ++ vs.drop i)) (L.take i ++ ([l] ++ L.drop i)) := by
  have hl := k.len
  refine ⟨by simp [hl], fun j hj => ?_⟩
  rw [put_get _ _ _ _ (by omega), put_get _ _ _ _ hi]
  have hj2 : j < L.length + 1 := by
    rw [List.length_append, List.length_append, List.length_drop, List.length_take, List.length_singleton] at hj
    omega
  by_cases h1 : j < i
  · rw [if_pos h1, if_pos h1]; exact k.get j (by omega)
  · rw [if_neg h1, if_neg h1]
    by_cases h2 : j = i
    · rw [if_pos h2, if_pos h2]; exact h
    · rw [if_neg h2, if_neg h2]; exact k.get (j - 1) (by omega)
theorem LO.snoc {v : Value} {l : List Int} (k : LO T N w vs L) (h : OwT encI 1 T w N v l) : LO T N w (vs ++ [v]) (L ++ [l]) := by
  have hp := k.put (i := L.length) h (Nat.le_refl _)
  rw [← k.len, List.take_length, List.drop_length, List.append_nil, k.len, List.take_length, List.drop_length, List.append_nil] at hp
  exact hp
theorem LL.snoc {v : Value} {l : List Int} (k : LL w vs L) (h : SlT encI 1 w v l) : LL w (vs ++ [v]) (L ++ [l]) := by
  have hl := k.len
  refine ⟨by simp [hl], fun j hj => ?_⟩
  rw [List.length_append, List.length_singleton] at hj
  by_cases h1 : j < L.length
  · have e1 : (vs ++ [v]).getD j undef = vs.getD j undef := by simp only [List.getD_eq_getElem?_getD]; rw [List.getElem?_append_left (by omega)]
    have e2 : (L ++ [l]).getD j [] = L.getD j [] := by simp only [List.getD_eq_getElem?_getD]; rw [List.getElem?_append_left (by omega)]
    rw [e1, e2]; exact k.get j h1
  · obtain rfl : j = L.length := by omega
    have e1 : (vs ++ [v]).getD L.length undef = v := by simp only [List.getD_eq_getElem?_getD]; rw [List.getElem?_append_right (by omega), hl, Nat.sub_self]; rfl
    have e2 : (L ++ [l]).getD L.length [] = l := by simp only [List.getD_eq_getElem?_getD]; rw [List.getElem?_append_right (by omega), Nat.sub_self]; rfl
    rw [e1, e2]; exact h
end

end Go.Proofs.Ytdbcijijhhbkaaa
