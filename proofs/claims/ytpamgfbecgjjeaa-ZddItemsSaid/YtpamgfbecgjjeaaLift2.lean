/-
  How slices, and structs with slices, read that are arguments of the statements: slices of sets, rows, numbers, flags; specs.
-/
import Derived.Test.YtpamgfbecgjjeaaLift
import Derived.Test.YtpamgfbecgjjeaaMulti2
import Derived.Deep.Slices
namespace Go.Proofs.Ytpamgfbecgjjeaa
set_option linter.unusedVariables false
set_option linter.unusedSimpArgs false
open Go Go.RowKit Go.ChangeShapes Go.WideShapes Go.ChangeAt Go.Joins Go.Deep

section
variable {H : Type} {encH : TypeId × Value → H} {P : Program} {w : World} {base : Nat} {held : Bool} {r : Reach} {b0 : Nat} {t e : TypeId}

theorem spot_none {a : Addr} {v : Value} (h : w.cell? a = some v) : a.spot = none := by
  unfold World.cell? at h
  split at h
  · split at h
    · cases h
    · rename_i hn
      cases hq : a.spot with
      | none => rfl
      | some _ => rw [hq] at hn; simp at hn
  · cases h

/-- A slice, element by element. -/
theorem open_sl {α : Type} [Inhabited α] {enc : α → List Value} {sz fuel : Nat} {Q : α → Prop} {v : Value} {x : DataW H × List MemPlace} (ht : P.underlying t = some (.slice e)) (hc : P.cellsOf e = sz) (hsz : 0 < sz) (he : ∀ a, (enc a).length = sz)
    (hopen : ∀ n cs y, cs.length = sz → DataW.trod encH P w base (fun _ => true) held n e cs = some y → ∃ a, cs = enc a ∧ Q a)
    (h : DataW.trod encH P w base (fun _ => true) held fuel t [v] = some x) : ∃ l : List α, SlT enc sz w v l ∧ ∀ a ∈ l, Q a := by
  rcases open_slice ht h with ⟨h0, _⟩ | ⟨a, len, cap, m, n, D, Pl, h1, hb, hl, hm, hmm, hx, hel⟩
  · simp only [List.cons.injEq, and_true] at h0
    subst h0
    exact ⟨[], SlT.nil, by simp⟩
  · simp only [List.cons.injEq, and_true] at h1
    subst h1
    simp only [if_true] at hmm
    subst hmm
    rw [hc] at hel
    obtain ⟨A, hA⟩ := choose_lt (α := α) (p := fun i b => Q b ∧ ∀ r u, (enc b)[r]? = some u → w.cell? (a.add (i * sz + r)) = some u) (fun i hi => by
      obtain ⟨cs', g1, g2⟩ := hel i hi
      obtain ⟨_, hlen, hcell⟩ := World.cells?_some g1
      obtain ⟨b, rfl, hq⟩ := hopen n cs' _ hlen g2
      refine ⟨b, hq, fun r u hu => ?_⟩
      have hr : r < sz := by
        have := (List.getElem?_eq_some_iff.1 hu).1
        rwa [he] at this
      have := hcell r hr
      rw [add_add] at this
      rw [this]; exact hu)
    have hspot : 0 < m → a.spot = none := fun h0 => by
      obtain ⟨_, g⟩ := hA 0 h0
      have hlen := he (A 0)
      have : (enc (A 0))[0]? = some ((enc (A 0))[0]'(by omega)) := List.getElem?_eq_getElem _
      have hg := g 0 _ this
      rw [Nat.zero_mul] at hg
      exact spot_none hg
    have hl2 : ∀ k, k < len → ((List.range len).map A).getD k default = A k := fun k hk => by simp [hk]
    have hlen0 : ((List.range len).map A).length = len := by simp
    refine ⟨(List.range len).map A, ⟨⟨some a, by simp [slC], by rw [hlen0]; exact hl, (fun h => (nomatch h)), fun a' h' h0 => ?_⟩, by rw [flat_len he], fun j u hu => ?_⟩, fun b hb => ?_⟩
    · obtain rfl := Option.some.inj h'
      have := hspot h0
      cases a
      simp only at this
      subst this
      rfl
    · have hlen2 : ((List.range len).map A).length = len := by simp
      have hj : j < len * sz := by
        have := (List.getElem?_eq_some_iff.1 hu).1
        rwa [flat_len he, hlen2] at this
      have h1 : j / sz < len := Nat.div_lt_of_lt_mul (by rwa [Nat.mul_comm] at hj)
      have h2 : j % sz < sz := Nat.mod_lt _ hsz
      have e1 : j = j / sz * sz + j % sz := by rw [Nat.mul_comm]; exact (Nat.div_add_mod j sz).symm
      have h3 := flat_get he ((List.range len).map A) (j / sz) (j % sz) default (by rw [hlen2]; exact h1) h2
      rw [← e1, hu, hl2 _ h1] at h3
      have h4 := (hA (j / sz) (by omega)).2 (j % sz) u h3.symm
      rw [← e1] at h4
      have hs := hspot (Nat.lt_of_le_of_lt (Nat.zero_le _) (Nat.lt_of_lt_of_le h1 hl))
      cases a
      simp only at hs
      subst hs
      rw [addr_add] at h4
      exact h4
    · obtain ⟨i, hi, rfl⟩ := List.mem_map.1 hb
      exact (hA i (by have := List.mem_range.1 hi; omega)).1

/-! ### Elements -/
theorem el_set {u : TypeId} (ht : P.underlying t = some (.array 4 u)) (hu : P.underlying u = some (.int .u64)) (hc : P.cellsOf u = 1) {n : Nat} {cs : List Value} {y : DataW H × List MemPlace} (hl : cs.length = 4) (h : DataW.trod encH P w base (fun _ => true) held n t cs = some y) : ∃ s : Nat, cs = encS s ∧ s < 2 ^ 256 := by
  match cs, hl with
  | [c0, c1, c2, c3], _ =>
    obtain ⟨y0, y1, y2, y3, n, hx, h0, h1, h2, h3⟩ := trod_array4 ht hc h
    obtain ⟨n0, e0, _, w0⟩ := DataW.trod_int hu h0
    obtain ⟨n1, e1, _, w1⟩ := DataW.trod_int hu h1
    obtain ⟨n2, e2, _, w2⟩ := DataW.trod_int hu h2
    obtain ⟨n3, e3, _, w3⟩ := DataW.trod_int hu h3
    simp only [List.cons.injEq, and_true] at e0 e1 e2 e3
    subst e0 e1 e2 e3
    obtain ⟨k0, rfl, l0⟩ := wf_u64 w0
    obtain ⟨k1, rfl, l1⟩ := wf_u64 w1
    obtain ⟨k2, rfl, l2⟩ := wf_u64 w2
    obtain ⟨k3, rfl, l3⟩ := wf_u64 w3
    obtain ⟨s, hs, hv⟩ := set_of_words l0 l1 l2 l3
    refine ⟨s, ?_, hs⟩
    have := congrArg (fun v : Value => v.cells.toList) hv
    exact this
theorem el_bool (ht : P.underlying t = some .bool) {n : Nat} {cs : List Value} {y : DataW H × List MemPlace} (hl : cs.length = 1) (h : DataW.trod encH P w base (fun _ => true) held n t cs = some y) : ∃ b : Bool, cs = encB b ∧ True := by
  obtain ⟨b, e, _⟩ := DataW.trod_bool ht h
  exact ⟨b, e, trivial⟩
theorem el_int (ht : P.underlying t = some (.int .i64)) {n : Nat} {cs : List Value} {y : DataW H × List MemPlace} (hl : cs.length = 1) (h : DataW.trod encH P w base (fun _ => true) held n t cs = some y) : ∃ z : Int, cs = encI z ∧ (-9223372036854775808 ≤ z ∧ z ≤ 9223372036854775807) := by
  obtain ⟨z, e, _, hw⟩ := DataW.trod_int ht h
  exact ⟨z, e, wf_i64 hw⟩
theorem el_cube {f0 f1 : Field} (hs : P.underlying t = some (.struct #[f0, f1])) (ho0 : f0.offset = 0) (ho1 : f1.offset = 1) (hc0 : P.cellsOf f0.type = 1) (hc1 : P.cellsOf f1.type = 1) (h0 : P.underlying f0.type = some (.int .u8)) (h1 : P.underlying f1.type = some (.int .u8))
    {n : Nat} {cs : List Value} {y : DataW H × List MemPlace} (hl : cs.length = 2) (h : DataW.trod encH P w base (fun _ => true) held n t cs = some y) : ∃ c : Cb, cs = encC c ∧ (c.m < 256 ∧ c.v < 256) := by
  match cs, hl with
  | [a, b], _ =>
    obtain ⟨y0, y1, n, hx, _, g0, g1⟩ := trod_struct2 hs h
    rw [ho0, hc0] at g0
    rw [ho1, hc1] at g1
    obtain ⟨n0, e0, _, w0⟩ := DataW.trod_int h0 g0
    obtain ⟨n1, e1, _, w1⟩ := DataW.trod_int h1 g1
    simp at e0 e1
    subst e0 e1
    obtain ⟨k0, rfl, l0⟩ := wf_u8 w0
    obtain ⟨k1, rfl, l1⟩ := wf_u8 w1
    exact ⟨⟨k0, k1⟩, rfl, l0, l1⟩
theorem el_row {f0 f1 g0 g1 : Field} (hs : P.underlying t = some (.struct #[f0, f1])) (ho0 : f0.offset = 0) (ho1 : f1.offset = 2) (hc0 : P.cellsOf f0.type = 2) (hc1 : P.cellsOf f1.type = 1) (h1 : P.underlying f1.type = some (.int .u8))
    (hs2 : P.underlying f0.type = some (.struct #[g0, g1])) (hp0 : g0.offset = 0) (hp1 : g1.offset = 1) (hd0 : P.cellsOf g0.type = 1) (hd1 : P.cellsOf g1.type = 1) (k0 : P.underlying g0.type = some (.int .u8)) (k1 : P.underlying g1.type = some (.int .u8))
    {n : Nat} {cs : List Value} {y : DataW H × List MemPlace} (hl : cs.length = 3) (h : DataW.trod encH P w base (fun _ => true) held n t cs = some y) : ∃ x : Rw, cs = encR x ∧ (x.c.m < 256 ∧ x.c.v < 256 ∧ x.o < 256) := by
  match cs, hl with
  | [a, b, c], _ =>
    obtain ⟨y0, y1, n, hx, _, q0, q1⟩ := trod_struct2 hs h
    rw [ho0, hc0] at q0
    rw [ho1, hc1] at q1
    obtain ⟨cb, e0, l0, l1⟩ := el_cube hs2 hp0 hp1 hd0 hd1 k0 k1 (by simp) q0
    obtain ⟨n1, e1, _, w1⟩ := DataW.trod_int h1 q1
    simp [encC] at e0 e1
    obtain ⟨rfl, rfl⟩ := e0
    subst e1
    obtain ⟨z, rfl, lz⟩ := wf_u8 w1
    exact ⟨⟨cb, z⟩, rfl, l0, l1, lz⟩

/-! ### Whole arguments -/
theorem open_row {v : Value} {d : DataW H} {p : List MemPlace} {f0 f1 g0 g1 : Field} (hs : P.underlying t = some (.struct #[f0, f1])) (ho0 : f0.offset = 0) (ho1 : f1.offset = 2) (hc0 : P.cellsOf f0.type = 2) (hc1 : P.cellsOf f1.type = 1) (h1 : P.underlying f1.type = some (.int .u8))
    (hs2 : P.underlying f0.type = some (.struct #[g0, g1])) (hp0 : g0.offset = 0) (hp1 : g1.offset = 1) (hd0 : P.cellsOf g0.type = 1) (hd1 : P.cellsOf g1.type = 1) (k0 : P.underlying g0.type = some (.int .u8)) (k1 : P.underlying g1.type = some (.int .u8)) (hC : P.cellsOf t = 3)
    (hv : Value.okWide P w r b0 t v) (h : DataW.Trod encH P w base (fun _ => true) held t v d p) : ∃ x : Rw, (x.c.m < 256 ∧ x.c.v < 256 ∧ x.o < 256) ∧ v = .agg #[.int .u8 (x.c.m : Int), .int .u8 (x.c.v : Int), .int .u8 (x.o : Int)] := by
  obtain ⟨cs, rfl, hsz⟩ := okWide_struct hs hv
  obtain ⟨fuel, hf⟩ := h
  obtain ⟨x, hx, hb⟩ := el_row hs ho0 ho1 hc0 hc1 h1 hs2 hp0 hp1 hd0 hd1 k0 k1 (show cs.toList.length = 3 by simpa using hsz.trans hC) hf
  refine ⟨x, hb, ?_⟩
  have e : cs.toList = encR x := hx
  rw [← Array.toArray_toList (xs := cs), e]
  rfl
theorem open_spec {v : Value} {d : DataW H} {p : List MemPlace} {f0 f1 f2 : Field} {u eS : TypeId} (hs : P.underlying t = some (.struct #[f0, f1, f2])) (hone : oneCellFields P #[f0, f1, f2] = true) (hC : P.cellsOf t = 3) (h0 : P.underlying f0.type = some (.int .i64)) (h1 : P.underlying f1.type = some (.slice eS)) (h2 : P.underlying f2.type = some (.slice eS))
    (hc : P.cellsOf eS = 4) (hS : P.underlying eS = some (.array 4 u)) (hu : P.underlying u = some (.int .u64)) (hcu : P.cellsOf u = 1) (hv : Value.okWide P w r b0 t v) (h : DataW.Trod encH P w base (fun _ => true) held t v d p) :
    ∃ (S : Sp) (onV mayV : Value), v = .agg #[.int .i64 S.n, onV, mayV] ∧ SlT encS 4 w onV S.on ∧ SlT encS 4 w mayV S.may ∧ (-9223372036854775808 ≤ S.n ∧ S.n ≤ 9223372036854775807) ∧ (∀ s ∈ S.on, s < 2 ^ 256) ∧ ∀ s ∈ S.may, s < 2 ^ 256 := by
  obtain ⟨v0, v1, v2, y0, y1, y2, n, rfl, _, _, g0, g1, g2⟩ := open_agg3 hs hone hC hv h
  obtain ⟨z, e0, _, w0⟩ := DataW.trod_int h0 g0
  simp only [List.cons.injEq, and_true] at e0
  subst e0
  obtain ⟨l1, k1, q1⟩ := open_sl (α := Nat) h1 hc (by decide) encS_len (fun n cs y hl hh => el_set hS hu hcu hl hh) g1
  obtain ⟨l2, k2, q2⟩ := open_sl (α := Nat) h2 hc (by decide) encS_len (fun n cs y hl hh => el_set hS hu hcu hl hh) g2
  exact ⟨⟨z, l1, l2⟩, v1, v2, rfl, k1, k2, wf_i64 w0, q1, q2⟩
instance : Inhabited Rw := ⟨⟨⟨0, 0⟩, 0⟩⟩
instance : Inhabited Cb := ⟨⟨0, 0⟩⟩
end

end Go.Proofs.Ytpamgfbecgjjeaa
