/-
  How slices read that are arguments of the statements: slices of numbers and flags.
-/
import Derived.Test.YtnkaebjaeaecmaaGreatDoorLift
import Derived.Test.YtnkaebjaeaecmaaGreatDoorSlice
import Derived.Deep.Slices
namespace Go.Proofs.YtnkaebjaeaecmaaGreatDoor
set_option linter.unusedVariables false
set_option linter.unusedSimpArgs false
open Go Go.RowKit Go.ChangeShapes Go.WideShapes Go.ChangeAt Go.Joins Go.Deep

section
variable {H : Type} {encH : TypeId × Value → H} {P : Program} {w : World} {base : Nat} {held : Bool} {r : Reach} {b0 : Nat} {t e : TypeId}

theorem spot_none {a : Addr} {v : Value} (h : w.cell? a = some v) : a.spot = none := by
  unfold World.cell? at h
  split at h
  · split at h
    · cases h
    · rename_i hn
      cases hq : a.spot with
      | none => rfl
      | some _ => rw [hq] at hn; simp at hn
  · cases h

/-- A slice, element by element. -/
theorem open_sl {α : Type} [Inhabited α] {enc : α → List Value} {sz fuel : Nat} {Q : α → Prop} {v : Value} {x : DataW H × List MemPlace} (ht : P.underlying t = some (.slice e)) (hc : P.cellsOf e = sz) (hsz : 0 < sz) (he : ∀ a, (enc a).length = sz)
    (hopen : ∀ n cs y, cs.length = sz → DataW.trod encH P w base (fun _ => true) held n e cs = some y → ∃ a, cs = enc a ∧ Q a)
    (h : DataW.trod encH P w base (fun _ => true) held fuel t [v] = some x) : ∃ l : List α, SlT enc sz w v l ∧ ∀ a ∈ l, Q a := by
  rcases open_slice ht h with ⟨h0, _⟩ | ⟨a, len, cap, m, n, D, Pl, h1, hb, hl, hm, hmm, hx, hel⟩
  · simp only [List.cons.injEq, and_true] at h0
    subst h0
    exact ⟨[], SlT.nil, by simp⟩
  · simp only [List.cons.injEq, and_true] at h1
    subst h1
    simp only [if_true] at hmm
    subst hmm
    rw [hc] at hel
    obtain ⟨A, hA⟩ := choose_lt (α := α) (p := fun i b => Q b ∧ ∀ r u, (enc b)[r]? = some u → w.cell? (a.add (i * sz + r)) = some u) (fun i hi => by
      obtain ⟨cs', g1, g2⟩ := hel i hi
      obtain ⟨_, hlen, hcell⟩ := World.cells?_some g1
      obtain ⟨b, rfl, hq⟩ := hopen n cs' _ hlen g2
      refine ⟨b, hq, fun r u hu => ?_⟩
      have hr : r < sz := by
        have := (List.getElem?_eq_some_iff.1 hu).1
        rwa [he] at this
      have := hcell r hr
      rw [add_add] at this
      rw [this]; exact hu)
    have hspot : 0 < m → a.spot = none := fun h0 => by
      obtain ⟨_, g⟩ := hA 0 h0
      have hlen := he (A 0)
      have : (enc (A 0))[0]? = some ((enc (A 0))[0]'(by omega)) := List.getElem?_eq_getElem _
      have hg := g 0 _ this
      rw [Nat.zero_mul] at hg
      exact spot_none hg
    have hl2 : ∀ k, k < len → ((List.range len).map A).getD k default = A k := fun k hk => by simp [hk]
    have hlen0 : ((List.range len).map A).length = len := by simp
    refine ⟨(List.range len).map A, ⟨⟨some a, by simp [slC], by rw [hlen0]; exact hl, (fun h => (nomatch h)), fun a' h' h0 => ?_⟩, by rw [flat_len he], fun j u hu => ?_⟩, fun b hb => ?_⟩
    · obtain rfl := Option.some.inj h'
      have := hspot h0
      cases a
      simp only at this
      subst this
      rfl
    · have hlen2 : ((List.range len).map A).length = len := by simp
      have hj : j < len * sz := by
        have := (List.getElem?_eq_some_iff.1 hu).1
        rwa [flat_len he, hlen2] at this
      have h1 : j / sz < len := Nat.div_lt_of_lt_mul (by rwa [Nat.mul_comm] at hj)
      have h2 : j % sz < sz := Nat.mod_lt _ hsz
      have e1 : j = j / sz * sz + j % sz := by rw [Nat.mul_comm]; exact (Nat.div_add_mod j sz).symm
      have h3 := flat_get he ((List.range len).map A) (j / sz) (j % sz) default (by rw [hlen2]; exact h1) h2
      rw [← e1, hu, hl2 _ h1] at h3
      have h4 := (hA (j / sz) (by omega)).2 (j % sz) u h3.symm
      rw [← e1] at h4
      have hs := hspot (Nat.lt_of_le_of_lt (Nat.zero_le _) (Nat.lt_of_lt_of_le h1 hl))
      cases a
      simp only at hs
      subst hs
      rw [addr_add] at h4
      exact h4
    · obtain ⟨i, hi, rfl⟩ := List.mem_map.1 hb
      exact (hA i (by have := List.mem_range.1 hi; omega)).1

/-! ### Elements -/
theorem el_int (ht : P.underlying t = some (.int .i64)) {n : Nat} {cs : List Value} {y : DataW H × List MemPlace} (hl : cs.length = 1) (h : DataW.trod encH P w base (fun _ => true) held n t cs = some y) : ∃ z : Int, cs = encI z ∧ (-9223372036854775808 ≤ z ∧ z ≤ 9223372036854775807) := by
  obtain ⟨z, e, _, hw⟩ := DataW.trod_int ht h
  exact ⟨z, e, wf_i64 hw⟩
end

end Go.Proofs.YtnkaebjaeaecmaaGreatDoor
