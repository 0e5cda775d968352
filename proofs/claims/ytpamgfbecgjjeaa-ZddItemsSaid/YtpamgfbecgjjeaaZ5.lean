/-
  Steps of the walks over arenas and diagrams. No program in it.
-/
import Derived.Test.YtpamgfbecgjjeaaZ4
namespace Go.Proofs.Ytpamgfbecgjjeaa
set_option linter.unusedVariables false
set_option linter.unusedSimpArgs false
open Go Go.RowKit

def thereB (ns : List Nd) (id : Int) : Bool := decide (2 ≤ id ∧ id < (ns.length : Int) + 2)
theorem th_f1 {ns : List Nd} {id : Int} (h : ¬ 2 ≤ id) : Value.bool false = .bool (thereB ns id) := congrArg Value.bool (decide_eq_false (fun k => h k.1)).symm
theorem th_f2 {ns : List Nd} {id : Int} (h : ¬ id - 2 < (ns.length : Int)) : Value.bool false = .bool (thereB ns id) := congrArg Value.bool (decide_eq_false (fun k => h (by omega))).symm
theorem th_t {ns : List Nd} {id : Int} {x : Nat} (h : 2 ≤ id) (h2 : id - 2 < (ns.length : Int)) : Value.bool (decide (¬ ((x : Nat) : Int) = -1)) = .bool (thereB ns id) := congrArg Value.bool (by
  rw [decide_eq_true (show ¬ ((x : Nat) : Int) = -1 by omega)]
  exact (decide_eq_true ⟨h, by omega⟩).symm)
theorem lv_s {ns : List Nd} {id : Nat} (h : (id : Int) = 0 ∨ (id : Int) = 1) : Value.int .i64 24 = .int .i64 ((lvl ns id : Nat) : Int) := by
  rw [lvl_small (by omega)]; rfl
theorem lv_n {ns : List Nd} {id : Nat} (h : ¬ (id : Int) = 0) (h2 : ¬ (id : Int) = 1) : Value.int .i64 (((ns.getD ((id : Int) - 2).toNat nd0).l : Nat) : Int) = .int .i64 ((lvl ns id : Nat) : Int) := by
  obtain ⟨i, rfl⟩ : ∃ i, id = i + 2 := ⟨id - 2, by omega⟩
  rw [lvl_node, show (((i + 2 : Nat) : Int) - 2).toNat = i by omega]
theorem lv_bad {ns : List Nd} {id : Nat} (hid : id < ns.length + 2) (h : ¬ (id : Int) = 0) (h2 : ¬ (id : Int) = 1) (h3 : thereB ns (id : Int) = false) : False := by
  have := of_decide_eq_false h3
  omega
def nodeI (ns : List Nd) (id : Int) : Nd := if thereB ns id = true then ns.getD (id - 2).toNat nd0 else nd0
theorem nodeI_f {ns : List Nd} {id : Int} (h : (!thereB ns id) = true) : thereB ns id = false ∧ nodeI ns id = nd0 := by
  have h2 : thereB ns id = false := by cases k : thereB ns id <;> simp_all
  exact ⟨h2, by unfold nodeI; rw [h2]; rfl⟩
theorem nodeI_t {ns : List Nd} {id : Int} (h : (!thereB ns id) = false) : thereB ns id = true ∧ nodeI ns id = ns.getD (id - 2).toNat nd0 := by
  have h2 : thereB ns id = true := by cases k : thereB ns id <;> simp_all
  exact ⟨h2, by unfold nodeI; rw [h2]; rfl⟩
theorem there_iff {ns : List Nd} {id : Int} : thereB ns id = true ↔ 2 ≤ id ∧ id < (ns.length : Int) + 2 := decide_eq_true_iff
def lvlI (ns : List Nd) (id : Int) : Int := if 0 ≤ id ∧ id < (ns.length : Int) + 2 then ((lvl ns id.toNat : Nat) : Int) else -1
theorem li_s {ns : List Nd} {id : Int} (h : id = 0 ∨ id = 1) : Value.int .i64 24 = .int .i64 (lvlI ns id) := by
  unfold lvlI
  rw [if_pos ⟨by omega, by omega⟩, lvl_small (by omega)]; rfl
theorem li_n {ns : List Nd} {id : Int} (h3 : thereB ns id = true) : Value.int .i64 (((nodeI ns id).l : Nat) : Int) = .int .i64 (lvlI ns id) := by
  have h4 := there_iff.1 h3
  unfold nodeI lvlI
  rw [h3, if_pos rfl, if_pos ⟨by omega, by omega⟩]
  obtain ⟨i, rfl⟩ : ∃ i : Nat, id = ((i + 2 : Nat) : Int) := ⟨(id - 2).toNat, by omega⟩
  rw [Int.toNat_natCast, lvl_node, show (((i + 2 : Nat) : Int) - 2).toNat = i by omega]
theorem li_f {ns : List Nd} {id : Int} (h : ¬ id = 0) (h2 : ¬ id = 1) (h3 : thereB ns id = false) : Value.int .i64 (-1) = .int .i64 (lvlI ns id) := by
  have := of_decide_eq_false h3
  unfold lvlI
  rw [if_neg (by omega)]
theorem lvlI_nat {ns : List Nd} {id : Nat} (h : id < ns.length + 2) : lvlI ns (id : Int) = ((lvl ns id : Nat) : Int) := by
  unfold lvlI
  rw [if_pos ⟨by omega, by omega⟩, Int.toNat_natCast]
def thereZ (ns : List Nd) (id : Int) : Bool := decide (0 ≤ id ∧ id < (ns.length : Int) + 2)
theorem tz_iff {ns : List Nd} {id : Int} : thereZ ns id = true ↔ 0 ≤ id ∧ id < (ns.length : Int) + 2 := decide_eq_true_iff
theorem tz_no {ns : List Nd} {id : Int} (h : lvlI ns id < 0) : ¬ thereZ ns id = true := fun k => by
  have := tz_iff.1 k
  unfold lvlI at h
  rw [if_pos this] at h
  omega
theorem tz_yes {ns : List Nd} {id : Int} (h : ¬ lvlI ns id < 0) : thereZ ns id = true := tz_iff.2 (by
  unfold lvlI at h
  split at h
  · assumption
  · omega)
theorem allZ_no {ns : List Nd} {li : List Int} {k : Nat} (hk : k < li.length) (h : lvlI ns (li.getD k 0) < 0) : Value.bool false = .bool (li.all (thereZ ns)) := congrArg Value.bool (Eq.symm (Bool.eq_false_iff.2 fun q => tz_no h (List.all_eq_true.1 q _ (getD_mem hk))))
theorem all_yes {ns : List Nd} {li : List Int} {k : Nat} (hk : k = li.length) (h : ∀ q, q < k → thereZ ns (li.getD q 0) = true) : Value.bool true = .bool (li.all (thereZ ns)) := congrArg Value.bool (Eq.symm (List.all_eq_true.2 fun x hx => by
  obtain ⟨j, hj, rfl⟩ := List.getElem_of_mem hx
  have := h j (by omega)
  rwa [List.getD_eq_getElem?_getD, List.getElem?_eq_getElem hj] at this))

/-! ### Making a node -/
theorem mk_met {ns : List Nd} (h : Wf ns) {n : Nd} (hs : (getL (idsL ns) n).isSome = true) : ∃ i, i < ns.length ∧ ns.getD i nd0 = n ∧ (getL (idsL ns) n).getD 0 = ((i + 2 : Nat) : Int) := by
  cases k : getL (idsL ns) n with
  | none => rw [k] at hs; cases hs
  | some v =>
    obtain ⟨i, h1, h2, h3⟩ := idsL_some h.nd k
    exact ⟨i, h1, h2, h3⟩
theorem mk_not {ns : List Nd} {n : Nd} (hs : (getL (idsL ns) n).isSome = false) : n ∉ ns := by
  cases k : getL (idsL ns) n with
  | none => exact idsL_none k
  | some v => rw [k] at hs; cases hs
theorem mk_got {ns : List Nd} (h : Wf ns) {i l lo hi R c : Nat} (hi' : i < ns.length) (hn : ns.getD i nd0 = ⟨l, lo, hi⟩) : Got ns ns R c l (up l (M ns lo) (M ns hi)) (i + 2) 0 := by
  refine Got.same (by omega) (by rw [lvl_node, hn]; exact Nat.le_refl _) fun x => ?_
  rw [mems_node h hi', hn, List.mem_append, List.mem_map]
  exact or_congr Iff.rfl ⟨fun ⟨y, a, b⟩ => ⟨y, a, b.symm⟩, fun ⟨y, a, b⟩ => ⟨y, a, b.symm⟩⟩
theorem mk_new {ns : List Nd} {l lo hi R : Nat} (hlo : lo < ns.length + 2) (hhi : hi < ns.length + 2) : Got ns (ns ++ [⟨l, lo, hi⟩]) R 1 l (up l (M ns lo) (M ns hi)) (ns.length + 2) 0 := by
  refine ⟨List.prefix_append _ _, by simp, .inl ⟨rfl, by simp, ?_, fun x => ?_⟩⟩
  · rw [lvl_node, List.getD_eq_getElem?_getD, List.getElem?_append_right (Nat.le_refl _), Nat.sub_self]
    exact Nat.le_refl _
  · rw [mems_snoc_new, List.mem_append, List.mem_map]
    exact or_congr Iff.rfl ⟨fun ⟨y, a, b⟩ => ⟨y, a, b.symm⟩, fun ⟨y, a, b⟩ => ⟨y, a, b.symm⟩⟩
theorem mk_full {ns : List Nd} {R c l : Nat} {S : Nat → Prop} (h : R ≤ ns.length) : Got ns ns R c l S 0 5 := ⟨List.prefix_refl _, by omega, .inr ⟨rfl, rfl, h⟩⟩
theorem node_zero {ns : List Nd} {l lo hi : Nat} (h : (hi : Int) = 0) : ∀ x, x ∈ mems ns lo ↔ up l (M ns lo) (M ns hi) x := fun x => by
  obtain rfl : hi = 0 := by omega
  unfold up
  exact ⟨.inl, fun k => k.elim _root_.id fun ⟨y, hy, _⟩ => absurd hy (M_0 ns y)⟩

/-! ### Halves, as numbers -/
theorem nodeI_nat {ns : List Nd} {f : Nat} (h : thereB ns (f : Int) = true) : 2 ≤ f ∧ nodeI ns (f : Int) = ns.getD (f - 2) nd0 ∧ lvl ns f = (nodeI ns (f : Int)).l := by
  have h4 := there_iff.1 h
  unfold nodeI
  rw [h, if_pos rfl]
  obtain ⟨i, rfl⟩ : ∃ i, f = i + 2 := ⟨f - 2, by omega⟩
  rw [show (((i + 2 : Nat) : Int) - 2).toNat = i by omega]
  exact ⟨by omega, rfl, lvl_node i⟩
theorem hv_t {ns : List Nd} {f l : Nat} (h : thereB ns (f : Int) = true) (hl : ((nodeI ns (f : Int)).l : Int) = (l : Int)) : Value.tuple #[.int .i64 ((nodeI ns (f : Int)).lo : Int), .int .i64 ((nodeI ns (f : Int)).hi : Int)] = .tuple #[.int .i64 ((halfA ns f l : Nat) : Int), .int .i64 ((halfB ns f l : Nat) : Int)] := by
  obtain ⟨h1, h2, h3⟩ := nodeI_nat h
  unfold halfA halfB
  rw [if_pos ⟨h1, by omega⟩, if_pos ⟨h1, by omega⟩, h2]
theorem hv_f {ns : List Nd} {f l : Nat} (hf : f < ns.length + 2) (h : ¬ (thereB ns (f : Int) = true ∧ ((nodeI ns (f : Int)).l : Int) = (l : Int))) : Value.tuple #[.int .i64 (f : Int), .int .i64 0] = .tuple #[.int .i64 ((halfA ns f l : Nat) : Int), .int .i64 ((halfB ns f l : Nat) : Int)] := by
  unfold halfA halfB
  have hc : ¬ (2 ≤ f ∧ lvl ns f = l) := fun ⟨a, b⟩ => h (by
    have ht : thereB ns (f : Int) = true := there_iff.2 (by omega)
    obtain ⟨_, _, h3⟩ := nodeI_nat ht
    exact ⟨ht, by omega⟩)
  rw [if_neg hc, if_neg hc]
  rfl
theorem Dx.below {Tn : TypeId} {N : Nat} {xs : List Nat} {w W : World} (h : Go.RowKit.Below w.heap.size w W) : Dx Tn N xs w W := ⟨h.os, h.tape, h.output, h.size, fun k hk _ => h.block k hk⟩

end Go.Proofs.Ytpamgfbecgjjeaa
