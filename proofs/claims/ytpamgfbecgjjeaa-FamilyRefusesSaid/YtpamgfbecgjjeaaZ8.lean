/-
  Rising rows of numbers: putting a number in its place, merging; what is told of a family; what is marked. No program in it. What the statements about families need: outcomes with room enough, the document's rows, and what they have to do with a family's members. No program in it. Ids and the rows of their members: what each deed comes to when there is room. No program in it.
-/
import Derived.Test.YtpamgfbecgjjeaaZ1
import Derived.Test.YtpamgfbecgjjeaaFrame
namespace Go.Proofs.Ytpamgfbecgjjeaa
set_option linter.unusedVariables false
set_option linter.unusedSimpArgs false

section
open Go Go.RowKit

theorem vbt {b : Bool} (h : b = true) : Value.bool true = .bool b := by rw [h]
theorem vbf {b : Bool} (h : ¬ b = true) : Value.bool false = .bool b := by rw [Bool.eq_false_iff.2 h]
theorem eq_allZ {α : Type} (d : α) (a b : List α) (hl : a.length = b.length) (h : ∀ q, q < a.length → a.getD q d = b.getD q d) : a = b := by
  refine List.ext_getElem? fun i => ?_
  by_cases hi : i < a.length
  · have := h i hi
    rw [List.getD_eq_getElem?_getD, List.getD_eq_getElem?_getD, List.getElem?_eq_getElem hi, List.getElem?_eq_getElem (show i < b.length by omega)] at this
    rw [List.getElem?_eq_getElem hi, List.getElem?_eq_getElem (show i < b.length by omega)]
    exact congrArg some this
  · rw [List.getElem?_eq_none (by omega), List.getElem?_eq_none (by omega)]
theorem sz_0 {a b : List Int} (h : ¬ (a.length : Int) = (b.length : Int)) : Value.bool false = .bool (decide (a = b)) := vbf fun k => h (by rw [of_decide_eq_true k])
theorem sz_1 {a b : List Int} {k : Nat} (h : ¬ a.getD k 0 = b.getD k 0) : Value.bool false = .bool (decide (a = b)) := vbf fun q => h (by rw [of_decide_eq_true q])
theorem sz_2 {a b : List Int} {k : Nat} (hl : a.length = b.length) (hk : k = a.length) (h : ∀ q, q < k → a.getD q 0 = b.getD q 0) : Value.bool true = .bool (decide (a = b)) := vbt (decide_eq_true (eq_allZ 0 a b hl (hk ▸ h)))

/-! ### Rising rows -/
def Inc (l : List Int) : Prop := l.Pairwise fun a b => a < b
theorem inc_ext : ∀ {a b : List Int}, Inc a → Inc b → (∀ x, x ∈ a ↔ x ∈ b) → a = b
  | [], [], _, _, _ => rfl
  | [], b :: bs, _, _, h => by have := (h b).2 (List.mem_cons_self ..); cases this
  | a :: as, [], _, _, h => by have := (h a).1 (List.mem_cons_self ..); cases this
  | a :: as, b :: bs, ha, hb, h => by
    obtain ⟨a1, a2⟩ := List.pairwise_cons.1 ha
    obtain ⟨b1, b2⟩ := List.pairwise_cons.1 hb
    have e : a = b := by
      rcases List.mem_cons.1 ((h a).1 (List.mem_cons_self ..)) with e | k
      · exact e
      · rcases List.mem_cons.1 ((h b).2 (List.mem_cons_self ..)) with e | q
        · exact e.symm
        · have := a1 b q
          have := b1 a k
          omega
    subst e
    rw [inc_ext a2 b2 (fun x => ⟨fun k => ?_, fun k => ?_⟩)]
    · rcases List.mem_cons.1 ((h x).1 (List.mem_cons_of_mem _ k)) with e | q
      · have := a1 x k; omega
      · exact q
    · rcases List.mem_cons.1 ((h x).2 (List.mem_cons_of_mem _ k)) with e | q
      · have := b1 x k; omega
      · exact q
theorem Inc.nodup {l : List Int} (h : Inc l) : l.Nodup := h.imp (fun h e => by omega)
def withI : List Int → Int → List Int
  | [], m => [m]
  | x :: xs, m => if x < m then x :: withI xs m else if x = m then x :: xs else m :: x :: xs
theorem mem_withI {m x : Int} : ∀ {l : List Int}, x ∈ withI l m ↔ x ∈ l ∨ x = m
  | [] => by simp [withI]
  | y :: ys => by
    rw [withI]
    split
    · rw [List.mem_cons, mem_withI, List.mem_cons, or_assoc]
    · split
      · rename_i h; subst h
        exact ⟨.inl, fun h => h.elim _root_.id fun e => by rw [e]; exact List.mem_cons_self ..⟩
      · rw [List.mem_cons]
        exact ⟨fun h => h.elim .inr .inl, fun h => h.elim .inr .inl⟩
theorem inc_withI {m : Int} : ∀ {l : List Int}, Inc l → Inc (withI l m)
  | [], _ => List.pairwise_singleton _ _
  | y :: ys, h => by
    obtain ⟨h1, h2⟩ := List.pairwise_cons.1 h
    rw [withI]
    split
    · refine List.pairwise_cons.2 ⟨fun z hz => ?_, inc_withI h2⟩
      rcases mem_withI.1 hz with hz | rfl
      · exact h1 z hz
      · assumption
    · split
      · exact h
      · refine List.pairwise_cons.2 ⟨fun z hz => ?_, h⟩
        rcases List.mem_cons.1 hz with rfl | hz
        · omega
        · have := h1 z hz; omega
theorem with_at {m : Int} : ∀ (l : List Int) (k : Nat), k ≤ l.length → (∀ q, q < k → l.getD q 0 < m) → (k < l.length → ¬ l.getD k 0 < m ∧ ¬ l.getD k 0 = m) → l.take k ++ [m] ++ l.drop k = withI l m
  | [], k, h, _, _ => by
    obtain rfl : k = 0 := by simpa using h
    rfl
  | x :: xs, 0, _, _, h => by
    have h0 := h (by simp)
    have h1 : ¬ x < m ∧ ¬ x = m := by simpa using h0
    rw [withI, if_neg h1.1, if_neg h1.2]; rfl
  | x :: xs, k + 1, hk, h1, h2 => by
    have h0 : x < m := by simpa using h1 0 (by omega)
    rw [withI, if_pos h0, ← with_at xs k (by simpa using hk) (fun q hq => by simpa using h1 (q + 1) (by omega)) (fun h => by simpa using h2 (by simpa using h))]
    rfl
theorem with_met {m : Int} : ∀ (l : List Int) (k : Nat), k < l.length → (∀ q, q < k → l.getD q 0 < m) → l.getD k 0 = m → l = withI l m
  | [], k, h, _, _ => by simp at h
  | x :: xs, 0, _, _, h => by
    have h1 : x = m := by simpa using h
    rw [withI, if_neg (by omega), if_pos h1]
  | x :: xs, k + 1, hk, h1, h2 => by
    have h0 : x < m := by simpa using h1 0 (by omega)
    rw [withI, if_pos h0, ← with_met xs k (by simpa using hk) (fun q hq => by simpa using h1 (q + 1) (by omega)) (by simpa using h2)]
theorem withI_len (l : List Int) (m : Int) : (withI l m).length ≤ l.length + 1 := by
  induction l with
  | nil => exact Nat.le_refl _
  | cons x xs ih =>
    rw [withI]
    split
    · simp only [List.length_cons]; omega
    · split <;> simp
def ofTo (l : List Int) : Nat → List Int
  | 0 => []
  | k + 1 => withI (ofTo l k) (l.getD k 0)
def ofI (l : List Int) : List Int := ofTo l l.length
theorem ofTo_inc (l : List Int) : ∀ k, Inc (ofTo l k)
  | 0 => List.Pairwise.nil
  | k + 1 => inc_withI (ofTo_inc l k)
theorem ofTo_len (l : List Int) : ∀ k, (ofTo l k).length ≤ k
  | 0 => Nat.le_refl _
  | k + 1 => by
    have h1 := ofTo_len l k
    have h2 := withI_len (ofTo l k) (l.getD k 0)
    rw [ofTo]; omega
theorem mem_ofTo {l : List Int} {x : Int} : ∀ k, k ≤ l.length → (x ∈ ofTo l k ↔ x ∈ l.take k)
  | 0, _ => by simp [ofTo]
  | k + 1, hk => by
    rw [ofTo, mem_withI, mem_ofTo k (by omega), take_s (by omega), List.mem_append, List.mem_singleton]
theorem mem_ofI {l : List Int} {x : Int} : x ∈ ofI l ↔ x ∈ l := by
  unfold ofI
  rw [mem_ofTo _ (Nat.le_refl _), List.take_length]
theorem inc_ofI (l : List Int) : Inc (ofI l) := ofTo_inc l _
theorem ofI_len (l : List Int) : (ofI l).length ≤ l.length := ofTo_len l _
theorem ofI_eq {l a : List Int} (h : Inc a) (hm : ∀ x, x ∈ a ↔ x ∈ l) : a = ofI l := inc_ext h (inc_ofI l) fun x => by rw [hm, mem_ofI]
theorem ofI_nodup_len {l : List Int} (h : l.Nodup) : (ofI l).length = l.length := by
  have key : ∀ {l1 l2 : List Int}, l1.Nodup → (∀ x, x ∈ l1 → x ∈ l2) → l1.length ≤ l2.length := by
    intro l1
    induction l1 with
    | nil => intro l2 _ _; exact Nat.zero_le _
    | cons x xs ih =>
      intro l2 hn hs
      obtain ⟨h1, h2⟩ := List.nodup_cons.1 hn
      have hx := hs x (List.mem_cons_self ..)
      have := ih (l2 := l2.erase x) h2 (fun y hy => (List.mem_erase_of_ne (fun (e : y = x) => h1 (e ▸ hy))).2 (hs y (List.mem_cons_of_mem _ hy)))
      rw [List.length_erase_of_mem hx] at this
      have hp := List.length_pos_of_mem hx
      rw [List.length_cons]; omega
  have h1 := key h (fun x hx => mem_ofI.2 hx)
  have h2 := ofI_len l
  omega

/-! ### Merging -/
def mrg : List Int → List Int → List Int
  | [], b => b
  | a, [] => a
  | x :: xs, y :: ys => if x < y then x :: mrg xs (y :: ys) else y :: mrg (x :: xs) ys
theorem mrg_nil (a : List Int) : mrg a [] = a := by cases a <;> simp [mrg]
theorem mem_mrg {x : Int} : ∀ (a b : List Int), x ∈ mrg a b ↔ x ∈ a ∨ x ∈ b
  | [], b => by simp [mrg]
  | a :: as, [] => by simp [mrg]
  | a :: as, b :: bs => by
    rw [mrg]
    split
    · rw [List.mem_cons, mem_mrg as (b :: bs), List.mem_cons (a := x) (b := a), or_assoc]
    · rw [List.mem_cons, mem_mrg (a :: as) bs, List.mem_cons (a := x) (b := b)]
      constructor
      · rintro (h | h | h)
        · exact .inr (.inl h)
        · exact .inl h
        · exact .inr (.inr h)
      · rintro (h | h | h)
        · exact .inr (.inl h)
        · exact .inl h
        · exact .inr (.inr h)
theorem inc_mrg : ∀ (a b : List Int), Inc a → Inc b → (∀ x, x ∈ a → x ∉ b) → Inc (mrg a b)
  | [], b, _, h, _ => by simpa [mrg] using h
  | a :: as, [], h, _, _ => by rw [mrg_nil]; exact h
  | a :: as, b :: bs, ha, hb, hd => by
    obtain ⟨a1, a2⟩ := List.pairwise_cons.1 ha
    obtain ⟨b1, b2⟩ := List.pairwise_cons.1 hb
    rw [mrg]
    split
    · refine List.pairwise_cons.2 ⟨fun z hz => ?_, inc_mrg as (b :: bs) a2 hb (fun x hx => hd x (List.mem_cons_of_mem _ hx))⟩
      rcases (mem_mrg _ _).1 hz with hz | hz
      · exact a1 z hz
      · rcases List.mem_cons.1 hz with rfl | hz
        · assumption
        · have := b1 z hz; omega
    · have hne : a ≠ b := fun e => hd a (List.mem_cons_self ..) (by rw [e]; exact List.mem_cons_self ..)
      refine List.pairwise_cons.2 ⟨fun z hz => ?_, inc_mrg (a :: as) bs ha b2 (fun x hx hq => hd x hx (List.mem_cons_of_mem _ hq))⟩
      rcases (mem_mrg _ _).1 hz with hz | hz
      · rcases List.mem_cons.1 hz with rfl | hz
        · omega
        · have := a1 z hz; omega
      · exact b1 z hz
theorem mrg_a {out a b : List Int} (ha : 0 < a.length) (h : b.length = 0 ∨ a.getD 0 0 < b.getD 0 0) : out ++ mrg a b = (out ++ [a.getD 0 0]) ++ mrg ((a.drop 1).take (a.length - 1)) b := by
  cases a with
  | nil => simp at ha
  | cons x xs =>
    have e : ((x :: xs).drop 1).take ((x :: xs).length - 1) = xs := by simp
    rw [e]
    cases b with
    | nil => rw [mrg_nil, mrg_nil]; simp
    | cons y ys =>
      have h1 : x < y := by simpa using h
      rw [mrg, if_pos h1]; simp
theorem mrg_b {out a b : List Int} (hb : 0 < b.length) (h : a.length = 0 ∨ ¬ a.getD 0 0 < b.getD 0 0) : out ++ mrg a b = (out ++ [b.getD 0 0]) ++ mrg a ((b.drop 1).take (b.length - 1)) := by
  cases b with
  | nil => simp at hb
  | cons y ys =>
    have e : ((y :: ys).drop 1).take ((y :: ys).length - 1) = ys := by simp
    rw [e]
    cases a with
    | nil => simp [mrg]
    | cons x xs =>
      have h1 : ¬ x < y := by simpa using h
      rw [mrg, if_neg h1]; simp
theorem mrg_end {out a b : List Int} (ha : a.length = 0) (hb : b.length = 0) : out ++ mrg a b = out := by
  rw [List.eq_nil_of_length_eq_zero ha, List.eq_nil_of_length_eq_zero hb]; simp [mrg]
theorem mrg_len (a b : List Int) : (mrg a b).length = a.length + b.length := by
  induction a generalizing b with
  | nil => simp [mrg]
  | cons x xs ih =>
    induction b with
    | nil => simp [mrg]
    | cons y ys ih2 =>
      rw [mrg]
      split
      · rw [List.length_cons, ih]; simp; omega
      · rw [List.length_cons, ih2]; simp; omega
theorem sort_halves {l : List Int} (h : l.Nodup) (k : Nat) : mrg (ofI (l.take k)) (ofI (l.drop k)) = ofI l := by
  have hsp : l = l.take k ++ l.drop k := (List.take_append_drop k l).symm
  refine ofI_eq (inc_mrg _ _ (inc_ofI _) (inc_ofI _) fun x hx hy => ?_) fun x => ?_
  · rw [hsp, List.nodup_append] at h
    exact h.2.2 x (mem_ofI.1 hx) x (mem_ofI.1 hy) rfl
  · rw [mem_mrg, mem_ofI, mem_ofI]
    conv => rhs; rw [hsp, List.mem_append]
theorem sort_small {l : List Int} (h : l.length < 2) : l = ofI l := by
  match l, h with
  | [], _ => rfl
  | [x], _ => rfl

/-! ### A family's members, rising -/
def srtM (ns : List Nd) (f : Nat) : List Int := ofI ((mems ns f).map fun x : Nat => (x : Int))
theorem mem_srtM {ns : List Nd} {f : Nat} {x : Int} : x ∈ srtM ns f ↔ ∃ y : Nat, y ∈ mems ns f ∧ x = (y : Int) := by
  unfold srtM
  rw [mem_ofI, List.mem_map]
  exact ⟨fun ⟨y, h1, h2⟩ => ⟨y, h1, h2.symm⟩, fun ⟨y, h1, h2⟩ => ⟨y, h1, h2.symm⟩⟩
theorem srtM_len {ns : List Nd} (h : Wf ns) {f : Nat} (hf : f < ns.length + 2) : (srtM ns f).length = (mems ns f).length := by
  unfold srtM
  rw [ofI_nodup_len, List.length_map]
  exact List.pairwise_map.2 ((mems_nodup h f hf).imp (fun hne e => hne (by omega)))
theorem srt_keys {ns : List Nd} {f : Nat} {ks : List Int} (h : ∀ x, x ∈ ks ↔ ∃ y : Nat, y ∈ mems ns f ∧ x = (y : Int)) : ofI ks = srtM ns f := ofI_eq (inc_ofI ks) fun x => by
  rw [mem_ofI, h, List.mem_map]
  exact ⟨fun ⟨y, h1, h2⟩ => ⟨y, h1, h2.symm⟩, fun ⟨y, h1, h2⟩ => ⟨y, h1, h2.symm⟩⟩
/-- The members told, with those of m added. -/
def Told (ns : List Nd) (f m : Nat) (ks ks' : List Int) : Prop := ∀ x, x ∈ ks' ↔ x ∈ ks ∨ ∃ y : Nat, y ∈ mems ns f ∧ x = ((m ||| y : Nat) : Int)
theorem told_1 {ns : List Nd} {f m : Nat} {ks : List Int} (h : (f : Int) = 1) : Told ns f m ks (insK ks (m : Int)) := fun x => by
  obtain rfl : f = 1 := by omega
  rw [mem_insK, mems_1]
  refine or_congr Iff.rfl ⟨fun e => ⟨0, List.mem_cons_self .., by rw [Nat.or_zero]; exact e⟩, fun ⟨y, h1, h2⟩ => ?_⟩
  rw [List.mem_singleton.1 h1, Nat.or_zero] at h2
  exact h2
theorem told_0 {ns : List Nd} {f m : Nat} {ks : List Int} (h : f < 2) (h1 : ¬ (f : Int) = 1) : Told ns f m ks ks := fun x => by
  obtain rfl : f = 0 := by omega
  rw [mems_0]
  exact ⟨.inl, fun k => k.elim _root_.id fun ⟨y, h1, _⟩ => by cases h1⟩
theorem told_node {ns : List Nd} (h : Wf ns) {f m : Nat} {n : Nd} {ks k1 k2 : List Int} (hn : NodeOf ns f n) (h1 : Told ns n.lo m ks k1) (h2 : Told ns n.hi (m ||| 1 * 2 ^ n.l) k1 k2) : Told ns f m ks k2 := fun x => by
  have e : ∀ y, (y ∈ mems ns f) = M ns f y := fun _ => rfl
  rw [h2, h1, or_assoc]
  refine or_congr Iff.rfl ?_
  simp only [e]
  rw [hn.mem]
  have key : ∀ y, y ∈ mems ns n.hi → m ||| 1 * 2 ^ n.l ||| y = m ||| (y + 2 ^ n.l) := fun y hy => by
    have := (or_up1 (Nat.dvd_zero (2 ^ (n.l + 1))) (dvd_lt hn.lhi (mems_bits h _ hn.vhi y hy).1)).1
    rw [Nat.zero_add, Nat.zero_or] at this
    rw [Nat.one_mul, Nat.or_assoc, this]
  constructor
  · rintro (⟨y, hy, rfl⟩ | ⟨y, hy, rfl⟩)
    · exact ⟨y, .inl hy, rfl⟩
    · exact ⟨y + 2 ^ n.l, .inr ⟨y, hy, rfl⟩, by rw [key y hy]⟩
  · rintro ⟨y, hy | ⟨z, hz, rfl⟩, rfl⟩
    · exact .inl ⟨y, hy, rfl⟩
    · exact .inr ⟨z, hz, by rw [key z hz]⟩

/-! ### What is marked -/
def cntT (l : List Bool) : Nat := (l.filter _root_.id).length
def bnd (ns : List Nd) (id : Int) : Nat := if thereB ns id = true then (24 - lvl ns id.toNat) * (mems ns id.toNat).length else 0
structure Mk (ns : List Nd) (id : Int) (l l' : List Bool) : Prop where
  len : l'.length = l.length
  mono : ∀ j, l.getD j false = true → l'.getD j false = true
  met : thereB ns id = true → l'.getD (id - 2).toNat false = true
  cnt : cntT l' ≤ cntT l + bnd ns id
theorem mk_no {ns : List Nd} {id : Int} {l : List Bool} (h : thereB ns id = false ∨ l.getD (id - 2).toNat false = true) : Mk ns id l l :=
  ⟨rfl, fun _ h => h, fun k => h.elim (fun h => by rw [k] at h; cases h) _root_.id, Nat.le_add_right _ _⟩
theorem cnt_set : ∀ (l : List Bool) (k : Nat), cntT (l.set k true) ≤ cntT l + 1
  | [], _ => by simp [cntT]
  | b :: l, 0 => by
    unfold cntT
    rw [List.set_cons_zero, List.filter_cons, List.filter_cons]
    cases b <;> simp
  | b :: l, k + 1 => by
    have := cnt_set l k
    unfold cntT at *
    rw [List.set_cons_succ, List.filter_cons, List.filter_cons]
    cases b
    · simpa using this
    · simp; omega
theorem bnd_le {ns : List Nd} {f : Nat} {n : Nd} (h : Wf ns) (hn : NodeOf ns f n) (hf : f < ns.length + 2) (ht : thereB ns (f : Int) = true) : 1 + bnd ns (n.lo : Int) + bnd ns (n.hi : Int) ≤ bnd ns (f : Int) := by
  have hb : ∀ g : Nat, n.l < lvl ns g → bnd ns (g : Int) ≤ (24 - n.l - 1) * (mems ns g).length := fun g hg => by
    unfold bnd
    rw [Int.toNat_natCast]
    split
    · exact Nat.mul_le_mul_right _ (by omega)
    · exact Nat.zero_le _
  have h1 := hb n.lo hn.llo
  have h2 := hb n.hi hn.lhi
  have h3 : bnd ns (f : Int) = (24 - n.l - 1) * (mems ns n.lo).length + (24 - n.l - 1) * (mems ns n.hi).length + (mems ns f).length := by
    unfold bnd
    have := hn.l24
    rw [ht, if_pos rfl, Int.toNat_natCast, hn.lv, ← Nat.mul_add, ← hn.cnt]
    conv => lhs; rw [show 24 - n.l = (24 - n.l - 1) + 1 by omega, Nat.add_mul, Nat.one_mul]
  have h4 := List.length_pos_of_mem (mems_ne h f hf (by have := hn.two; omega)).choose_spec
  omega
theorem mk_node {ns : List Nd} (h : Wf ns) {f : Nat} {n : Nd} {l l1 l2 : List Bool} (hn : NodeOf ns f n) (hf : f < ns.length + 2) (ht : thereB ns (f : Int) = true) (hl : l.length = ns.length)
    (g1 : Mk ns (n.lo : Int) (l.set ((f : Int) - 2).toNat true) l1) (g2 : Mk ns (n.hi : Int) l1 l2) : Mk ns (f : Int) l l2 := by
  have hi : ((f : Int) - 2).toNat < l.length := by have := there_iff.1 ht; omega
  have e1 : (l.set ((f : Int) - 2).toNat true).getD ((f : Int) - 2).toNat false = true := by
    rw [List.getD_eq_getElem?_getD, List.getElem?_set_self hi]; rfl
  refine ⟨by rw [g2.len, g1.len, List.length_set], fun j hj => g2.mono j (g1.mono j ?_), fun _ => g2.mono _ (g1.mono _ e1), ?_⟩
  · by_cases e : ((f : Int) - 2).toNat = j
    · rw [← e]; exact e1
    · rw [List.getD_eq_getElem?_getD, List.getElem?_set_ne e, ← List.getD_eq_getElem?_getD]; exact hj
  · have a1 := g1.cnt
    have a2 := g2.cnt
    have a3 := cnt_set l ((f : Int) - 2).toNat
    have a4 := bnd_le h hn hf ht
    omega
theorem cnt_rep (n : Nat) : cntT (List.replicate n false) = 0 := by
  unfold cntT
  induction n with
  | zero => rfl
  | succ n ih => rw [List.replicate_succ, List.filter_cons]; exact ih
def reT (l : List Bool) (k : Nat) : List Int := ((List.range k).filter fun j => l.getD j false).map fun j : Nat => (j : Int) + 2
theorem re_t {l : List Bool} {k : Nat} (h : l.getD k false = true) : reT l k ++ [(k : Int) + 2] = reT l (k + 1) := by
  unfold reT
  rw [List.range_succ, List.filter_append, List.map_append]
  simp only [List.filter_cons, List.filter_nil, h, if_true, List.map_cons, List.map_nil]
theorem re_f {l : List Bool} {k : Nat} (h : ¬ l.getD k false = true) : reT l k = reT l (k + 1) := by
  unfold reT
  rw [List.range_succ, List.filter_append, List.map_append]
  simp only [List.filter_cons, List.filter_nil, Bool.eq_false_iff.2 h]
  simp
theorem re_len (l : List Bool) : (reT l l.length).length = cntT l := by
  unfold reT cntT
  rw [List.length_map]
  have key : ∀ (l : List Bool) (f : Nat → Nat), (∀ i, i < l.length → True) → ((List.range l.length).filter fun j => l.getD j false).length = (l.filter _root_.id).length := by
    intro l
    induction l with
    | nil => intro _ _; rfl
    | cons b l ih =>
      intro f _
      rw [List.length_cons, List.range_succ_eq_map, List.filter_cons, List.filter_map, List.filter_cons]
      have e : ((fun j => (b :: l).getD j false) ∘ Nat.succ) = fun j => l.getD j false := by funext j; simp
      rw [e]
      cases b
      · simpa using ih f (fun _ _ => trivial)
      · simpa using ih f (fun _ _ => trivial)
  exact key l _root_.id (fun _ _ => trivial)
theorem re_pos {l : List Bool} {j : Nat} (hj : j < l.length) (h : l.getD j false = true) : 1 ≤ (reT l l.length).length := by
  have : ((j : Nat) : Int) + 2 ∈ reT l l.length := List.mem_map.2 ⟨j, List.mem_filter.2 ⟨List.mem_range.2 hj, h⟩, rfl⟩
  exact List.length_pos_of_mem this
theorem reT_le (l : List Bool) (k : Nat) : (reT l k).length ≤ k := by
  unfold reT
  rw [List.length_map]
  exact Nat.le_trans (List.length_filter_le _ _) (by simp)

theorem iterI_le {w : World} {it b : Nat} {ks seen : List Int} (h : IterT keyI Value.bool w it b (allT ks) seen) : seen.length ≤ (allT ks).length := by
  have hs : ∀ c, c ∈ seen → c ∈ ks := fun c hc => by
    have := h.sub c hc
    rwa [allT_keys] at this
  have key : ∀ {l1 l2 : List Int}, l1.Nodup → (∀ x, x ∈ l1 → x ∈ l2) → l1.length ≤ l2.length := by
    intro l1
    induction l1 with
    | nil => intro l2 _ _; exact Nat.zero_le _
    | cons x xs ih =>
      intro l2 hn hs
      obtain ⟨h1, h2⟩ := List.nodup_cons.1 hn
      have hx := hs x (List.mem_cons_self ..)
      have := ih (l2 := l2.erase x) h2 (fun y hy => (List.mem_erase_of_ne (fun (e : y = x) => h1 (e ▸ hy))).2 (hs y (List.mem_cons_of_mem _ hy)))
      rw [List.length_erase_of_mem hx] at this
      have hp := List.length_pos_of_mem hx
      rw [List.length_cons]; omega
  have := key h.nodup hs
  unfold allT
  rw [List.length_map]; exact this
theorem iterI_all {w : World} {it b : Nat} {ks seen : List Int} (h : IterT keyI Value.bool w it b (allT ks) seen) (hd : ∀ p ∈ allT ks, p.1 ∈ seen) (x : Int) : x ∈ seen.reverse ↔ x ∈ ks := by
  rw [List.mem_reverse]
  refine ⟨fun hc => ?_, fun hc => hd (x, true) (List.mem_map.2 ⟨x, hc, rfl⟩)⟩
  have := h.sub x hc
  rwa [allT_keys] at this
theorem iterI_card {ns : List Nd} (h : Wf ns) {f : Nat} (hf : f < ns.length + 2) {w : World} {it b : Nat} {ks seen : List Int} (hi : IterT keyI Value.bool w it b (allT ks) seen) (hk : ∀ x, x ∈ ks ↔ ∃ y : Nat, y ∈ mems ns f ∧ x = (y : Int)) : seen.length ≤ (mems ns f).length := by
  have h1 : seen.Nodup := hi.nodup
  have h2 : (ofI seen).length = seen.length := ofI_nodup_len h1
  have h3 : ∀ x, x ∈ ofI seen → x ∈ srtM ns f := fun x hx => by
    have := hi.sub x (mem_ofI.1 hx)
    rw [allT_keys] at this
    exact mem_srtM.2 ((hk x).1 this)
  have key : ∀ {l1 l2 : List Int}, l1.Nodup → (∀ x, x ∈ l1 → x ∈ l2) → l1.length ≤ l2.length := by
    intro l1
    induction l1 with
    | nil => intro l2 _ _; exact Nat.zero_le _
    | cons x xs ih =>
      intro l2 hn hs
      obtain ⟨h1, h2⟩ := List.nodup_cons.1 hn
      have hx := hs x (List.mem_cons_self ..)
      have := ih (l2 := l2.erase x) h2 (fun y hy => (List.mem_erase_of_ne (fun (e : y = x) => h1 (e ▸ hy))).2 (hs y (List.mem_cons_of_mem _ hy)))
      rw [List.length_erase_of_mem hx] at this
      have hp := List.length_pos_of_mem hx
      rw [List.length_cons]; omega
  have h4 := key (inc_ofI seen).nodup h3
  rw [h2, srtM_len h hf] at h4
  exact h4
theorem told_all {ns : List Nd} {f : Nat} {ks : List Int} (h : Told ns f 0 [] ks) : ∀ x, x ∈ ks ↔ ∃ y : Nat, y ∈ mems ns f ∧ x = (y : Int) := fun x => by
  rw [h x]
  constructor
  · rintro (k | ⟨y, h1, h2⟩)
    · cases k
    · exact ⟨y, h1, by rw [Nat.zero_or] at h2; exact h2⟩
  · rintro ⟨y, h1, rfl⟩
    exact .inr ⟨y, h1, by rw [Nat.zero_or]⟩
end

section
open Go Go.RowKit

/-! ### Room enough -/
structure Fine (ns ns' : List Nd) (c : Nat) (S : Nat → Prop) (id : Nat) : Prop where
  v : id < ns'.length + 2
  mem : ∀ x, x ∈ mems ns' id ↔ S x
  pre : ns <+: ns'
  cost : ns'.length ≤ ns.length + c
theorem Got.fine {ns ns' : List Nd} {R c l : Nat} {S : Nat → Prop} {id : Nat} {er : Int} (g : Got ns ns' R c l S id er) (h : ns.length + c < R) : er = 0 ∧ Fine ns ns' c S id := by
  have hc := g.cost
  rcases g.res with ⟨h1, h2, h3, h4⟩ | ⟨_, _, h3⟩
  · exact ⟨h1, h2, h4, g.pre, hc⟩
  · omega
theorem Got.valid {ns ns' : List Nd} {R c l : Nat} {S : Nat → Prop} {id : Nat} {er : Int} (g : Got ns ns' R c l S id er) : id < ns'.length + 2 := by
  rcases g.res with ⟨_, h2, _⟩ | ⟨_, h2, _⟩ <;> omega
theorem Fine.old {ns ns' : List Nd} {c : Nat} {S : Nat → Prop} {id f : Nat} (g : Fine ns ns' c S id) (h : f < ns.length + 2) : f < ns'.length + 2 ∧ mems ns' f = mems ns f := ⟨by have := pre_len g.pre; omega, mems_pre g.pre h⟩
theorem card_bS {ns : List Nd} (h : Wf ns) {id : Nat} (hid : id < ns.length + 2) {l : List Int} (hm : ∀ x, x ∈ mems ns id ↔ bS l 0 x) : (mems ns id).length ≤ l.length := by
  have := nodupN_le (l2 := l.map Int.toNat) (mems_nodup h id hid) (fun x hx => by
    obtain ⟨m, h1, h2⟩ := (hm x).1 hx
    rw [clr_0] at h2
    exact List.mem_map.2 ⟨m, h1, h2.symm⟩)
  simpa using this
theorem card_app {ns ns' : List Nd} (h : Wf ns') {id a b : Nat} (hid : id < ns'.length + 2) (hs : ∀ x, x ∈ mems ns' id → x ∈ mems ns a ∨ x ∈ mems ns b) : (mems ns' id).length ≤ (mems ns a).length + (mems ns b).length := by
  have := nodupN_le (l2 := mems ns a ++ mems ns b) (mems_nodup h id hid) (fun x hx => List.mem_append.2 (hs x hx))
  rwa [List.length_append] at this
theorem tri_24 : tri 24 = 300 := rfl
theorem lc_le (k n N : Nat) (hk : k ≤ 24) (hn : n ≤ N) : lc k n ≤ 24 * N + 24 * (N * N) := Nat.add_le_add (Nat.mul_le_mul hk hn) (Nat.mul_le_mul hk (Nat.mul_le_mul hn hn))

/-! ### Slices whose block's type is known -/
def TyS (T : TypeId) (w : World) (v : Value) (l : List Int) : Prop := l ≠ [] → ∃ c fr, w.heap[slB v]? = some (.cells c T fr)
section
variable {T Ta Tn : TypeId} {N ba bm R : Nat} {w w' : World} {v : Value} {l : List Int} {ns : List Nd}
theorem TyS.own (h : OwT encI 1 T w N v l) : TyS T w v l := fun hne => by
  obtain ⟨h1, h2 | ⟨g, cap, cur, h3, hg, hh, r⟩⟩ := h
  · exact absurd (List.eq_nil_of_length_eq_zero h2.2) hne
  · subst h3
    exact ⟨_, _, hh⟩
theorem TyS.ext (h : Ext w w') (k : TyS T w v l) : TyS T w' v l := fun hne => by
  obtain ⟨c, fr, hc⟩ := k hne
  exact ⟨c, fr, by rw [Below.block h _ (lt_of_block hc)]; exact hc⟩
theorem TyS.blk (D : Dia Ta Tn N ba bm R w ns) (hx : Dx Tn N [ba, bm] w w') (k : TyS T w v l) (hTa : T ≠ Ta) (hTn : T ≠ Tn) (hne : l ≠ []) : w'.heap[slB v]? = w.heap[slB v]? := by
  obtain ⟨c, fr, hc⟩ := k hne
  obtain ⟨nv, h1, h2⟩ := D.out
  obtain ⟨f, ck, hf⟩ := D.hm
  refine hx.block _ (lt_of_block hc) (.inr ⟨?_, fun c' fr' e => ?_⟩)
  · have n1 : slB v ≠ ba := fun e => by
      have h3 : w.heap[ba]? = _ := h1
      rw [e, h3] at hc
      simp only [Option.some.injEq, Obj.cells.injEq] at hc
      exact hTa hc.2.1.symm
    have n2 : slB v ≠ bm := fun e => by rw [e, hf.heap] at hc; cases hc
    simp [n1, n2]
  · rw [hc] at e
    simp only [Option.some.injEq, Obj.cells.injEq] at e
    exact hTn e.2.1
theorem TyS.dx (D : Dia Ta Tn N ba bm R w ns) (hx : Dx Tn N [ba, bm] w w') (k : TyS T w v l) (hTa : T ≠ Ta) (hTn : T ≠ Tn) : TyS T w' v l := fun hne => by
  rw [TyS.blk D hx k hTa hTn hne]
  exact k hne
theorem SlT.dx (D : Dia Ta Tn N ba bm R w ns) (hx : Dx Tn N [ba, bm] w w') (k : TyS T w v l) (hs : SlT encI 1 w v l) (hTa : T ≠ Ta) (hTn : T ≠ Tn) : SlT encI 1 w' v l := by
  have hs' : Sl w 1 v l.length (l.flatMap encI) := hs
  refine ⟨hs'.form, hs'.len, fun j u hu => ?_⟩
  have hne : l ≠ [] := fun e => by subst e; simp at hu
  have h1 := hs'.cell j u hu
  have e := TyS.blk D hx k hTa hTn hne
  unfold World.cell? at h1 ⊢
  rw [e]; exact h1
theorem TyS.part (k : TyS T w v l) (hs : SlT encI 1 w v l) {i j m : Nat} {l2 : List Int} (hj : j ≤ m) (hl : l2.length = j - i) (hl0 : l2 ≠ [] → l ≠ []) : TyS T w (slOf 1 v i j m) l2 := fun hne => by
  obtain ⟨c, fr, hc⟩ := k (hl0 hne)
  have hpos : 0 < l2.length := List.length_pos_iff.2 hne
  have hmi : ¬ m = i := by omega
  obtain ⟨hv, hn, h0, ha⟩ := Sl.eqv hs
  cases hA : slA v with
  | none =>
    have := h0 hA
    have : l = [] := List.eq_nil_of_length_eq_zero (by omega)
    exact absurd this (hl0 hne)
  | some a =>
    have hb : slB (slOf 1 v i j m) = slB v := by
      have e1 : slB v = a.block := by rw [hv, hA]; rfl
      rw [e1]
      unfold slOf
      rw [if_neg hmi, hA]
      show (a.add (i * 1)).block = a.block
      unfold Addr.add
      split <;> rfl
    rw [hb]
    exact ⟨c, fr, hc⟩
end

/-! ### The document's rows -/
theorem may_dec {m : Int} : decide (0 ≤ m ∧ m < 16777216) = decide (0 ≤ m ∧ m < 16777216) := rfl
def mayTo (l : List Int) (k : Nat) : Bool := ofZB (l.take k)
theorem mayTo_s {l : List Int} {k : Nat} (h : k < l.length) : mayTo l (k + 1) = (mayTo l k && decide (0 ≤ l.getD k 0 ∧ l.getD k 0 < 16777216)) := by
  unfold mayTo ofZB
  rw [take_s h, List.all_append]
  simp
theorem mayTo_t {l : List Int} {k : Nat} (h : k < l.length) (hm : mayTo l k = true) : decide (0 ≤ l.getD k 0 ∧ l.getD k 0 < 16777216) = mayTo l (k + 1) := by rw [mayTo_s h, hm, Bool.true_and]
theorem mayTo_f {l : List Int} {k : Nat} (h : k < l.length) (hm : mayTo l k = false) : false = mayTo l (k + 1) := by rw [mayTo_s h, hm]; rfl
theorem mayTo_0 (l : List Int) : true = mayTo l 0 := rfl
theorem mayTo_e {l : List Int} {k : Nat} (h : k = l.length) : mayTo l k = ofZB l := by unfold mayTo; rw [h, List.take_length]
theorem and_t {a b c : Bool} (h : (a && b) = true) (k : c = (a && true)) : True := trivial
def pickI (F G : List Int) (b : Bool) : List Int := F.filter fun x => decide (x ∈ G) == b
def pickTo (F G : List Int) (b : Bool) (k : Nat) : List Int := (F.take k).filter fun x => decide (x ∈ G) == b
theorem pick_t {F G : List Int} {b : Bool} {k : Nat} (hk : k < F.length) (h : decide (F.getD k 0 ∈ G) = b) : pickTo F G b k ++ [F.getD k 0] = pickTo F G b (k + 1) := by
  unfold pickTo
  rw [take_s hk, List.filter_append]
  simp only [List.filter_cons, List.filter_nil, h, beq_self_eq_true, if_true]
theorem pick_f {F G : List Int} {b : Bool} {k : Nat} (hk : k < F.length) (h : ¬ decide (F.getD k 0 ∈ G) = b) : pickTo F G b k = pickTo F G b (k + 1) := by
  unfold pickTo
  rw [take_s hk, List.filter_append]
  have : (decide (F.getD k 0 ∈ G) == b) = false := by simpa using h
  simp only [List.filter_cons, List.filter_nil, this]
  simp
theorem pick_e (F G : List Int) (b : Bool) : pickTo F G b F.length = pickI F G b := by unfold pickTo pickI; rw [List.take_length]
theorem pickTo_len (F G : List Int) (b : Bool) (k : Nat) : (pickTo F G b k).length ≤ k := Nat.le_trans (List.length_filter_le _ _) (by rw [List.length_take]; omega)
theorem inc_filter {l : List Int} (h : Inc l) (p : Int → Bool) : Inc (l.filter p) := List.Pairwise.filter p h
theorem has_t {l : List Int} {m : Int} {k : Nat} (hk : k < l.length) (h : l.getD k 0 = m) : Value.bool true = .bool (decide (m ∈ l)) := vbt (decide_eq_true (h ▸ getD_mem hk))
theorem has_f {l : List Int} {m : Int} {k : Nat} (hk : k = l.length) (h : ∀ q, q < k → ¬ l.getD q 0 = m) : Value.bool false = .bool (decide (m ∈ l)) := vbf fun hm => by
  obtain ⟨j, hj, e⟩ := List.getElem_of_mem (of_decide_eq_true hm)
  refine h j (by omega) ?_
  rw [List.getD_eq_getElem?_getD, List.getElem?_eq_getElem hj]; exact e
theorem half_s (m i : Nat) : m / 2 ^ i / 2 = m / 2 ^ (i + 1) := by rw [Nat.div_div_eq_div_mul, Nat.pow_succ]
theorem bit_rem (m i : Nat) : Value.bool (decide (((m / 2 ^ i % 2 : Nat) : Int) = 1)) = .bool (m.testBit i) := congrArg Value.bool (by
  rw [Nat.testBit_eq_decide_div_mod_eq]
  by_cases h : m / 2 ^ i % 2 = 1
  · rw [decide_eq_true h, decide_eq_true (by omega)]
  · rw [decide_eq_false h, decide_eq_false (by omega)])
theorem both_s (n i : Nat) : n % 2 ^ (i + 1) = n % 2 ^ i + (if n.testBit i then 2 ^ i else 0) := by
  rw [Nat.mod_pow_succ, Nat.testBit_eq_decide_div_mod_eq]
  by_cases h : n / 2 ^ i % 2 = 1
  · rw [h, if_pos (decide_eq_true rfl), Nat.mul_one]
  · rw [show n / 2 ^ i % 2 = 0 by omega, if_neg (by decide)]; omega
theorem both_t {a b i : Nat} (h : a.testBit i = true ∨ b.testBit i = true) : (((a ||| b) % 2 ^ i : Nat) : Int) + ((2 ^ i : Nat) : Int) = (((a ||| b) % 2 ^ (i + 1) : Nat) : Int) := by
  have e : (a ||| b).testBit i = true := by rw [Nat.testBit_or]; rcases h with h | h <;> simp [h]
  rw [both_s, if_pos e]; omega
theorem both_f {a b i : Nat} (h : a.testBit i = false) (k : b.testBit i = false) : (((a ||| b) % 2 ^ i : Nat) : Int) = (((a ||| b) % 2 ^ (i + 1) : Nat) : Int) := by
  have e : (a ||| b).testBit i = false := by rw [Nat.testBit_or, h, k]; rfl
  rw [both_s, if_neg (by rw [e]; decide)]; omega
theorem both_e {a b i : Nat} (hi : i = 24) (ha : a < 16777216) (hb : b < 16777216) : (a ||| b) % 2 ^ i = a ||| b := by
  subst hi
  exact Nat.mod_eq_of_lt (Nat.or_lt_two_pow (n := 24) ha hb)
theorem pow_le24 {i : Nat} (h : i ≤ 24) : 2 ^ i ≤ 16777216 := Nat.pow_le_pow_right (by decide) h
theorem pow_s (i : Nat) : ((2 ^ i : Nat) : Int) * 2 = ((2 ^ (i + 1) : Nat) : Int) := by rw [Nat.pow_succ]; omega
theorem pow_s2 (i : Nat) : 2 * ((2 ^ i : Nat) : Int) = ((2 ^ (i + 1) : Nat) : Int) := by rw [Nat.pow_succ]; omega
def partI (l : List Int) (j : Nat) (wi : Bool) : List Int := l.filterMap fun m => if m.toNat.testBit j then (if wi then some (m - ((2 ^ j : Nat) : Int)) else none) else (if wi then none else some m)
def partTo (l : List Int) (j : Nat) (wi : Bool) (k : Nat) : List Int := partI (l.take k) j wi
theorem part_s {l : List Int} {j : Nat} {wi : Bool} {k : Nat} (hk : k < l.length) : partTo l j wi (k + 1) = partTo l j wi k ++ partI [l.getD k 0] j wi := by
  unfold partTo
  rw [take_s hk]
  unfold partI
  rw [List.filterMap_append]
theorem part_1 {l : List Int} {j k : Nat} (hk : k < l.length) (h : (l.getD k 0).toNat.testBit j = true) : partTo l j true k ++ [l.getD k 0 - ((2 ^ j : Nat) : Int)] = partTo l j true (k + 1) ∧ partTo l j false k = partTo l j false (k + 1) := by
  rw [part_s hk, part_s hk]
  unfold partI
  simp only [List.filterMap_cons, List.filterMap_nil, h, if_true]
  simp
theorem part_2 {l : List Int} {j k : Nat} (hk : k < l.length) (h : (l.getD k 0).toNat.testBit j = false) : partTo l j true k = partTo l j true (k + 1) ∧ partTo l j false k ++ [l.getD k 0] = partTo l j false (k + 1) := by
  rw [part_s hk, part_s hk]
  unfold partI
  simp only [List.filterMap_cons, List.filterMap_nil, h]
  simp
theorem partTo_len (l : List Int) (j : Nat) (wi : Bool) (k : Nat) : (partTo l j wi k).length ≤ k := by
  unfold partTo partI
  refine Nat.le_trans (List.length_filterMap_le _ _) ?_
  rw [List.length_take]; omega
theorem part_e (l : List Int) (j : Nat) (wi : Bool) : partTo l j wi l.length = partI l j wi := by unfold partTo; rw [List.take_length]
theorem mem_partI {l : List Int} {j : Nat} {wi : Bool} {x : Int} : x ∈ partI l j wi ↔ ∃ m, m ∈ l ∧ ((wi = true ∧ m.toNat.testBit j = true ∧ x = m - ((2 ^ j : Nat) : Int)) ∨ (wi = false ∧ m.toNat.testBit j = false ∧ x = m)) := by
  unfold partI
  rw [List.mem_filterMap]
  constructor
  · rintro ⟨m, h1, h2⟩
    refine ⟨m, h1, ?_⟩
    cases hb : m.toNat.testBit j <;> cases wi <;> simp [hb] at h2 <;> simp [h2]
  · rintro ⟨m, h1, h | h⟩
    · obtain ⟨rfl, hb, rfl⟩ := h
      exact ⟨m, h1, by simp [hb]⟩
    · obtain ⟨rfl, hb, rfl⟩ := h
      exact ⟨x, h1, by simp [hb]⟩
theorem inc_partI {l : List Int} (h : Inc l) (j : Nat) (wi : Bool) : Inc (partI l j wi) := by
  unfold partI
  refine List.Pairwise.filterMap _ (fun a b hab x hx y hy => ?_) h
  cases ha : a.toNat.testBit j <;> cases hb : b.toNat.testBit j <;> cases wi <;> simp [ha, hb] at hx hy <;> omega
/-- Is the i-th the least of the first k others? -/
def leB (l : List Int) (i k : Nat) : Bool := (List.range k).all fun q => decide (q = i) || !decide (((l.getD i 0).toNat ||| (l.getD q 0).toNat : Nat) = (l.getD i 0).toNat)
theorem leB_s (l : List Int) (i k : Nat) : leB l i (k + 1) = (leB l i k && (decide (k = i) || !decide (((l.getD i 0).toNat ||| (l.getD k 0).toNat : Nat) = (l.getD i 0).toNat))) := by
  unfold leB
  rw [List.range_succ, List.all_append]
  simp
def leastTo (l : List Int) (k : Nat) : List Int := ((List.range k).filter fun i => leB l i l.length).map fun i => l.getD i 0
theorem least_t {l : List Int} {k : Nat} (h : leB l k l.length = true) : leastTo l k ++ [l.getD k 0] = leastTo l (k + 1) := by
  unfold leastTo
  rw [List.range_succ, List.filter_append, List.map_append]
  simp [h]
theorem least_f {l : List Int} {k : Nat} (h : leB l k l.length = false) : leastTo l k = leastTo l (k + 1) := by
  unfold leastTo
  rw [List.range_succ, List.filter_append, List.map_append]
  simp [h]
theorem leastTo_len (l : List Int) (k : Nat) : (leastTo l k).length ≤ k := by
  unfold leastTo
  rw [List.length_map]
  exact Nat.le_trans (List.length_filter_le _ _) (by simp)

theorem prt_1 {l : List Int} {j k : Nat} {wi : Bool} (hk : k < l.length) (h : (l.getD k 0).toNat.testBit j = true) (hw : wi = true) : partTo l j wi k ++ [l.getD k 0 - ((2 ^ j : Nat) : Int)] = partTo l j wi (k + 1) := by subst hw; exact (part_1 hk h).1
theorem prt_2 {l : List Int} {j k : Nat} {wi : Bool} (hk : k < l.length) (h : (l.getD k 0).toNat.testBit j = true) (hw : wi = false) : partTo l j wi k = partTo l j wi (k + 1) := by subst hw; exact (part_1 hk h).2
theorem prt_3 {l : List Int} {j k : Nat} {wi : Bool} (hk : k < l.length) (h : (l.getD k 0).toNat.testBit j = false) (hw : (!wi) = true) : partTo l j wi k ++ [l.getD k 0] = partTo l j wi (k + 1) := by
  cases wi with
  | true => cases hw
  | false => exact (part_2 hk h).2
theorem prt_4 {l : List Int} {j k : Nat} {wi : Bool} (hk : k < l.length) (h : (l.getD k 0).toNat.testBit j = false) (hw : (!wi) = false) : partTo l j wi k = partTo l j wi (k + 1) := by
  cases wi with
  | true => exact (part_2 hk h).1
  | false => cases hw
theorem le_e {l : List Int} {i k : Nat} (h : ¬ ¬ (k : Int) = (i : Int)) : Value.bool (leB l i k) = .bool (leB l i (k + 1)) := by
  have : k = i := by have := Decidable.of_not_not h; omega
  rw [leB_s, decide_eq_true this, Bool.true_or, Bool.and_true]
theorem le_t {l : List Int} {i k : Nat} (h : ¬ (k : Int) = (i : Int)) (h0 : 0 ≤ l.getD i 0) (hx : (((l.getD i 0).toNat ||| (l.getD k 0).toNat : Nat) : Int) = l.getD i 0) : Value.bool false = .bool (leB l i (k + 1)) := by
  rw [leB_s, decide_eq_false (show ¬ k = i by omega), decide_eq_true (show ((l.getD i 0).toNat ||| (l.getD k 0).toNat : Nat) = (l.getD i 0).toNat by omega)]
  simp
theorem le_f {l : List Int} {i k : Nat} (h : ¬ (k : Int) = (i : Int)) (h0 : 0 ≤ l.getD i 0) (hx : ¬ (((l.getD i 0).toNat ||| (l.getD k 0).toNat : Nat) : Int) = l.getD i 0) : Value.bool (leB l i k) = .bool (leB l i (k + 1)) := by
  rw [leB_s, decide_eq_false (show ¬ k = i by omega), decide_eq_false (show ¬ ((l.getD i 0).toNat ||| (l.getD k 0).toNat : Nat) = (l.getD i 0).toNat by omega)]
  simp
theorem with_new {l : List Int} {m : Int} {k : Nat} (hk : k ≤ l.length) (h1 : ∀ q, q < k → l.getD q 0 < m) (h2 : k < l.length → ¬ l.getD k 0 < m ∧ ¬ l.getD k 0 = m) : (([] ++ (l.drop 0).take (k - 0)) ++ [m]) ++ (l.drop k).take (l.length - k) = withI l m := by
  rw [← with_at l k hk h1 h2, List.drop_zero, Nat.sub_zero, List.nil_append, List.take_of_length_le (l := l.drop k) (by simp)]

/-! ### Rows and families -/
theorem srt_of {ns : List Nd} {a : Nat} {f : List Int} (hf : ofZB f = true) (hm : ∀ x, x ∈ mems ns a ↔ bS f 0 x) : srtM ns a = ofI f := by
  unfold srtM
  refine ofI_eq (inc_ofI _) fun x => ?_
  rw [mem_ofI, List.mem_map]
  have h0 := ofB_iff.1 hf
  constructor
  · rintro ⟨y, hy, rfl⟩
    obtain ⟨m, h1, h2⟩ := (hm y).1 hy
    rw [clr_0] at h2
    have := h0 m h1
    rw [h2, Int.toNat_of_nonneg this.1]; exact h1
  · intro h
    have := h0 x h
    exact ⟨x.toNat, (hm _).2 ⟨x, h, (clr_0 _).symm⟩, Int.toNat_of_nonneg this.1⟩
theorem inc_srtM (ns : List Nd) (a : Nat) : Inc (srtM ns a) := inc_ofI _
theorem srt_un {ns ns' : List Nd} {a b u : Nat} {f g : List Int} (ha : srtM ns a = ofI f) (hb : srtM ns b = ofI g) (hu : ∀ x, x ∈ mems ns' u ↔ opU.res (M ns a) (M ns b) x) : srtM ns' u = ofI (f ++ g) := ofI_eq (inc_srtM _ _) fun x => by
  rw [List.mem_append, ← mem_ofI (l := f), ← mem_ofI (l := g), ← ha, ← hb, mem_srtM, mem_srtM, mem_srtM]
  constructor
  · rintro ⟨y, hy, rfl⟩
    exact ((hu y).1 hy).imp (fun h => ⟨y, h, rfl⟩) (fun h => ⟨y, h, rfl⟩)
  · rintro (⟨y, hy, rfl⟩ | ⟨y, hy, rfl⟩)
    · exact ⟨y, (hu y).2 (.inl hy), rfl⟩
    · exact ⟨y, (hu y).2 (.inr hy), rfl⟩
theorem nat_in {ns : List Nd} {b y : Nat} : ((y : Nat) : Int) ∈ srtM ns b ↔ y ∈ mems ns b := by
  rw [mem_srtM]
  exact ⟨fun ⟨z, h1, h2⟩ => by rw [show y = z by omega]; exact h1, fun h => ⟨y, h, rfl⟩⟩
theorem srt_me {ns ns' : List Nd} {a b u : Nat} {F G : List Int} (ha : srtM ns a = F) (hb : srtM ns b = G) (hu : ∀ x, x ∈ mems ns' u ↔ opM.res (M ns a) (M ns b) x) : srtM ns' u = pickI F G true := by
  subst ha hb
  refine inc_ext (inc_srtM _ _) (inc_filter (inc_srtM _ _) _) fun x => ?_
  unfold pickI
  rw [List.mem_filter, mem_srtM]
  constructor
  · rintro ⟨y, hy, rfl⟩
    obtain ⟨h1, h2⟩ := (hu y).1 hy
    exact ⟨nat_in.2 h1, by rw [decide_eq_true (nat_in.2 h2)]; rfl⟩
  · rintro ⟨h1, h2⟩
    obtain ⟨y, hy, rfl⟩ := mem_srtM.1 h1
    have h3 : ((y : Nat) : Int) ∈ srtM ns b := by simpa using h2
    exact ⟨y, (hu y).2 ⟨hy, nat_in.1 h3⟩, rfl⟩
theorem srt_le {ns ns' : List Nd} {a b u : Nat} {F G : List Int} (ha : srtM ns a = F) (hb : srtM ns b = G) (hu : ∀ x, x ∈ mems ns' u ↔ opL.res (M ns a) (M ns b) x) : srtM ns' u = pickI F G false := by
  subst ha hb
  refine inc_ext (inc_srtM _ _) (inc_filter (inc_srtM _ _) _) fun x => ?_
  unfold pickI
  rw [List.mem_filter, mem_srtM]
  constructor
  · rintro ⟨y, hy, rfl⟩
    obtain ⟨h1, h2⟩ := (hu y).1 hy
    exact ⟨nat_in.2 h1, by rw [decide_eq_false (fun k => h2 (nat_in.1 k))]; rfl⟩
  · rintro ⟨h1, h2⟩
    obtain ⟨y, hy, rfl⟩ := mem_srtM.1 h1
    have h3 : ¬ ((y : Nat) : Int) ∈ srtM ns b := by simpa using h2
    exact ⟨y, (hu y).2 ⟨hy, fun k => h3 (nat_in.2 k)⟩, rfl⟩
theorem srt_pa {ns ns' : List Nd} {a u j : Nat} {wi : Bool} {F : List Int} (ha : srtM ns a = F) (hu : ∀ x, x ∈ mems ns' u ↔ pS wi j (M ns a) x) : srtM ns' u = partI F j wi := by
  subst ha
  refine inc_ext (inc_srtM _ _) (inc_partI (inc_srtM _ _) _ _) fun x => ?_
  rw [mem_srtM, mem_partI]
  constructor
  · rintro ⟨y, hy, rfl⟩
    have h := (hu y).1 hy
    cases wi with
    | true =>
      have h1 : M ns a (y + 2 ^ j) ∧ (y + 2 ^ j).testBit j = true := h
      exact ⟨((y + 2 ^ j : Nat) : Int), nat_in.2 h1.1, .inl ⟨rfl, by rw [Int.toNat_natCast]; exact h1.2, by omega⟩⟩
    | false =>
      have h1 : M ns a y ∧ y.testBit j = false := h
      exact ⟨((y : Nat) : Int), nat_in.2 h1.1, .inr ⟨rfl, by rw [Int.toNat_natCast]; exact h1.2, rfl⟩⟩
  · rintro ⟨m, hm, h | h⟩
    · obtain ⟨rfl, hb, rfl⟩ := h
      obtain ⟨z, hz, rfl⟩ := mem_srtM.1 hm
      rw [Int.toNat_natCast] at hb
      have hle := bit_sub hb
      refine ⟨z - 2 ^ j, (hu _).2 ?_, by omega⟩
      exact ⟨by rw [Nat.sub_add_cancel hle]; exact hz, by rw [Nat.sub_add_cancel hle]; exact hb⟩
    · obtain ⟨rfl, hb, rfl⟩ := h
      obtain ⟨z, hz, rfl⟩ := mem_srtM.1 hm
      rw [Int.toNat_natCast] at hb
      exact ⟨z, (hu _).2 ⟨hz, hb⟩, rfl⟩
theorem srt_ls {ns ns' : List Nd} {a u : Nat} {F : List Int} (ha : srtM ns a = F) (hu : ∀ x, x ∈ mems ns' u ↔ lsS (M ns a) x) : srtM ns' u = leastTo F F.length := by
  subst ha
  have hi := inc_srtM ns a
  have hil : Inc (leastTo (srtM ns a) (srtM ns a).length) := by
    unfold leastTo
    rw [Inc, List.pairwise_map]
    refine List.Pairwise.filter _ ?_
    refine List.Pairwise.imp_of_mem (fun {i k} h1 h2 h3 => ?_) List.pairwise_lt_range
    have h4 := List.mem_range.1 h1
    have h5 := List.mem_range.1 h2
    have := List.pairwise_iff_getElem.1 hi i k h4 h5 h3
    rw [List.getD_eq_getElem?_getD, List.getD_eq_getElem?_getD, List.getElem?_eq_getElem h4, List.getElem?_eq_getElem h5]
    exact this
  refine inc_ext (inc_srtM _ _) hil fun x => ?_
  unfold leastTo
  rw [mem_srtM, List.mem_map]
  have hg : ∀ q, q < (srtM ns a).length → ∃ z : Nat, z ∈ mems ns a ∧ (srtM ns a).getD q 0 = (z : Int) := fun q hq => mem_srtM.1 (getD_mem hq)
  constructor
  · rintro ⟨y, hy, rfl⟩
    obtain ⟨h1, h2⟩ := (hu y).1 hy
    obtain ⟨i, hi2, e⟩ := List.getElem_of_mem (nat_in.2 h1)
    have e2 : (srtM ns a).getD i 0 = (y : Int) := by rw [List.getD_eq_getElem?_getD, List.getElem?_eq_getElem hi2]; exact e
    refine ⟨i, List.mem_filter.2 ⟨List.mem_range.2 hi2, ?_⟩, e2⟩
    unfold leB
    rw [List.all_eq_true]
    intro q hq
    have hq := List.mem_range.1 hq
    obtain ⟨z, hz, ez⟩ := hg q hq
    by_cases hqi : q = i
    · rw [decide_eq_true hqi]; rfl
    · rw [decide_eq_false hqi, Bool.false_or, e2, ez, Int.toNat_natCast, Int.toNat_natCast]
      rw [decide_eq_false]
      · rfl
      · intro hh
        have h3 := h2 z hz hh
        subst h3
        have hne := hi.nodup
        have : (srtM ns a)[q] = (srtM ns a)[i] := by
          rw [List.getD_eq_getElem?_getD, List.getElem?_eq_getElem hq] at ez
          exact (show (srtM ns a)[q] = (z : Int) from ez).trans e.symm
        exact hqi ((List.getElem_inj hne).1 this)
  · rintro ⟨i, h, rfl⟩
    obtain ⟨h1, h2⟩ := List.mem_filter.1 h
    have h1 := List.mem_range.1 h1
    obtain ⟨y, hy, ey⟩ := hg i h1
    refine ⟨y, (hu y).2 ⟨hy, fun z hz hh => ?_⟩, ey⟩
    obtain ⟨q, hq, e⟩ := List.getElem_of_mem (nat_in.2 hz)
    have e2 : (srtM ns a).getD q 0 = (z : Int) := by rw [List.getD_eq_getElem?_getD, List.getElem?_eq_getElem hq]; exact e
    unfold leB at h2
    have h3 := List.all_eq_true.1 h2 q (List.mem_range.2 hq)
    rw [ey, e2, Int.toNat_natCast, Int.toNat_natCast, Bool.or_eq_true] at h3
    rcases h3 with h3 | h3
    · have := of_decide_eq_true h3
      subst this
      rw [ey] at e2; omega
    · have : ¬ (y ||| z : Nat) = y := by simpa using h3
      exact absurd hh this
theorem same_ids {ns : List Nd} (h : Wf ns) {a b : Nat} (ha : a < ns.length + 2) (hb : b < ns.length + 2) : decide ((a : Int) = (b : Int)) = decide (srtM ns a = srtM ns b) := by
  by_cases e : a = b
  · subst e; rw [decide_eq_true rfl, decide_eq_true rfl]
  · rw [decide_eq_false (by omega), decide_eq_false]
    intro hs
    exact e (one_id h a ha b hb fun x => by rw [← nat_in, ← nat_in, hs])
end

section
open Go Go.RowKit

structure Is (ns : List Nd) (a : Nat) (F : List Int) : Prop where
  v : a < ns.length + 2
  s : srtM ns a = F
section
variable {ns ns' : List Nd} {a b id R c l : Nat} {A B f g : List Int} {er : Int}
theorem Is.pre (h : Is ns a A) (p : ns <+: ns') : Is ns' a A := by
  have e := h.s
  refine ⟨by have := pre_len p; have := h.v; omega, ?_⟩
  unfold srtM at e ⊢
  rw [mems_pre p h.v]
  exact e
theorem Is.len (h : Is ns a A) (hw : Wf ns) : (mems ns a).length = A.length := by rw [← h.s, srtM_len hw h.v]
theorem Is.cnt (h : Is ns a A) (hw : Wf ns) : cntI ns (a : Int) = (A.length : Int) := by
  rw [← h.len hw]
  exact cntI_nat h.v
theorem Is.inc (h : Is ns a A) : Inc A := by rw [← h.s]; exact inc_srtM _ _
theorem Is.same (h : Is ns a A) (k : Is ns b B) (hw : Wf ns) : decide ((a : Int) = (b : Int)) = decide (A = B) := by rw [same_ids hw h.v k.v, h.s, k.s]
theorem Is.eq (h : Is ns a A) (k : Is ns b B) (hw : Wf ns) (e : A = B) : (a : Int) = (b : Int) := of_decide_eq_true (by rw [h.same k hw]; exact decide_eq_true e)
theorem Is.ofS (hv : id < ns'.length + 2) (hA : Inc A) (h : ∀ x : Int, (∃ y : Nat, y ∈ mems ns' id ∧ x = (y : Int)) ↔ x ∈ A) : Is ns' id A := ⟨hv, inc_ext (inc_srtM _ _) hA fun x => by rw [mem_srtM]; exact h x⟩
theorem Is.item (h : Is ns a A) : ∀ x, x ∈ A → 0 ≤ x := fun x hx => by
  rw [← h.s] at hx
  obtain ⟨y, _, rfl⟩ := mem_srtM.1 hx
  omega
theorem nat_mem (h : Is ns a A) {y : Nat} : ((y : Nat) : Int) ∈ A ↔ M ns a y := by rw [← h.s]; exact nat_in
theorem Fine.of (q : Fine ns ns' c (bS f 0) id) (hf : ofZB f = true) : Is ns' id (ofI f) := ⟨q.v, srt_of hf q.mem⟩
theorem Fine.un (q : Fine ns ns' c (opU.res (M ns a) (M ns b)) id) (ha : Is ns a A) (hb : Is ns b B) : Is ns' id (ofI (A ++ B)) := Is.ofS q.v (inc_ofI _) fun x => by
  rw [mem_ofI, List.mem_append]
  constructor
  · rintro ⟨y, hy, rfl⟩
    rw [nat_mem ha, nat_mem hb]
    exact (q.mem y).1 hy
  · intro h
    obtain ⟨y, rfl⟩ := Int.eq_ofNat_of_zero_le (h.elim (ha.item x) (hb.item x))
    rw [nat_mem ha, nat_mem hb] at h
    exact ⟨y, (q.mem y).2 h, rfl⟩
theorem Fine.me (q : Fine ns ns' c (opM.res (M ns a) (M ns b)) id) (ha : Is ns a A) (hb : Is ns b B) : Is ns' id (pickI A B true) := ⟨q.v, srt_me ha.s hb.s q.mem⟩
theorem Fine.le (q : Fine ns ns' c (opL.res (M ns a) (M ns b)) id) (ha : Is ns a A) (hb : Is ns b B) : Is ns' id (pickI A B false) := ⟨q.v, srt_le ha.s hb.s q.mem⟩
theorem Fine.pa {wi : Bool} {j : Nat} (q : Fine ns ns' c (pS wi j (M ns a)) id) (ha : Is ns a A) : Is ns' id (partI A j wi) := ⟨q.v, srt_pa ha.s q.mem⟩
theorem Fine.ls (q : Fine ns ns' c (lsS (M ns a)) id) (ha : Is ns a A) : Is ns' id (leastTo A A.length) := ⟨q.v, srt_ls ha.s q.mem⟩
def joI (x y : Int) : Int := ((x.toNat ||| y.toNat : Nat) : Int)
def allJ (A B : List Int) : List Int := A.flatMap fun x => B.map (joI x)
def allJT (A B : List Int) (i k : Nat) : List Int := allJ (A.take i) B ++ (B.take k).map (joI (A.getD i 0))
theorem mem_allJ {x : Int} : x ∈ allJ A B ↔ ∃ p, p ∈ A ∧ ∃ q, q ∈ B ∧ x = joI p q := by
  unfold allJ
  rw [List.mem_flatMap]
  refine exists_congr fun p => and_congr_right fun _ => ?_
  rw [List.mem_map]
  exact ⟨fun ⟨q, h1, h2⟩ => ⟨q, h1, h2.symm⟩, fun ⟨q, h1, h2⟩ => ⟨q, h1, h2.symm⟩⟩
theorem Fine.jo (q : Fine ns ns' c (opJ.res (M ns a) (M ns b)) id) (ha : Is ns a A) (hb : Is ns b B) : Is ns' id (ofI (allJ A B)) := Is.ofS q.v (inc_ofI _) fun x => by
  rw [mem_ofI, mem_allJ]
  constructor
  · rintro ⟨y, hy, rfl⟩
    obtain ⟨s, t, hs, ht, rfl⟩ := (q.mem y).1 hy
    exact ⟨(s : Int), (nat_mem ha).2 hs, (t : Int), (nat_mem hb).2 ht, rfl⟩
  · rintro ⟨p, hp, r, hr, rfl⟩
    obtain ⟨s, rfl⟩ := Int.eq_ofNat_of_zero_le (ha.item p hp)
    obtain ⟨t, rfl⟩ := Int.eq_ofNat_of_zero_le (hb.item r hr)
    exact ⟨s ||| t, (q.mem _).2 ⟨s, t, (nat_mem ha).1 hp, (nat_mem hb).1 hr, rfl⟩, rfl⟩
theorem ofI_snoc (l : List Int) (x : Int) : withI (ofI l) x = ofI (l ++ [x]) := ofI_eq (inc_withI (inc_ofI l)) fun y => by rw [mem_withI, mem_ofI, List.mem_append, List.mem_singleton]
theorem allJT_s {i k : Nat} (hk : k < B.length) : withI (ofI (allJT A B i k)) (joI (A.getD i 0) (B.getD k 0)) = ofI (allJT A B i (k + 1)) := by
  rw [ofI_snoc]
  unfold allJT
  rw [take_s hk, List.map_append, List.append_assoc]
  rfl
theorem allJT_r {i : Nat} (hi : i < A.length) : allJT A B i B.length = allJT A B (i + 1) 0 := by
  unfold allJT allJ
  rw [List.take_length, take_s hi, List.flatMap_append, List.take_zero]
  simp
theorem allJT_e : allJT A B A.length 0 = allJ A B := by
  unfold allJT
  rw [List.take_length, List.take_zero]
  simp
theorem allJT_len (i k : Nat) (hi : i ≤ 6) (hk : k ≤ 6) (hA : A.length ≤ 6) (hB : B.length ≤ 6) : (ofI (allJT A B i k)).length ≤ 1000 := by
  have h1 := ofI_len (allJT A B i k)
  have h2 : ∀ n, ∀ L : List Int, L.length ≤ n → (allJ L B).length ≤ 6 * n := by
    intro n
    induction n with
    | zero => intro L hL; rw [List.eq_nil_of_length_eq_zero (Nat.le_zero.1 hL)]; simp [allJ]
    | succ n ih =>
      intro L hL
      cases L with
      | nil => simp [allJ]
      | cons x L =>
        have := ih L (by simpa using hL)
        have e : (allJ (x :: L) B).length = B.length + (allJ L B).length := by simp [allJ]
        rw [e]; omega
  have h3 := h2 6 (A.take i) (by rw [List.length_take]; omega)
  unfold allJT at h1 ⊢
  rw [List.length_append, List.length_map, List.length_take] at h1
  omega
theorem allJ_of (f g : List Int) : ofI (allJ (ofI f) (ofI g)) = ofI (allJ f g) := ofI_eq (inc_ofI _) fun x => by
  rw [mem_ofI, mem_allJ, mem_allJ]
  simp only [mem_ofI]
theorem ofI_app2 (f g : List Int) : ofI (ofI f ++ ofI g) = ofI (f ++ g) := ofI_eq (inc_ofI _) fun x => by
  rw [mem_ofI, List.mem_append, List.mem_append, mem_ofI, mem_ofI]
theorem ofI_inc (h : Inc A) : ofI A = A := (ofI_eq h fun _ => Iff.rfl).symm
theorem app_comm (A B : List Int) : ofI (A ++ B) = ofI (B ++ A) := ofI_eq (inc_ofI _) fun x => by
  rw [mem_ofI, List.mem_append, List.mem_append]
  exact Or.comm
theorem mem_pickI {x : Int} {t : Bool} : x ∈ pickI A B t ↔ x ∈ A ∧ (decide (x ∈ B) = t) := by
  unfold pickI
  rw [List.mem_filter, beq_iff_eq]
theorem pick_both (h : Inc A) : ofI (pickI A B false ++ pickI A B true) = A := (ofI_eq h fun x => by
  rw [List.mem_append, mem_pickI, mem_pickI]
  cases decide (x ∈ B) <;> simp).symm
theorem pick_un : ofI (A ++ pickI B A false) = ofI (A ++ B) := ofI_eq (inc_ofI _) fun x => by
  rw [mem_ofI, List.mem_append, List.mem_append, mem_pickI]
  by_cases h : x ∈ A <;> simp [h]
theorem pickI_len (A B : List Int) (t : Bool) : (pickI A B t).length ≤ A.length := List.length_filter_le _ _
theorem partI_len (A : List Int) (j : Nat) (t : Bool) : (partI A j t).length ≤ A.length := List.length_filterMap_le _ _
theorem leastTo_le (A : List Int) : (leastTo A A.length).length ≤ A.length := leastTo_len _ _
theorem sub_bit {n j i : Nat} (h : n.testBit j = true) (hi : ¬ i = j) : (n - 2 ^ j).testBit i = n.testBit i := by
  have h1 : n / 2 ^ j % 2 = 1 := by simpa [Nat.testBit_eq_decide_div_mod_eq] using h
  have hy := Nat.mod_lt n (Nat.two_pow_pos j)
  obtain ⟨x, hx⟩ : ∃ x, n / 2 ^ j = 2 * x + 1 := ⟨n / 2 ^ j / 2, by omega⟩
  have e1 : n = 2 ^ j * (2 * x + 1) + n % 2 ^ j := by rw [← hx]; exact (Nat.div_add_mod n (2 ^ j)).symm
  have e2 : n - 2 ^ j = 2 ^ j * (2 * x) + n % 2 ^ j := by
    have : 2 ^ j * (2 * x + 1) = 2 ^ j * (2 * x) + 2 ^ j := Nat.mul_succ _ _
    omega
  rw [e2]
  conv => rhs; rw [e1]
  rw [Nat.testBit_two_pow_mul_add _ hy, Nat.testBit_two_pow_mul_add _ hy]
  split
  · rfl
  · obtain ⟨k, hk⟩ : ∃ k, i - j = k + 1 := ⟨i - j - 1, by omega⟩
    rw [hk, Nat.testBit_succ, Nat.testBit_succ]
    congr 1; omega
theorem or_back {n j : Nat} (h : n.testBit j = true) : (n - 2 ^ j) ||| 2 ^ j = n := by
  have hle := bit_sub h
  refine Nat.eq_of_testBit_eq fun i => ?_
  rw [Nat.testBit_or, Nat.testBit_two_pow]
  by_cases e : i = j
  · subst e; simp [h]
  · have h1 : (n - 2 ^ j).testBit i = n.testBit i := sub_bit h e
    rw [h1, decide_eq_false (fun k => e k.symm), Bool.or_false]
theorem part_back {j : Nat} (h : Inc A) (h0 : ∀ x, x ∈ A → 0 ≤ x) : ofI (partI A j false ++ ofI (allJ (partI A j true) (ofI [((2 ^ j : Nat) : Int)]))) = A := (ofI_eq h fun x => by
  rw [List.mem_append, mem_ofI, mem_allJ, mem_partI]
  constructor
  · intro hx
    have hx0 := h0 x hx
    cases hb : x.toNat.testBit j with
    | false => exact .inl ⟨x, hx, .inr ⟨rfl, hb, rfl⟩⟩
    | true =>
      refine .inr ⟨x - ((2 ^ j : Nat) : Int), mem_partI.2 ⟨x, hx, .inl ⟨rfl, hb, rfl⟩⟩, ((2 ^ j : Nat) : Int), mem_ofI.2 (List.mem_singleton.2 rfl), ?_⟩
      have hle := bit_sub hb
      unfold joI
      have e1 : (x - ((2 ^ j : Nat) : Int)).toNat = x.toNat - 2 ^ j := by omega
      rw [e1, Int.toNat_natCast, or_back hb]
      omega
  · rintro (⟨m, hm, h1 | h1⟩ | ⟨p, hp, q, hq, rfl⟩)
    · exact absurd h1.1 (by decide)
    · obtain ⟨_, _, rfl⟩ := h1
      exact hm
    · obtain ⟨m, hm, h1 | h1⟩ := mem_partI.1 hp
      · obtain ⟨_, hb, rfl⟩ := h1
        rw [List.mem_singleton.1 (mem_ofI.1 hq)]
        have hle := bit_sub hb
        have hm0 := h0 m hm
        unfold joI
        have e1 : (m - ((2 ^ j : Nat) : Int)).toNat = m.toNat - 2 ^ j := by omega
        rw [e1, Int.toNat_natCast, or_back hb, Int.toNat_of_nonneg hm0]
        exact hm
      · exact absurd h1.1 (by decide)).symm
theorem roomT_U (q : Got ns ns' R (opU.cst ns a b) l (opU.res (M ns a) (M ns b)) id er) (hw : Wf ns) (ha : Is ns a A) (hb : Is ns b B) (T n : Nat) (ta : tp ns a ≤ T) (tb : tp ns b ≤ T) (hn : A.length ≤ n ∨ B.length ≤ n) (hR : ns.length + T * n < R) : er = 0 ∧ Is ns' id (ofI (A ++ B)) ∧ ns <+: ns' ∧ ns'.length ≤ ns.length + T * n := by
  have h := cE_T hw opU_ok.endF ha.v hb.v ta tb
  rw [ha.len hw, hb.len hw] at h
  have hc : opU.cst ns a b ≤ T * n := Nat.le_trans h (Nat.mul_le_mul (by omega) (by omega))
  obtain ⟨h1, h2⟩ := q.fine (by omega)
  exact ⟨h1, h2.un ha hb, h2.pre, by have := h2.cost; omega⟩
theorem room_U (q : Got ns ns' R (opU.cst ns a b) l (opU.res (M ns a) (M ns b)) id er) (hw : Wf ns) (ha : Is ns a A) (hb : Is ns b B) (n : Nat) (hn : A.length ≤ n ∨ B.length ≤ n) (hR : ns.length + 24 * n < R) : er = 0 ∧ Is ns' id (ofI (A ++ B)) ∧ ns <+: ns' ∧ ns'.length ≤ ns.length + 24 * n := roomT_U q hw ha hb 24 n (tp_24 hw ha.v) (tp_24 hw hb.v) hn hR
theorem roomT_M (q : Got ns ns' R (opM.cst ns a b) l (opM.res (M ns a) (M ns b)) id er) (hw : Wf ns) (ha : Is ns a A) (hb : Is ns b B) (T n : Nat) (ta : tp ns a ≤ T) (tb : tp ns b ≤ T) (hn : A.length ≤ n ∨ B.length ≤ n) (hR : ns.length + T * n < R) : er = 0 ∧ Is ns' id (pickI A B true) ∧ ns <+: ns' ∧ ns'.length ≤ ns.length + T * n := by
  have h := cE_T hw opM_ok.endF ha.v hb.v ta tb
  rw [ha.len hw, hb.len hw] at h
  have hc : opM.cst ns a b ≤ T * n := Nat.le_trans h (Nat.mul_le_mul (by omega) (by omega))
  obtain ⟨h1, h2⟩ := q.fine (by omega)
  exact ⟨h1, h2.me ha hb, h2.pre, by have := h2.cost; omega⟩
theorem room_M (q : Got ns ns' R (opM.cst ns a b) l (opM.res (M ns a) (M ns b)) id er) (hw : Wf ns) (ha : Is ns a A) (hb : Is ns b B) (n : Nat) (hn : A.length ≤ n ∨ B.length ≤ n) (hR : ns.length + 24 * n < R) : er = 0 ∧ Is ns' id (pickI A B true) ∧ ns <+: ns' ∧ ns'.length ≤ ns.length + 24 * n := roomT_M q hw ha hb 24 n (tp_24 hw ha.v) (tp_24 hw hb.v) hn hR
theorem roomT_L (q : Got ns ns' R (opL.cst ns a b) l (opL.res (M ns a) (M ns b)) id er) (hw : Wf ns) (ha : Is ns a A) (hb : Is ns b B) (T n : Nat) (ta : tp ns a ≤ T) (tb : tp ns b ≤ T) (hn : A.length ≤ n ∨ B.length ≤ n) (hR : ns.length + T * n < R) : er = 0 ∧ Is ns' id (pickI A B false) ∧ ns <+: ns' ∧ ns'.length ≤ ns.length + T * n := by
  have h := cE_T hw opL_ok.endF ha.v hb.v ta tb
  rw [ha.len hw, hb.len hw] at h
  have hc : opL.cst ns a b ≤ T * n := Nat.le_trans h (Nat.mul_le_mul (by omega) (by omega))
  obtain ⟨h1, h2⟩ := q.fine (by omega)
  exact ⟨h1, h2.le ha hb, h2.pre, by have := h2.cost; omega⟩
theorem room_L (q : Got ns ns' R (opL.cst ns a b) l (opL.res (M ns a) (M ns b)) id er) (hw : Wf ns) (ha : Is ns a A) (hb : Is ns b B) (n : Nat) (hn : A.length ≤ n ∨ B.length ≤ n) (hR : ns.length + 24 * n < R) : er = 0 ∧ Is ns' id (pickI A B false) ∧ ns <+: ns' ∧ ns'.length ≤ ns.length + 24 * n := roomT_L q hw ha hb 24 n (tp_24 hw ha.v) (tp_24 hw hb.v) hn hR
theorem roomT_J (q : Got ns ns' R (opJ.cst ns a b) l (opJ.res (M ns a) (M ns b)) id er) (hw : Wf ns) (ha : Is ns a A) (hb : Is ns b B) (T m n : Nat) (ta : tp ns a ≤ T) (tb : tp ns b ≤ T) (hA : A.length ≤ m) (hB : B.length ≤ n) (hR : ns.length + tri T * (m * n) < R) : er = 0 ∧ Is ns' id (ofI (allJ A B)) ∧ ns <+: ns' ∧ ns'.length ≤ ns.length + tri T * (m * n) := by
  have h := cJE_T hw ha.v hb.v ta tb
  rw [ha.len hw, hb.len hw] at h
  have hc : opJ.cst ns a b ≤ tri T * (m * n) := Nat.le_trans h (Nat.mul_le_mul (tri_mono (by omega)) (Nat.mul_le_mul hA hB))
  obtain ⟨h1, h2⟩ := q.fine (by omega)
  exact ⟨h1, h2.jo ha hb, h2.pre, by have := h2.cost; omega⟩
theorem room_J (q : Got ns ns' R (opJ.cst ns a b) l (opJ.res (M ns a) (M ns b)) id er) (hw : Wf ns) (ha : Is ns a A) (hb : Is ns b B) (m n : Nat) (hA : A.length ≤ m) (hB : B.length ≤ n) (hR : ns.length + 300 * (m * n) < R) : er = 0 ∧ Is ns' id (ofI (allJ A B)) ∧ ns <+: ns' ∧ ns'.length ≤ ns.length + 300 * (m * n) := roomT_J q hw ha hb 24 m n (tp_24 hw ha.v) (tp_24 hw hb.v) hA hB hR
theorem roomT_P {wi : Bool} {j : Nat} (q : Got ns ns' R (cPt ns a j) l (pS wi j (M ns a)) id er) (hw : Wf ns) (ha : Is ns a A) (T n : Nat) (ta : tp ns a ≤ T) (hn : A.length ≤ n) (hR : ns.length + T * n < R) : er = 0 ∧ Is ns' id (partI A j wi) ∧ ns <+: ns' ∧ ns'.length ≤ ns.length + T * n := by
  have h := cPt_T (j := j) ta
  rw [ha.len hw] at h
  have hc : cPt ns a j ≤ T * n := Nat.le_trans h (Nat.mul_le_mul_left _ hn)
  obtain ⟨h1, h2⟩ := q.fine (by omega)
  exact ⟨h1, h2.pa ha, h2.pre, by have := h2.cost; omega⟩
theorem room_P {wi : Bool} {j : Nat} (q : Got ns ns' R (cPt ns a j) l (pS wi j (M ns a)) id er) (hw : Wf ns) (ha : Is ns a A) (n : Nat) (hn : A.length ≤ n) (hR : ns.length + 24 * n < R) : er = 0 ∧ Is ns' id (partI A j wi) ∧ ns <+: ns' ∧ ns'.length ≤ ns.length + 24 * n := roomT_P q hw ha 24 n (tp_24 hw ha.v) hn hR
theorem room_S (q : Got ns ns' R (lc (24 - lvl ns a) (mems ns a).length) l (lsS (M ns a)) id er) (hw : Wf ns) (ha : Is ns a A) (n : Nat) (hn : A.length ≤ n) (hR : ns.length + (24 * n + 24 * (n * n)) < R) : er = 0 ∧ Is ns' id (leastTo A A.length) ∧ ns <+: ns' ∧ ns'.length ≤ ns.length + (24 * n + 24 * (n * n)) := by
  rw [ha.len hw] at q
  have hc := lc_le (24 - lvl ns a) A.length n (by omega) hn
  obtain ⟨h1, h2⟩ := q.fine (by omega)
  exact ⟨h1, h2.ls ha, h2.pre, by have := h2.cost; omega⟩
theorem room_O (q : Got ns ns' R (bcL 0 f) l (bS f 0) id er) (hf : ofZB f = true) (n : Nat) (hn : f.length ≤ n) (hR : ns.length + 24 * n < R) : er = 0 ∧ Is ns' id (ofI f) ∧ ns <+: ns' ∧ ns'.length ≤ ns.length + 24 * n := by
  have := bcL_24 f
  obtain ⟨h1, h2⟩ := q.fine (by omega)
  exact ⟨h1, h2.of hf, h2.pre, by have := h2.cost; omega⟩
theorem bnd_is (h : Is ns a A) (hw : Wf ns) : bnd ns (a : Int) ≤ 24 * A.length := by
  unfold bnd
  split
  · rw [Int.toNat_natCast, h.len hw]
    exact Nat.mul_le_mul_right _ (by omega)
  · omega
theorem ofB_mem (h : ofZB f = true) : ∀ m, m ∈ ofI f → 0 ≤ m ∧ m < 16777216 := fun m hm => ofB_iff.1 h m (mem_ofI.1 hm)
end

theorem list_is {T : TypeId} {ns : List Nd} {w' : World} {v : Value} {id : Nat} {F : List Int} (hI : Is ns id F) (hw : Wf ns) (hF : F.length ≤ 100000)
    (h : if (thereZ ns (id : Int) && decide (cntI ns (id : Int) ≤ 100000)) = true then ∃ x, v = .tuple #[x, .int .i64 0] ∧ SlT encI 1 w' x (srtM ns (id : Int).toNat) ∧ TyS T w' x (srtM ns (id : Int).toNat) else ∃ er, v = .tuple #[.slice none 0 0, .int .i64 er] ∧ er ≠ 0 ∧ (thereZ ns (id : Int) = false → er = 1)) :
    ∃ x, v = .tuple #[x, .int .i64 0] ∧ SlT encI 1 w' x F ∧ TyS T w' x F := by
  have hc : (thereZ ns (id : Int) && decide (cntI ns (id : Int) ≤ 100000)) = true := by
    rw [tz_iff.2 (show 0 ≤ (id : Int) ∧ (id : Int) < (ns.length : Int) + 2 by have := hI.v; omega), hI.cnt hw, decide_eq_true (show (F.length : Int) ≤ 100000 by omega)]
    rfl
  rw [if_pos hc, Int.toNat_natCast, hI.s] at h
  exact h
theorem list_any {T : TypeId} {ns : List Nd} {w' : World} {v : Value} {id : Int}
    (h : if (thereZ ns id && decide (cntI ns id ≤ 100000)) = true then ∃ x, v = .tuple #[x, .int .i64 0] ∧ SlT encI 1 w' x (srtM ns id.toNat) ∧ TyS T w' x (srtM ns id.toNat) else ∃ er, v = .tuple #[.slice none 0 0, .int .i64 er] ∧ er ≠ 0 ∧ (thereZ ns id = false → er = 1)) :
    ∃ x er L, v = .tuple #[x, .int .i64 er] ∧ SlT encI 1 w' x L ∧ (thereZ ns id = false → L = [] ∧ er = 1) := by
  split at h
  · rename_i hc
    obtain ⟨x, h1, h2, _⟩ := h
    refine ⟨x, 0, _, h1, h2, fun k => ?_⟩
    rw [k] at hc; cases hc
  · obtain ⟨er, h1, _, h3⟩ := h
    exact ⟨_, er, [], h1, SlT.nil, fun k => ⟨rfl, h3 k⟩⟩
theorem size_0 {ns : List Nd} {id : Int} {k : Nat} (h : thereB ns id = true → 1 ≤ k) (hk : (k : Int) = 0) (h0 : ¬ id = 0) (h1 : ¬ id = 1) : thereZ ns id = false := by
  refine Bool.eq_false_iff.2 fun ht => ?_
  have h2 := tz_iff.1 ht
  have := h (there_iff.2 ⟨by omega, h2.2⟩)
  omega
theorem cnt_0 {ns : List Nd} {id : Int} (h : thereZ ns id = false) : cntI ns id = 0 := by
  have := cnt_none h
  injection this with _ h2
  exact h2.symm

section
variable {ns ns' : List Nd} {a b id R c l n : Nat} {A B f g : List Int} {er : Int}
theorem pe_ok {ok : Bool} {S : Nat → Prop} (q : (ok = true ∧ Got ns ns' R c l S id er) ∨ (ok = false ∧ ns' = ns ∧ id = 0 ∧ er = 1)) (h : ok = true) : Got ns ns' R c l S id er := by
  rcases q with q | q
  · exact q.2
  · rw [h] at q; exact absurd q.1 (by decide)
theorem pe_O (q : (ofZB f = true ∧ Got ns ns' R (bcL 0 f) 0 (bS f 0) id er) ∨ (ofZB f = false ∧ ns' = ns ∧ id = 0 ∧ er = 1)) (hR : ns.length + 24 * f.length < R) :
    (ofZB f = true → er = 0 ∧ Is ns' id (ofI f)) ∧ (ofZB f = false → id = 0 ∧ er = 1) ∧ ns <+: ns' ∧ ns'.length ≤ ns.length + 24 * f.length := by
  rcases q with ⟨h, q⟩ | ⟨h, rfl, h2, h3⟩
  · obtain ⟨h1, h2, h3, h4⟩ := room_O q h f.length (Nat.le_refl _) hR
    exact ⟨fun _ => ⟨h1, h2⟩, fun k => by rw [h] at k; (cases k), h3, h4⟩
  · exact ⟨fun k => by rw [h] at k; (cases k), fun _ => ⟨h2, h3⟩, List.prefix_refl _, by omega⟩
theorem pe_P {j : Int} {wi : Bool} (q : (decide (0 ≤ j ∧ j < 24) = true ∧ Got ns ns' R (cPt ns a j.toNat) l (pS wi j.toNat (M ns a)) id er) ∨ (decide (0 ≤ j ∧ j < 24) = false ∧ ns' = ns ∧ id = 0 ∧ er = 1)) (hw : Wf ns) (ha : Is ns a A) (n : Nat) (hn : A.length ≤ n) (hR : ns.length + 24 * n < R) :
    (decide (0 ≤ j ∧ j < 24) = true → er = 0 ∧ Is ns' id (partI A j.toNat wi)) ∧ (decide (0 ≤ j ∧ j < 24) = false → id = 0 ∧ er = 1) ∧ ns <+: ns' ∧ ns'.length ≤ ns.length + 24 * n := by
  rcases q with ⟨h, q⟩ | ⟨h, rfl, h2, h3⟩
  · obtain ⟨h1, h2, h3, h4⟩ := room_P q hw ha n hn hR
    exact ⟨fun _ => ⟨h1, h2⟩, fun k => by rw [h] at k; (cases k), h3, h4⟩
  · exact ⟨fun k => by rw [h] at k; (cases k), fun _ => ⟨h2, h3⟩, List.prefix_refl _, by omega⟩
theorem got_err {S : Nat → Prop} (q : Got ns ns' R c l S id er) (h : ¬ er = 0) : er = 5 ∧ id = 0 := by
  rcases q.res with k | k
  · exact absurd k.1 h
  · exact ⟨k.1, k.2.1⟩
theorem got_ers {S : Nat → Prop} (q : Got ns ns' R c l S id er) : er = 0 ∨ er = 5 := q.res.imp (·.1) (·.1)
theorem got_of (q : Got ns ns' R c l (bS f 0) id er) (hf : ofZB f = true) (h : er = 0) : Is ns' id (ofI f) := ⟨(q.ok h).1, srt_of hf (q.ok h).2.2⟩
theorem got_un (q : Got ns ns' R c l (opU.res (M ns a) (M ns b)) id er) (ha : Is ns a A) (hb : Is ns b B) (h : er = 0) : Is ns' id (ofI (A ++ B)) := Fine.un (c := c) ⟨(q.ok h).1, (q.ok h).2.2, q.pre, q.cost⟩ ha hb
theorem may2_t {k : Nat} {c : Bool} (h : k < g.length) (hm : (c && mayTo g k) = true) : decide (0 ≤ g.getD k 0 ∧ g.getD k 0 < 16777216) = (c && mayTo g (k + 1)) := by
  rw [Bool.and_eq_true_iff] at hm
  rw [mayTo_s h, hm.1, hm.2, Bool.true_and, Bool.true_and]
theorem may2_f {k : Nat} {c : Bool} (h : k < g.length) (hm : (c && mayTo g k) = false) : false = (c && mayTo g (k + 1)) := by
  rw [mayTo_s h, ← Bool.and_assoc, hm, Bool.false_and]
theorem least_sub {X : List Int} {y : Int} (h : y ∈ leastTo X X.length) : y ∈ X := by
  unfold leastTo at h
  obtain ⟨i, hi, rfl⟩ := List.mem_map.1 h
  exact getD_mem (List.mem_range.1 (List.mem_filter.1 hi).1)
def great8 (f g : List Int) : Bool := decide (40 < f.length) || decide (40 < g.length)
theorem g8_1 (h : (f.length : Int) > 40) : Value.bool true = .bool (great8 f g) := by
  unfold great8
  rw [decide_eq_true (show 40 < f.length by omega), Bool.true_or]
theorem g8_2 (h : ¬ (f.length : Int) > 40) : Value.bool (decide ((g.length : Int) > 40)) = .bool (great8 f g) := by
  unfold great8
  rw [decide_eq_false (show ¬ 40 < f.length by omega), Bool.false_or]
  exact congrArg Value.bool (decide_eq_decide.2 (by omega))
theorem g8_no (h : great8 f g = false) : f.length ≤ 40 ∧ g.length ≤ 40 := by
  unfold great8 at h
  rw [Bool.or_eq_false_iff] at h
  have h1 := of_decide_eq_false h.1
  have h2 := of_decide_eq_false h.2
  omega
theorem one_ok {j : Nat} (hj : j < 24) : ofZB [((2 ^ j : Nat) : Int)] = true := ofB_iff.2 fun m hm => by
  rw [List.mem_singleton.1 hm]
  have h1 : 2 ^ j ≤ 8388608 := by have := Nat.pow_le_pow_right (show 0 < 2 by decide) (show j ≤ 23 by omega); simpa using this
  have h2 := Nat.two_pow_pos j
  omega
theorem allJ_le (hA : A.length ≤ 6) (hB : B.length ≤ 6) : (ofI (allJ A B)).length ≤ 1000 := by
  rw [← allJT_e]
  exact allJT_len _ _ hA (by omega) hA hB
def hoB (X m : List Int) (i k : Nat) : Bool := (List.range k).any fun q => decide (joI (X.getD i 0) (m.getD q 0) = X.getD i 0)
theorem hoB_s (X m : List Int) (i k : Nat) : hoB X m i (k + 1) = (hoB X m i k || decide (joI (X.getD i 0) (m.getD k 0) = X.getD i 0)) := by
  unfold hoB
  rw [List.range_succ, List.any_append]
  simp
theorem hoB_t {X m : List Int} {i k : Nat} (h : hoB X m i k = true) : Value.bool true = .bool (hoB X m i (k + 1)) := by rw [hoB_s, h, Bool.true_or]
theorem hoB_f {X m : List Int} {i k : Nat} (h : hoB X m i k = false) : Value.bool (decide (joI (X.getD i 0) (m.getD k 0) = X.getD i 0)) = .bool (hoB X m i (k + 1)) := by rw [hoB_s, h, Bool.false_or]
theorem or_le {x y : Nat} (h : x ||| y = x) : y ≤ x := by
  have : y ≤ x ||| y := Nat.right_le_or
  omega
theorem hoB_all {X : List Int} (hX : Inc X) (h0 : ∀ x, x ∈ X → 0 ≤ x) : ∀ (n i : Nat), i < X.length → (X.getD i 0).toNat ≤ n → hoB X (leastTo X X.length) i (leastTo X X.length).length = true := by
  have key : ∀ (n i : Nat), i < X.length → (X.getD i 0).toNat ≤ n → ∃ z, z ∈ leastTo X X.length ∧ joI (X.getD i 0) z = X.getD i 0 := by
    intro n
    induction n with
    | zero | succ n ih =>
      intro i hi hn
      have hx := h0 _ (getD_mem (l := X) (i := i) (d := 0) hi)
      cases hl : leB X i X.length with
      | true =>
        refine ⟨X.getD i 0, ?_, ?_⟩
        · unfold leastTo
          exact List.mem_map.2 ⟨i, List.mem_filter.2 ⟨List.mem_range.2 hi, hl⟩, rfl⟩
        · unfold joI; rw [Nat.or_self]; exact Int.toNat_of_nonneg hx
      | false =>
        unfold leB at hl
        rw [List.all_eq_false] at hl
        obtain ⟨q, hq, hq2⟩ := hl
        have hq := List.mem_range.1 hq
        rw [Bool.or_eq_true, not_or] at hq2
        have hne : ¬ q = i := fun e => hq2.1 (decide_eq_true e)
        have hor : ((X.getD i 0).toNat ||| (X.getD q 0).toNat : Nat) = (X.getD i 0).toNat := by simpa using hq2.2
        have hle := or_le hor
        have hy := h0 _ (getD_mem (l := X) (i := q) (d := 0) hq)
        have hlt : (X.getD q 0).toNat < (X.getD i 0).toNat := by
          rcases Nat.lt_or_eq_of_le hle with h | h
          · exact h
          · have e : X.getD q 0 = X.getD i 0 := by omega
            rw [List.getD_eq_getElem?_getD, List.getD_eq_getElem?_getD, List.getElem?_eq_getElem hq, List.getElem?_eq_getElem hi] at e
            exact absurd ((List.getElem_inj hX.nodup).1 e) hne
        first
          | omega
          | obtain ⟨z, hz, hz2⟩ := ih q hq (by omega)
            refine ⟨z, hz, ?_⟩
            unfold joI at hz2 ⊢
            have e2 : ((X.getD q 0).toNat ||| z.toNat : Nat) = (X.getD q 0).toNat := by omega
            rw [← hor, Nat.or_assoc, e2, hor]
            omega
  intro n i hi hn
  obtain ⟨z, hz, hz2⟩ := key n i hi hn
  obtain ⟨q, hq, e⟩ := List.getElem_of_mem hz
  unfold hoB
  rw [List.any_eq_true]
  refine ⟨q, List.mem_range.2 hq, decide_eq_true ?_⟩
  rw [show (leastTo X X.length).getD q 0 = z by rw [List.getD_eq_getElem?_getD, List.getElem?_eq_getElem hq]; exact e]
  exact hz2
end

/-! ### A literal of three numbers -/
theorem fill_three (u0 u1 u2 : Value) (z : Array Value) (h0 : u0.cells = #[u0]) (h1 : u1.cells = #[u1]) (h2 : u2.cells = #[u2]) (hz : z.size = 3) : Instr.fill (fun i => some (i * 1, 1)) z [(0, u0), (1, u1), (2, u2)] = some #[u0, u1, u2] := by
  rw [fill_step 1 0 u0 _ z (by rw [h0]; rfl) (by omega), fill_step 1 1 u1 _ _ (by rw [h1]; rfl) (by simp [h0]; omega), fill_step 1 2 u2 _ _ (by rw [h2]; rfl) (by simp [h0, h1]; omega), Instr.fill, h0, h1, h2]
  obtain ⟨l⟩ := z
  match l, hz with
  | [a, b, c], _ => simp
section
variable {P : Program} {f : Nat → Value} {w w' : World} {d : Option Nat} {ty : TypeId} {ps : String} {af : Array Edge} {g : Option (Nat × Bool)} {t e T : TypeId} {by_ N sz b : Nat} {K : Value → World → Prop}
theorem Y_lit3 {x0 x1 x2 : Operand} {u0 u1 u2 : Value} (hx0 : evF f x0 = u0) (hx1 : evF f x1 = u1) (hx2 : evF f x2 = u2) (hT : elemI P t = some (e, 1, by_)) (hz : (zeroI P e).map (fun z => z.cells.size) = some 1) (h0 : u0.cells = #[u0]) (h1 : u1.cells = #[u1]) (h2 : u2.cells = #[u2])
    (hK : ∀ b w', b = w.heap.size → Ext w w' → At w' b #[u0, u1, u2] e → K (.slice (some ⟨b, 0, none⟩) 3 3) w') : Yd P ⟨d, .buildSlice t 3 #[(0, x0), (1, x1), (2, x2)], ty, ps, af, g⟩ f w K := by
  obtain ⟨z, hz, hzs⟩ := Option.map_eq_some_iff.1 hz
  unfold zeroI at hz
  obtain ⟨i, hi, hzz⟩ := Option.bind_eq_some_iff.1 hz
  unfold elemI at hT
  cases hun : P.underlying t with
  | none => simp [hun] at hT
  | some desc =>
    cases desc <;> simp [hun] at hT
    rename_i e'
    obtain ⟨i', hi', rfl, q1, rfl⟩ := hT
    obtain rfl : i' = i := by rw [hi] at hi'; exact (Option.some.inj hi').symm
    refine .val (w' := w.alloc (.cells #[u0, u1, u2] e')) ?_ (hK w.heap.size _ rfl (Ext.alloc w _) (at_alloc w _ _))
    have hf := fill_three u0 u1 u2 ((Array.range (3 * 1)).map (z.cells[· % z.cells.size]!)) h0 h1 h2 (by simp)
    simp only [Nat.mul_one] at hf
    simp [execOp, hx0, hx1, hx2, Instr.buildSlice, run_underlying hun, sizeOf, typeInfo, hi, q1, zeroValue, hzz, newRow, hf]
theorem own_lit3 {enc : Int → List Value} {a0 a1 a2 : Int} (k : At w b #[.int .i64 a0, .int .i64 a1, .int .i64 a2] T) (h0 : enc a0 = [.int .i64 a0]) (h1 : enc a1 = [.int .i64 a1]) (h2 : enc a2 = [.int .i64 a2]) (hs : sz = 1) (hN : N ≤ b) : OwT enc sz T w N (.slice (some ⟨b, 0, none⟩) 3 3) [a0, a1, a2] := by
  subst hs
  exact ⟨by simp [h0, h1, h2], .inr ⟨b, 3, _, rfl, hN, k, Nat.le_refl _, by decide, by simp, by simp [h0, h1, h2]⟩⟩
end

theorem ret_ttttt {P : Program} {f : Nat → Value} {w : World} {t u s r q : Nat} {v v1 v2 v3 v4 : Value} {Post : Value → World → Prop} (h : f t = v) (h1 : f u = v1) (h2 : f s = v2) (h3 : f r = v3) (h4 : f q = v4) (hp : Post (.tuple #[v, v1, v2, v3, v4]) w) : bodyQ P #[.tmp t, .tmp u, .tmp s, .tmp r, .tmp q] Post .ret f w := by
  refine ⟨_, fun tmps fn ht hr => ?_, hp⟩
  rw [← h, ← h1, ← h2, ← h3, ← h4, ← ht t, ← ht u, ← ht s, ← ht r, ← ht q]; simp [results, hr]

theorem r_ext5_0 {P : Program} {f : Nat → Value} {w : World} {d : Option Nat} {ty : TypeId} {ps : String} {af : Array Edge} {g : Option (Nat × Bool)} {x : Operand} {v0 v1 v2 v3 v4 : Value} (h : evF f x = .tuple #[v0, v1, v2, v3, v4]) : (execOp (evF f) ⟨d, .extract x 0, ty, ps, af, g⟩).run P w = .ok (.value v0) w := by simp [execOp, h, Instr.extract]
theorem r_ext5_1 {P : Program} {f : Nat → Value} {w : World} {d : Option Nat} {ty : TypeId} {ps : String} {af : Array Edge} {g : Option (Nat × Bool)} {x : Operand} {v0 v1 v2 v3 v4 : Value} (h : evF f x = .tuple #[v0, v1, v2, v3, v4]) : (execOp (evF f) ⟨d, .extract x 1, ty, ps, af, g⟩).run P w = .ok (.value v1) w := by simp [execOp, h, Instr.extract]
theorem r_ext5_2 {P : Program} {f : Nat → Value} {w : World} {d : Option Nat} {ty : TypeId} {ps : String} {af : Array Edge} {g : Option (Nat × Bool)} {x : Operand} {v0 v1 v2 v3 v4 : Value} (h : evF f x = .tuple #[v0, v1, v2, v3, v4]) : (execOp (evF f) ⟨d, .extract x 2, ty, ps, af, g⟩).run P w = .ok (.value v2) w := by simp [execOp, h, Instr.extract]
theorem r_ext5_3 {P : Program} {f : Nat → Value} {w : World} {d : Option Nat} {ty : TypeId} {ps : String} {af : Array Edge} {g : Option (Nat × Bool)} {x : Operand} {v0 v1 v2 v3 v4 : Value} (h : evF f x = .tuple #[v0, v1, v2, v3, v4]) : (execOp (evF f) ⟨d, .extract x 3, ty, ps, af, g⟩).run P w = .ok (.value v3) w := by simp [execOp, h, Instr.extract]
theorem r_ext5_4 {P : Program} {f : Nat → Value} {w : World} {d : Option Nat} {ty : TypeId} {ps : String} {af : Array Edge} {g : Option (Nat × Bool)} {x : Operand} {v0 v1 v2 v3 v4 : Value} (h : evF f x = .tuple #[v0, v1, v2, v3, v4]) : (execOp (evF f) ⟨d, .extract x 4, ty, ps, af, g⟩).run P w = .ok (.value v4) w := by simp [execOp, h, Instr.extract]
end

end Go.Proofs.Ytpamgfbecgjjeaa
