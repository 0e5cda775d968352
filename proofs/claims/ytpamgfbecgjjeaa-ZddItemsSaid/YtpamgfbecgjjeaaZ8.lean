/-
  Rising rows of numbers: putting a number in its place, merging; what is told of a family; what is marked. No program in it.
-/
import Derived.Test.YtpamgfbecgjjeaaZ7
namespace Go.Proofs.Ytpamgfbecgjjeaa
set_option linter.unusedVariables false
set_option linter.unusedSimpArgs false
open Go Go.RowKit

theorem vbt {b : Bool} (h : b = true) : Value.bool true = .bool b := by rw [h]
theorem vbf {b : Bool} (h : ¬ b = true) : Value.bool false = .bool b := by rw [Bool.eq_false_iff.2 h]
theorem eq_allZ {α : Type} (d : α) (a b : List α) (hl : a.length = b.length) (h : ∀ q, q < a.length → a.getD q d = b.getD q d) : a = b := by
  refine List.ext_getElem? fun i => ?_
  by_cases hi : i < a.length
  · have := h i hi
    rw [List.getD_eq_getElem?_getD, List.getD_eq_getElem?_getD, List.getElem?_eq_getElem hi, List.getElem?_eq_getElem (show i < b.length by omega)] at this
    rw [List.getElem?_eq_getElem hi, List.getElem?_eq_getElem (show i < b.length by omega)]
    exact congrArg some this
  · rw [List.getElem?_eq_none (by omega), List.getElem?_eq_none (by omega)]
theorem sz_0 {a b : List Int} (h : ¬ (a.length : Int) = (b.length : Int)) : Value.bool false = .bool (decide (a = b)) := vbf fun k => h (by rw [of_decide_eq_true k])
theorem sz_1 {a b : List Int} {k : Nat} (h : ¬ a.getD k 0 = b.getD k 0) : Value.bool false = .bool (decide (a = b)) := vbf fun q => h (by rw [of_decide_eq_true q])
theorem sz_2 {a b : List Int} {k : Nat} (hl : a.length = b.length) (hk : k = a.length) (h : ∀ q, q < k → a.getD q 0 = b.getD q 0) : Value.bool true = .bool (decide (a = b)) := vbt (decide_eq_true (eq_allZ 0 a b hl (hk ▸ h)))

/-! ### Rising rows -/
def Inc (l : List Int) : Prop := l.Pairwise fun a b => a < b
theorem inc_ext : ∀ {a b : List Int}, Inc a → Inc b → (∀ x, x ∈ a ↔ x ∈ b) → a = b
  | [], [], _, _, _ => rfl
  | [], b :: bs, _, _, h => by have := (h b).2 (List.mem_cons_self ..); cases this
  | a :: as, [], _, _, h => by have := (h a).1 (List.mem_cons_self ..); cases this
  | a :: as, b :: bs, ha, hb, h => by
    obtain ⟨a1, a2⟩ := List.pairwise_cons.1 ha
    obtain ⟨b1, b2⟩ := List.pairwise_cons.1 hb
    have e : a = b := by
      rcases List.mem_cons.1 ((h a).1 (List.mem_cons_self ..)) with e | k
      · exact e
      · rcases List.mem_cons.1 ((h b).2 (List.mem_cons_self ..)) with e | q
        · exact e.symm
        · have := a1 b q
          have := b1 a k
          omega
    subst e
    rw [inc_ext a2 b2 (fun x => ⟨fun k => ?_, fun k => ?_⟩)]
    · rcases List.mem_cons.1 ((h x).1 (List.mem_cons_of_mem _ k)) with e | q
      · have := a1 x k; omega
      · exact q
    · rcases List.mem_cons.1 ((h x).2 (List.mem_cons_of_mem _ k)) with e | q
      · have := b1 x k; omega
      · exact q
theorem Inc.nodup {l : List Int} (h : Inc l) : l.Nodup := h.imp (fun h e => by omega)
def withI : List Int → Int → List Int
  | [], m => [m]
  | x :: xs, m => if x < m then x :: withI xs m else if x = m then x :: xs else m :: x :: xs
theorem mem_withI {m x : Int} : ∀ {l : List Int}, x ∈ withI l m ↔ x ∈ l ∨ x = m
  | [] => by simp [withI]
  | y :: ys => by
    rw [withI]
    split
    · rw [List.mem_cons, mem_withI, List.mem_cons, or_assoc]
    · split
      · rename_i h; subst h
        exact ⟨.inl, fun h => h.elim _root_.id fun e => by rw [e]; exact List.mem_cons_self ..⟩
      · rw [List.mem_cons]
        exact ⟨fun h => h.elim .inr .inl, fun h => h.elim .inr .inl⟩
theorem inc_withI {m : Int} : ∀ {l : List Int}, Inc l → Inc (withI l m)
  | [], _ => List.pairwise_singleton _ _
  | y :: ys, h => by
    obtain ⟨h1, h2⟩ := List.pairwise_cons.1 h
    rw [withI]
    split
    · refine List.pairwise_cons.2 ⟨fun z hz => ?_, inc_withI h2⟩
      rcases mem_withI.1 hz with hz | rfl
      · exact h1 z hz
      · assumption
    · split
      · exact h
      · refine List.pairwise_cons.2 ⟨fun z hz => ?_, h⟩
        rcases List.mem_cons.1 hz with rfl | hz
        · omega
        · have := h1 z hz; omega
theorem with_at {m : Int} : ∀ (l : List Int) (k : Nat), k ≤ l.length → (∀ q, q < k → l.getD q 0 < m) → (k < l.length → ¬ l.getD k 0 < m ∧ ¬ l.getD k 0 = m) → l.take k ++ [m] ++ l.drop k = withI l m
  | [], k, h, _, _ => by
    obtain rfl : k = 0 := by simpa using h
    rfl
  | x :: xs, 0, _, _, h => by
    have h0 := h (by simp)
    have h1 : ¬ x < m ∧ ¬ x = m := by simpa using h0
    rw [withI, if_neg h1.1, if_neg h1.2]; rfl
  | x :: xs, k + 1, hk, h1, h2 => by
    have h0 : x < m := by simpa using h1 0 (by omega)
    rw [withI, if_pos h0, ← with_at xs k (by simpa using hk) (fun q hq => by simpa using h1 (q + 1) (by omega)) (fun h => by simpa using h2 (by simpa using h))]
    rfl
theorem with_met {m : Int} : ∀ (l : List Int) (k : Nat), k < l.length → (∀ q, q < k → l.getD q 0 < m) → l.getD k 0 = m → l = withI l m
  | [], k, h, _, _ => by simp at h
  | x :: xs, 0, _, _, h => by
    have h1 : x = m := by simpa using h
    rw [withI, if_neg (by omega), if_pos h1]
  | x :: xs, k + 1, hk, h1, h2 => by
    have h0 : x < m := by simpa using h1 0 (by omega)
    rw [withI, if_pos h0, ← with_met xs k (by simpa using hk) (fun q hq => by simpa using h1 (q + 1) (by omega)) (by simpa using h2)]
theorem withI_len (l : List Int) (m : Int) : (withI l m).length ≤ l.length + 1 := by
  induction l with
  | nil => exact Nat.le_refl _
  | cons x xs ih =>
    rw [withI]
    split
    · simp only [List.length_cons]; omega
    · split <;> simp
def ofTo (l : List Int) : Nat → List Int
  | 0 => []
  | k + 1 => withI (ofTo l k) (l.getD k 0)
def ofI (l : List Int) : List Int := ofTo l l.length
theorem ofTo_inc (l : List Int) : ∀ k, Inc (ofTo l k)
  | 0 => List.Pairwise.nil
  | k + 1 => inc_withI (ofTo_inc l k)
theorem ofTo_len (l : List Int) : ∀ k, (ofTo l k).length ≤ k
  | 0 => Nat.le_refl _
  | k + 1 => by
    have h1 := ofTo_len l k
    have h2 := withI_len (ofTo l k) (l.getD k 0)
    rw [ofTo]; omega
theorem mem_ofTo {l : List Int} {x : Int} : ∀ k, k ≤ l.length → (x ∈ ofTo l k ↔ x ∈ l.take k)
  | 0, _ => by simp [ofTo]
  | k + 1, hk => by
    rw [ofTo, mem_withI, mem_ofTo k (by omega), take_s (by omega), List.mem_append, List.mem_singleton]
theorem mem_ofI {l : List Int} {x : Int} : x ∈ ofI l ↔ x ∈ l := by
  unfold ofI
  rw [mem_ofTo _ (Nat.le_refl _), List.take_length]
theorem inc_ofI (l : List Int) : Inc (ofI l) := ofTo_inc l _
theorem ofI_len (l : List Int) : (ofI l).length ≤ l.length := ofTo_len l _
theorem ofI_eq {l a : List Int} (h : Inc a) (hm : ∀ x, x ∈ a ↔ x ∈ l) : a = ofI l := inc_ext h (inc_ofI l) fun x => by rw [hm, mem_ofI]
theorem ofI_nodup_len {l : List Int} (h : l.Nodup) : (ofI l).length = l.length := by
  have key : ∀ {l1 l2 : List Int}, l1.Nodup → (∀ x, x ∈ l1 → x ∈ l2) → l1.length ≤ l2.length := by
    intro l1
    induction l1 with
    | nil => intro l2 _ _; exact Nat.zero_le _
    | cons x xs ih =>
      intro l2 hn hs
      obtain ⟨h1, h2⟩ := List.nodup_cons.1 hn
      have hx := hs x (List.mem_cons_self ..)
      have := ih (l2 := l2.erase x) h2 (fun y hy => (List.mem_erase_of_ne (fun (e : y = x) => h1 (e ▸ hy))).2 (hs y (List.mem_cons_of_mem _ hy)))
      rw [List.length_erase_of_mem hx] at this
      have hp := List.length_pos_of_mem hx
      rw [List.length_cons]; omega
  have h1 := key h (fun x hx => mem_ofI.2 hx)
  have h2 := ofI_len l
  omega

/-! ### Merging -/
def mrg : List Int → List Int → List Int
  | [], b => b
  | a, [] => a
  | x :: xs, y :: ys => if x < y then x :: mrg xs (y :: ys) else y :: mrg (x :: xs) ys
theorem mrg_nil (a : List Int) : mrg a [] = a := by cases a <;> simp [mrg]
theorem mem_mrg {x : Int} : ∀ (a b : List Int), x ∈ mrg a b ↔ x ∈ a ∨ x ∈ b
  | [], b => by simp [mrg]
  | a :: as, [] => by simp [mrg]
  | a :: as, b :: bs => by
    rw [mrg]
    split
    · rw [List.mem_cons, mem_mrg as (b :: bs), List.mem_cons (a := x) (b := a), or_assoc]
    · rw [List.mem_cons, mem_mrg (a :: as) bs, List.mem_cons (a := x) (b := b)]
      constructor
      · rintro (h | h | h)
        · exact .inr (.inl h)
        · exact .inl h
        · exact .inr (.inr h)
      · rintro (h | h | h)
        · exact .inr (.inl h)
        · exact .inl h
        · exact .inr (.inr h)
theorem inc_mrg : ∀ (a b : List Int), Inc a → Inc b → (∀ x, x ∈ a → x ∉ b) → Inc (mrg a b)
  | [], b, _, h, _ => by simpa [mrg] using h
  | a :: as, [], h, _, _ => by rw [mrg_nil]; exact h
  | a :: as, b :: bs, ha, hb, hd => by
    obtain ⟨a1, a2⟩ := List.pairwise_cons.1 ha
    obtain ⟨b1, b2⟩ := List.pairwise_cons.1 hb
    rw [mrg]
    split
    · refine List.pairwise_cons.2 ⟨fun z hz => ?_, inc_mrg as (b :: bs) a2 hb (fun x hx => hd x (List.mem_cons_of_mem _ hx))⟩
      rcases (mem_mrg _ _).1 hz with hz | hz
      · exact a1 z hz
      · rcases List.mem_cons.1 hz with rfl | hz
        · assumption
        · have := b1 z hz; omega
    · have hne : a ≠ b := fun e => hd a (List.mem_cons_self ..) (by rw [e]; exact List.mem_cons_self ..)
      refine List.pairwise_cons.2 ⟨fun z hz => ?_, inc_mrg (a :: as) bs ha b2 (fun x hx hq => hd x hx (List.mem_cons_of_mem _ hq))⟩
      rcases (mem_mrg _ _).1 hz with hz | hz
      · rcases List.mem_cons.1 hz with rfl | hz
        · omega
        · have := a1 z hz; omega
      · exact b1 z hz
theorem mrg_a {out a b : List Int} (ha : 0 < a.length) (h : b.length = 0 ∨ a.getD 0 0 < b.getD 0 0) : out ++ mrg a b = (out ++ [a.getD 0 0]) ++ mrg ((a.drop 1).take (a.length - 1)) b := by
  cases a with
  | nil => simp at ha
  | cons x xs =>
    have e : ((x :: xs).drop 1).take ((x :: xs).length - 1) = xs := by simp
    rw [e]
    cases b with
    | nil => rw [mrg_nil, mrg_nil]; simp
    | cons y ys =>
      have h1 : x < y := by simpa using h
      rw [mrg, if_pos h1]; simp
theorem mrg_b {out a b : List Int} (hb : 0 < b.length) (h : a.length = 0 ∨ ¬ a.getD 0 0 < b.getD 0 0) : out ++ mrg a b = (out ++ [b.getD 0 0]) ++ mrg a ((b.drop 1).take (b.length - 1)) := by
  cases b with
  | nil => simp at hb
  | cons y ys =>
    have e : ((y :: ys).drop 1).take ((y :: ys).length - 1) = ys := by simp
    rw [e]
    cases a with
    | nil => simp [mrg]
    | cons x xs =>
      have h1 : ¬ x < y := by simpa using h
      rw [mrg, if_neg h1]; simp
theorem mrg_end {out a b : List Int} (ha : a.length = 0) (hb : b.length = 0) : out ++ mrg a b = out := by
  rw [List.eq_nil_of_length_eq_zero ha, List.eq_nil_of_length_eq_zero hb]; simp [mrg]
theorem mrg_len (a b : List Int) : (mrg a b).length = a.length + b.length := by
  induction a generalizing b with
  | nil => simp [mrg]
  | cons x xs ih =>
    induction b with
    | nil => simp [mrg]
    | cons y ys ih2 =>
      rw [mrg]
      split
      · rw [List.length_cons, ih]; simp; omega
      · rw [List.length_cons, ih2]; simp; omega
theorem sort_halves {l : List Int} (h : l.Nodup) (k : Nat) : mrg (ofI (l.take k)) (ofI (l.drop k)) = ofI l := by
  have hsp : l = l.take k ++ l.drop k := (List.take_append_drop k l).symm
  refine ofI_eq (inc_mrg _ _ (inc_ofI _) (inc_ofI _) fun x hx hy => ?_) fun x => ?_
  · rw [hsp, List.nodup_append] at h
    exact h.2.2 x (mem_ofI.1 hx) x (mem_ofI.1 hy) rfl
  · rw [mem_mrg, mem_ofI, mem_ofI]
    conv => rhs; rw [hsp, List.mem_append]
theorem sort_small {l : List Int} (h : l.length < 2) : l = ofI l := by
  match l, h with
  | [], _ => rfl
  | [x], _ => rfl

/-! ### A family's members, rising -/
def srtM (ns : List Nd) (f : Nat) : List Int := ofI ((mems ns f).map fun x : Nat => (x : Int))
theorem mem_srtM {ns : List Nd} {f : Nat} {x : Int} : x ∈ srtM ns f ↔ ∃ y : Nat, y ∈ mems ns f ∧ x = (y : Int) := by
  unfold srtM
  rw [mem_ofI, List.mem_map]
  exact ⟨fun ⟨y, h1, h2⟩ => ⟨y, h1, h2.symm⟩, fun ⟨y, h1, h2⟩ => ⟨y, h1, h2.symm⟩⟩
theorem srtM_len {ns : List Nd} (h : Wf ns) {f : Nat} (hf : f < ns.length + 2) : (srtM ns f).length = (mems ns f).length := by
  unfold srtM
  rw [ofI_nodup_len, List.length_map]
  exact List.pairwise_map.2 ((mems_nodup h f hf).imp (fun hne e => hne (by omega)))
theorem srt_keys {ns : List Nd} {f : Nat} {ks : List Int} (h : ∀ x, x ∈ ks ↔ ∃ y : Nat, y ∈ mems ns f ∧ x = (y : Int)) : ofI ks = srtM ns f := ofI_eq (inc_ofI ks) fun x => by
  rw [mem_ofI, h, List.mem_map]
  exact ⟨fun ⟨y, h1, h2⟩ => ⟨y, h1, h2.symm⟩, fun ⟨y, h1, h2⟩ => ⟨y, h1, h2.symm⟩⟩
/-- The members told, with those of m added. -/
def Told (ns : List Nd) (f m : Nat) (ks ks' : List Int) : Prop := ∀ x, x ∈ ks' ↔ x ∈ ks ∨ ∃ y : Nat, y ∈ mems ns f ∧ x = ((m ||| y : Nat) : Int)
theorem told_1 {ns : List Nd} {f m : Nat} {ks : List Int} (h : (f : Int) = 1) : Told ns f m ks (insK ks (m : Int)) := fun x => by
  obtain rfl : f = 1 := by omega
  rw [mem_insK, mems_1]
  refine or_congr Iff.rfl ⟨fun e => ⟨0, List.mem_cons_self .., by rw [Nat.or_zero]; exact e⟩, fun ⟨y, h1, h2⟩ => ?_⟩
  rw [List.mem_singleton.1 h1, Nat.or_zero] at h2
  exact h2
theorem told_0 {ns : List Nd} {f m : Nat} {ks : List Int} (h : f < 2) (h1 : ¬ (f : Int) = 1) : Told ns f m ks ks := fun x => by
  obtain rfl : f = 0 := by omega
  rw [mems_0]
  exact ⟨.inl, fun k => k.elim _root_.id fun ⟨y, h1, _⟩ => by cases h1⟩
theorem told_node {ns : List Nd} (h : Wf ns) {f m : Nat} {n : Nd} {ks k1 k2 : List Int} (hn : NodeOf ns f n) (h1 : Told ns n.lo m ks k1) (h2 : Told ns n.hi (m ||| 1 * 2 ^ n.l) k1 k2) : Told ns f m ks k2 := fun x => by
  have e : ∀ y, (y ∈ mems ns f) = M ns f y := fun _ => rfl
  rw [h2, h1, or_assoc]
  refine or_congr Iff.rfl ?_
  simp only [e]
  rw [hn.mem]
  have key : ∀ y, y ∈ mems ns n.hi → m ||| 1 * 2 ^ n.l ||| y = m ||| (y + 2 ^ n.l) := fun y hy => by
    have := (or_up1 (Nat.dvd_zero (2 ^ (n.l + 1))) (dvd_lt hn.lhi (mems_bits h _ hn.vhi y hy).1)).1
    rw [Nat.zero_add, Nat.zero_or] at this
    rw [Nat.one_mul, Nat.or_assoc, this]
  constructor
  · rintro (⟨y, hy, rfl⟩ | ⟨y, hy, rfl⟩)
    · exact ⟨y, .inl hy, rfl⟩
    · exact ⟨y + 2 ^ n.l, .inr ⟨y, hy, rfl⟩, by rw [key y hy]⟩
  · rintro ⟨y, hy | ⟨z, hz, rfl⟩, rfl⟩
    · exact .inl ⟨y, hy, rfl⟩
    · exact .inr ⟨z, hz, by rw [key z hz]⟩

/-! ### What is marked -/
def cntT (l : List Bool) : Nat := (l.filter _root_.id).length
def bnd (ns : List Nd) (id : Int) : Nat := if thereB ns id = true then (24 - lvl ns id.toNat) * (mems ns id.toNat).length else 0
structure Mk (ns : List Nd) (id : Int) (l l' : List Bool) : Prop where
  len : l'.length = l.length
  mono : ∀ j, l.getD j false = true → l'.getD j false = true
  met : thereB ns id = true → l'.getD (id - 2).toNat false = true
  cnt : cntT l' ≤ cntT l + bnd ns id
theorem mk_no {ns : List Nd} {id : Int} {l : List Bool} (h : thereB ns id = false ∨ l.getD (id - 2).toNat false = true) : Mk ns id l l :=
  ⟨rfl, fun _ h => h, fun k => h.elim (fun h => by rw [k] at h; cases h) _root_.id, Nat.le_add_right _ _⟩
theorem cnt_set : ∀ (l : List Bool) (k : Nat), cntT (l.set k true) ≤ cntT l + 1
  | [], _ => by simp [cntT]
  | b :: l, 0 => by
    unfold cntT
    rw [List.set_cons_zero, List.filter_cons, List.filter_cons]
    cases b <;> simp
  | b :: l, k + 1 => by
    have := cnt_set l k
    unfold cntT at *
    rw [List.set_cons_succ, List.filter_cons, List.filter_cons]
    cases b
    · simpa using this
    · simp; omega
theorem bnd_le {ns : List Nd} {f : Nat} {n : Nd} (h : Wf ns) (hn : NodeOf ns f n) (hf : f < ns.length + 2) (ht : thereB ns (f : Int) = true) : 1 + bnd ns (n.lo : Int) + bnd ns (n.hi : Int) ≤ bnd ns (f : Int) := by
  have hb : ∀ g : Nat, n.l < lvl ns g → bnd ns (g : Int) ≤ (24 - n.l - 1) * (mems ns g).length := fun g hg => by
    unfold bnd
    rw [Int.toNat_natCast]
    split
    · exact Nat.mul_le_mul_right _ (by omega)
    · exact Nat.zero_le _
  have h1 := hb n.lo hn.llo
  have h2 := hb n.hi hn.lhi
  have h3 : bnd ns (f : Int) = (24 - n.l - 1) * (mems ns n.lo).length + (24 - n.l - 1) * (mems ns n.hi).length + (mems ns f).length := by
    unfold bnd
    have := hn.l24
    rw [ht, if_pos rfl, Int.toNat_natCast, hn.lv, ← Nat.mul_add, ← hn.cnt]
    conv => lhs; rw [show 24 - n.l = (24 - n.l - 1) + 1 by omega, Nat.add_mul, Nat.one_mul]
  have h4 := List.length_pos_of_mem (mems_ne h f hf (by have := hn.two; omega)).choose_spec
  omega
theorem mk_node {ns : List Nd} (h : Wf ns) {f : Nat} {n : Nd} {l l1 l2 : List Bool} (hn : NodeOf ns f n) (hf : f < ns.length + 2) (ht : thereB ns (f : Int) = true) (hl : l.length = ns.length)
    (g1 : Mk ns (n.lo : Int) (l.set ((f : Int) - 2).toNat true) l1) (g2 : Mk ns (n.hi : Int) l1 l2) : Mk ns (f : Int) l l2 := by
  have hi : ((f : Int) - 2).toNat < l.length := by have := there_iff.1 ht; omega
  have e1 : (l.set ((f : Int) - 2).toNat true).getD ((f : Int) - 2).toNat false = true := by
    rw [List.getD_eq_getElem?_getD, List.getElem?_set_self hi]; rfl
  refine ⟨by rw [g2.len, g1.len, List.length_set], fun j hj => g2.mono j (g1.mono j ?_), fun _ => g2.mono _ (g1.mono _ e1), ?_⟩
  · by_cases e : ((f : Int) - 2).toNat = j
    · rw [← e]; exact e1
    · rw [List.getD_eq_getElem?_getD, List.getElem?_set_ne e, ← List.getD_eq_getElem?_getD]; exact hj
  · have a1 := g1.cnt
    have a2 := g2.cnt
    have a3 := cnt_set l ((f : Int) - 2).toNat
    have a4 := bnd_le h hn hf ht
    omega
theorem cnt_rep (n : Nat) : cntT (List.replicate n false) = 0 := by
  unfold cntT
  induction n with
  | zero => rfl
  | succ n ih => rw [List.replicate_succ, List.filter_cons]; exact ih
def reT (l : List Bool) (k : Nat) : List Int := ((List.range k).filter fun j => l.getD j false).map fun j : Nat => (j : Int) + 2
theorem re_t {l : List Bool} {k : Nat} (h : l.getD k false = true) : reT l k ++ [(k : Int) + 2] = reT l (k + 1) := by
  unfold reT
  rw [List.range_succ, List.filter_append, List.map_append]
  simp only [List.filter_cons, List.filter_nil, h, if_true, List.map_cons, List.map_nil]
theorem re_f {l : List Bool} {k : Nat} (h : ¬ l.getD k false = true) : reT l k = reT l (k + 1) := by
  unfold reT
  rw [List.range_succ, List.filter_append, List.map_append]
  simp only [List.filter_cons, List.filter_nil, Bool.eq_false_iff.2 h]
  simp
theorem re_len (l : List Bool) : (reT l l.length).length = cntT l := by
  unfold reT cntT
  rw [List.length_map]
  have key : ∀ (l : List Bool) (f : Nat → Nat), (∀ i, i < l.length → True) → ((List.range l.length).filter fun j => l.getD j false).length = (l.filter _root_.id).length := by
    intro l
    induction l with
    | nil => intro _ _; rfl
    | cons b l ih =>
      intro f _
      rw [List.length_cons, List.range_succ_eq_map, List.filter_cons, List.filter_map, List.filter_cons]
      have e : ((fun j => (b :: l).getD j false) ∘ Nat.succ) = fun j => l.getD j false := by funext j; simp
      rw [e]
      cases b
      · simpa using ih f (fun _ _ => trivial)
      · simpa using ih f (fun _ _ => trivial)
  exact key l _root_.id (fun _ _ => trivial)
theorem re_pos {l : List Bool} {j : Nat} (hj : j < l.length) (h : l.getD j false = true) : 1 ≤ (reT l l.length).length := by
  have : ((j : Nat) : Int) + 2 ∈ reT l l.length := List.mem_map.2 ⟨j, List.mem_filter.2 ⟨List.mem_range.2 hj, h⟩, rfl⟩
  exact List.length_pos_of_mem this
theorem reT_le (l : List Bool) (k : Nat) : (reT l k).length ≤ k := by
  unfold reT
  rw [List.length_map]
  exact Nat.le_trans (List.length_filter_le _ _) (by simp)

theorem iterI_le {w : World} {it b : Nat} {ks seen : List Int} (h : IterT keyI Value.bool w it b (allT ks) seen) : seen.length ≤ (allT ks).length := by
  have hs : ∀ c, c ∈ seen → c ∈ ks := fun c hc => by
    have := h.sub c hc
    rwa [allT_keys] at this
  have key : ∀ {l1 l2 : List Int}, l1.Nodup → (∀ x, x ∈ l1 → x ∈ l2) → l1.length ≤ l2.length := by
    intro l1
    induction l1 with
    | nil => intro l2 _ _; exact Nat.zero_le _
    | cons x xs ih =>
      intro l2 hn hs
      obtain ⟨h1, h2⟩ := List.nodup_cons.1 hn
      have hx := hs x (List.mem_cons_self ..)
      have := ih (l2 := l2.erase x) h2 (fun y hy => (List.mem_erase_of_ne (fun (e : y = x) => h1 (e ▸ hy))).2 (hs y (List.mem_cons_of_mem _ hy)))
      rw [List.length_erase_of_mem hx] at this
      have hp := List.length_pos_of_mem hx
      rw [List.length_cons]; omega
  have := key h.nodup hs
  unfold allT
  rw [List.length_map]; exact this
theorem iterI_all {w : World} {it b : Nat} {ks seen : List Int} (h : IterT keyI Value.bool w it b (allT ks) seen) (hd : ∀ p ∈ allT ks, p.1 ∈ seen) (x : Int) : x ∈ seen.reverse ↔ x ∈ ks := by
  rw [List.mem_reverse]
  refine ⟨fun hc => ?_, fun hc => hd (x, true) (List.mem_map.2 ⟨x, hc, rfl⟩)⟩
  have := h.sub x hc
  rwa [allT_keys] at this
theorem iterI_card {ns : List Nd} (h : Wf ns) {f : Nat} (hf : f < ns.length + 2) {w : World} {it b : Nat} {ks seen : List Int} (hi : IterT keyI Value.bool w it b (allT ks) seen) (hk : ∀ x, x ∈ ks ↔ ∃ y : Nat, y ∈ mems ns f ∧ x = (y : Int)) : seen.length ≤ (mems ns f).length := by
  have h1 : seen.Nodup := hi.nodup
  have h2 : (ofI seen).length = seen.length := ofI_nodup_len h1
  have h3 : ∀ x, x ∈ ofI seen → x ∈ srtM ns f := fun x hx => by
    have := hi.sub x (mem_ofI.1 hx)
    rw [allT_keys] at this
    exact mem_srtM.2 ((hk x).1 this)
  have key : ∀ {l1 l2 : List Int}, l1.Nodup → (∀ x, x ∈ l1 → x ∈ l2) → l1.length ≤ l2.length := by
    intro l1
    induction l1 with
    | nil => intro l2 _ _; exact Nat.zero_le _
    | cons x xs ih =>
      intro l2 hn hs
      obtain ⟨h1, h2⟩ := List.nodup_cons.1 hn
      have hx := hs x (List.mem_cons_self ..)
      have := ih (l2 := l2.erase x) h2 (fun y hy => (List.mem_erase_of_ne (fun (e : y = x) => h1 (e ▸ hy))).2 (hs y (List.mem_cons_of_mem _ hy)))
      rw [List.length_erase_of_mem hx] at this
      have hp := List.length_pos_of_mem hx
      rw [List.length_cons]; omega
  have h4 := key (inc_ofI seen).nodup h3
  rw [h2, srtM_len h hf] at h4
  exact h4
theorem told_all {ns : List Nd} {f : Nat} {ks : List Int} (h : Told ns f 0 [] ks) : ∀ x, x ∈ ks ↔ ∃ y : Nat, y ∈ mems ns f ∧ x = (y : Int) := fun x => by
  rw [h x]
  constructor
  · rintro (k | ⟨y, h1, h2⟩)
    · cases k
    · exact ⟨y, h1, by rw [Nat.zero_or] at h2; exact h2⟩
  · rintro ⟨y, h1, rfl⟩
    exact .inr ⟨y, h1, by rw [Nat.zero_or]⟩

end Go.Proofs.Ytpamgfbecgjjeaa
