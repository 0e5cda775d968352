/-
  Rising rows of numbers: putting a number in its place, merging; what is told of a family; what is marked. No program in it. What the statements about families need: outcomes with room enough, the document's rows, and what they have to do with a family's members. No program in it. Ids and the rows of their members: what each deed comes to when there is room. No program in it.
-/
import Derived.Test.YtpamgfbecgjjeaaZ1
import Derived.Test.YtpamgfbecgjjeaaFrame
namespace Go.Proofs.Ytpamgfbecgjjeaa
set_option linter.unusedVariables false
set_option linter.unusedSimpArgs false

section
open Go Go.RowKit

theorem vbt {b : Bool} (h : b = true) : Value.bool true = .bool b := by rw [h]
theorem vbf {b : Bool} (h : ¬ b = true) : Value.bool false = .bool b := by rw [Bool.eq_false_iff.2 h]
theorem eq_allZ {α : Type} (d : α) (a b : List α) (hl : a.length = b.length) (h : ∀ q, q < a.length → a.getD q d = b.getD q d) : a = b := by
  refine List.ext_getElem? fun i => ?_
  by_cases hi : i < a.length
  · have := h i hi
    rw [List.getD_eq_getElem?_getD, List.getD_eq_getElem?_getD, List.getElem?_eq_getElem hi, List.getElem?_eq_getElem (show i < b.length by omega)] at this
    rw [List.getElem?_eq_getElem hi, List.getElem?_eq_getElem (show i < b.length by omega)]
    exact congrArg some this
  · rw [List.getElem?_eq_none (by omega), List.getElem?_eq_none (by omega)]
theorem sz_0 {a b : List Int} (h : ¬ (a.length : Int) = (b.length : Int)) : Value.bool false = .bool (decide (a = b)) := vbf fun k => h (by rw [of_decide_eq_true k])
theorem sz_1 {a b : List Int} {k : Nat} (h : ¬ a.getD k 0 = b.getD k 0) : Value.bool false = .bool (decide (a = b)) := vbf fun q => h (by rw [of_decide_eq_true q])
theorem sz_2 {a b : List Int} {k : Nat} (hl : a.length = b.length) (hk : k = a.length) (h : ∀ q, q < k → a.getD q 0 = b.getD q 0) : Value.bool true = .bool (decide (a = b)) := vbt (decide_eq_true (eq_allZ 0 a b hl (hk ▸ h)))

/-! ### Rising rows -/
def Inc (l : List Int) : Prop := l.Pairwise fun a b => a < b
theorem inc_ext : ∀ {a b : List Int}, Inc a → Inc b → (∀ x, x ∈ a ↔ x ∈ b) → a = b
  | [], [], _, _, _ => rfl
  | [], b :: bs, _, _, h => by have := (h b).2 (List.mem_cons_self ..); cases this
  | a :: as, [], _, _, h => by have := (h a).1 (List.mem_cons_self ..); cases this
  | a :: as, b :: bs, ha, hb, h => by
    obtain ⟨a1, a2⟩ := List.pairwise_cons.1 ha
    obtain ⟨b1, b2⟩ := List.pairwise_cons.1 hb
    have e : a = b := by
      rcases List.mem_cons.1 ((h a).1 (List.mem_cons_self ..)) with e | k
      · exact e
      · rcases List.mem_cons.1 ((h b).2 (List.mem_cons_self ..)) with e | q
        · exact e.symm
        · have := a1 b q
          have := b1 a k
          omega
    subst e
    rw [inc_ext a2 b2 (fun x => ⟨fun k => ?_, fun k => ?_⟩)]
    · rcases List.mem_cons.1 ((h x).1 (List.mem_cons_of_mem _ k)) with e | q
      · have := a1 x k; omega
      · exact q
    · rcases List.mem_cons.1 ((h x).2 (List.mem_cons_of_mem _ k)) with e | q
      · have := b1 x k; omega
      · exact q
theorem Inc.nodup {l : List Int} (h : Inc l) : l.Nodup := h.imp (fun h e => by omega)
def withI : List Int → Int → List Int
  | [], m => [m]
  | x :: xs, m => if x < m then x :: withI xs m else if x = m then x :: xs else m :: x :: xs
theorem mem_withI {m x : Int} : ∀ {l : List Int}, x ∈ withI l m ↔ x ∈ l ∨ x = m
  | [] => by simp [withI]
  | y :: ys => by
    rw [withI]
    split
    · rw [List.mem_cons, mem_withI, List.mem_cons, or_assoc]
    · split
      · rename_i h; subst h
        exact ⟨.inl, fun h => h.elim _root_.id fun e => by rw [e]; exact List.mem_cons_self ..⟩
      · rw [List.mem_cons]
        exact ⟨fun h => h.elim .inr .inl, fun h => h.elim .inr .inl⟩
theorem inc_withI {m : Int} : ∀ {l : List Int}, Inc l → Inc (withI l m)
  | [], _ => List.pairwise_singleton _ _
  | y :: ys, h => by
    obtain ⟨h1, h2⟩ := List.pairwise_cons.1 h
    rw [withI]
    split
    · refine List.pairwise_cons.2 ⟨fun z hz => ?_, inc_withI h2⟩
      rcases mem_withI.1 hz with hz | rfl
      · exact h1 z hz
      · assumption
    · split
      · exact h
      · refine List.pairwise_cons.2 ⟨fun z hz => ?_, h⟩
        rcases List.mem_cons.1 hz with rfl | hz
        · omega
        · have := h1 z hz; omega
theorem with_at {m : Int} : ∀ (l : List Int) (k : Nat), k ≤ l.length → (∀ q, q < k → l.getD q 0 < m) → (k < l.length → ¬ l.getD k 0 < m ∧ ¬ l.getD k 0 = m) → l.take k ++ [m] ++ l.drop k = withI l m
  | [], k, h, _, _ => by
    obtain rfl : k = 0 := by simpa using h
    rfl
  | x :: xs, 0, _, _, h => by
    have h0 := h (by simp)
    have h1 : ¬ x < m ∧ ¬ x = m := by simpa using h0
    rw [withI, if_neg h1.1, if_neg h1.2]; rfl
  | x :: xs, k + 1, hk, h1, h2 => by
    have h0 : x < m := by simpa using h1 0 (by omega)
    rw [withI, if_pos h0, ← with_at xs k (by simpa using hk) (fun q hq => by simpa using h1 (q + 1) (by omega)) (fun h => by simpa using h2 (by simpa using h))]
    rfl
theorem with_met {m : Int} : ∀ (l : List Int) (k : Nat), k < l.length → (∀ q, q < k → l.getD q 0 < m) → l.getD k 0 = m → l = withI l m
  | [], k, h, _, _ => by simp at h
  | x :: xs, 0, _, _, h => by
    have h1 : x = m := by simpa using h
    rw [withI, if_neg (by omega), if_pos h1]
  | x :: xs, k + 1, hk, h1, h2 => by
    have h0 : x < m := by simpa using h1 0 (by omega)
    rw [withI, if_pos h0, ← with_met xs k (by simpa using hk) (fun q hq => by simpa using h1 (q + 1) (by omega)) (by simpa using h2)]
theorem withI_len (l : List Int) (m : Int) : (withI l m).length ≤ l.length + 1 := by
  induction l with
  | nil => exact Nat.le_refl _
  | cons x xs ih =>
    rw [withI]
    split
    · simp only [List.length_cons]; omega
    · split <;> simp
def ofTo (l : List Int) : Nat → List Int
  | 0 => []
  | k + 1 => withI (ofTo l k) (l.getD k 0)
def ofI (l : List Int) : List Int := ofTo l l.length
theorem ofTo_inc (l : List Int) : ∀ k, Inc (ofTo l k)
  | 0 => List.Pairwise.nil
  | k + 1 => inc_withI (ofTo_inc l k)
theorem ofTo_len (l : List Int) : ∀ k, (ofTo l k).length ≤ k
  | 0 => Nat.le_refl _
  | k + 1 => by
    have h1 := ofTo_len l k
    have h2 := withI_len (ofTo l k) (l.getD k 0)
    rw [ofTo]; omega
theorem mem_ofTo {l : List Int} {x : Int} : ∀ k, k ≤ l.length → (x ∈ ofTo l k ↔ x ∈ l.take k)
  | 0, _ => by simp [ofTo]
  | k + 1, hk => by
    rw [ofTo, mem_withI, mem_ofTo k (by omega), take_s (by omega), List.mem_append, List.mem_singleton]
theorem mem_ofI {l : List Int} {x : Int} : x ∈ ofI l ↔ x ∈ l := by
  unfold ofI
  rw [mem_ofTo _ (Nat.le_refl _), List.take_length]
theorem inc_ofI (l : List Int) : Inc (ofI l) := ofTo_inc l _
theorem ofI_len (l : List Int) : (ofI l).length ≤ l.length := ofTo_len l _
theorem ofI_eq {l a : List Int} (h : Inc a) (hm : ∀ x, x ∈ a ↔ x ∈ l) : a = ofI l := inc_ext h (inc_ofI l) fun x => by rw [hm, mem_ofI]
theorem ofI_nodup_len {l : List Int} (h : l.Nodup) : (ofI l).length = l.length := by
  have key : ∀ {l1 l2 : List Int}, l1.Nodup → (∀ x, x ∈ l1 → x ∈ l2) → l1.length ≤ l2.length := by
    intro l1
    induction l1 with
    | nil => intro l2 _ _; exact Nat.zero_le _
    | cons x xs ih =>
      intro l2 hn hs
      obtain ⟨h1, h2⟩ := List.nodup_cons.1 hn
      have hx := hs x (List.mem_cons_self ..)
      have := ih (l2 := l2.erase x) h2 (fun y hy => (List.mem_erase_of_ne (fun (e : y = x) => h1 (e ▸ hy))).2 (hs y (List.mem_cons_of_mem _ hy)))
      rw [List.length_erase_of_mem hx] at this
      have hp := List.length_pos_of_mem hx
      rw [List.length_cons]; omega
  have h1 := key h (fun x hx => mem_ofI.2 hx)
  have h2 := ofI_len l
  omega

/-! ### Merging -/
def mrg : List Int → List Int → List Int
  | [], b => b
  | a, [] => a
  | x :: xs, y :: ys => if x < y then x :: mrg xs (y :: ys) else y :: mrg (x :: xs) ys
theorem mrg_nil (a : List Int) : mrg a [] = a := by cases a <;> simp [mrg]
theorem mem_mrg {x : Int} : ∀ (a b : List Int), x ∈ mrg a b ↔ x ∈ a ∨ x ∈ b
  | [], b => by simp [mrg]
  | a :: as, [] => by simp [mrg]
  | a :: as, b :: bs => by
    rw [mrg]
    split
    · rw [List.mem_cons, mem_mrg as (b :: bs), List.mem_cons (a := x) (b := a), or_assoc]
    · rw [List.mem_cons, mem_mrg (a :: as) bs, List.mem_cons (a := x) (b := b)]
      constructor
      · rintro (h | h | h)
        · exact .inr (.inl h)
        · exact .inl h
        · exact .inr (.inr h)
      · rintro (h | h | h)
        · exact .inr (.inl h)
        · exact .inl h
        · exact .inr (.inr h)
theorem inc_mrg : ∀ (a b : List Int), Inc a → Inc b → (∀ x, x ∈ a → x ∉ b) → Inc (mrg a b)
  | [], b, _, h, _ => by simpa [mrg] using h
  | a :: as, [], h, _, _ => by rw [mrg_nil]; exact h
  | a :: as, b :: bs, ha, hb, hd => by
    obtain ⟨a1, a2⟩ := List.pairwise_cons.1 ha
    obtain ⟨b1, b2⟩ := List.pairwise_cons.1 hb
    rw [mrg]
    split
    · refine List.pairwise_cons.2 ⟨fun z hz => ?_, inc_mrg as (b :: bs) a2 hb (fun x hx => hd x (List.mem_cons_of_mem _ hx))⟩
      rcases (mem_mrg _ _).1 hz with hz | hz
      · exact a1 z hz
      · rcases List.mem_cons.1 hz with rfl | hz
        · assumption
        · have := b1 z hz; omega
    · have hne : a ≠ b := fun e => hd a (List.mem_cons_self ..) (by rw [e]; exact List.mem_cons_self ..)
      refine List.pairwise_cons.2 ⟨fun z hz => ?_, inc_mrg (a :: as) bs ha b2 (fun x hx hq => hd x hx (List.mem_cons_of_mem _ hq))⟩
      rcases (mem_mrg _ _).1 hz with hz | hz
      · rcases List.mem_cons.1 hz with rfl | hz
        · omega
        · have := a1 z hz; omega
      · exact b1 z hz
theorem mrg_a {out a b : List Int} (ha : 0 < a.length) (h : b.length = 0 ∨ a.getD 0 0 < b.getD 0 0) : out ++ mrg a b = (out ++ [a.getD 0 0]) ++ mrg ((a.drop 1).take (a.length - 1)) b := by
  cases a with
  | nil => simp at ha
  | cons x xs =>
    have e : ((x :: xs).drop 1).take ((x :: xs).length - 1) = xs := by simp
    rw [e]
    cases b with
    | nil => rw [mrg_nil, mrg_nil]; simp
    | cons y ys =>
      have h1 : x < y := by simpa using h
      rw [mrg, if_pos h1]; simp
theorem mrg_b {out a b : List Int} (hb : 0 < b.length) (h : a.length = 0 ∨ ¬ a.getD 0 0 < b.getD 0 0) : out ++ mrg a b = (out ++ [b.getD 0 0]) ++ mrg a ((b.drop 1).take (b.length - 1)) := by
  cases b with
  | nil => simp at hb
  | cons y ys =>
    have e : ((y :: ys).drop 1).take ((y :: ys).length - 1) = ys := by simp
    rw [e]
    cases a with
    | nil => simp [mrg]
    | cons x xs =>
      have h1 : ¬ x < y := by simpa using h
      rw [mrg, if_neg h1]; simp
theorem mrg_end {out a b : List Int} (ha : a.length = 0) (hb : b.length = 0) : out ++ mrg a b = out := by
  rw [List.eq_nil_of_length_eq_zero ha, List.eq_nil_of_length_eq_zero hb]; simp [mrg]
theorem sort_halves {l : List Int} (h : l.Nodup) (k : Nat) : mrg (ofI (l.take k)) (ofI (l.drop k)) = ofI l := by
  have hsp : l = l.take k ++ l.drop k := (List.take_append_drop k l).symm
  refine ofI_eq (inc_mrg _ _ (inc_ofI _) (inc_ofI _) fun x hx hy => ?_) fun x => ?_
  · rw [hsp, List.nodup_append] at h
    exact h.2.2 x (mem_ofI.1 hx) x (mem_ofI.1 hy) rfl
  · rw [mem_mrg, mem_ofI, mem_ofI]
    conv => rhs; rw [hsp, List.mem_append]
theorem sort_small {l : List Int} (h : l.length < 2) : l = ofI l := by
  match l, h with
  | [], _ => rfl
  | [x], _ => rfl

/-! ### A family's members, rising -/
def srtM (ns : List Nd) (f : Nat) : List Int := ofI ((mems ns f).map fun x : Nat => (x : Int))
theorem mem_srtM {ns : List Nd} {f : Nat} {x : Int} : x ∈ srtM ns f ↔ ∃ y : Nat, y ∈ mems ns f ∧ x = (y : Int) := by
  unfold srtM
  rw [mem_ofI, List.mem_map]
  exact ⟨fun ⟨y, h1, h2⟩ => ⟨y, h1, h2.symm⟩, fun ⟨y, h1, h2⟩ => ⟨y, h1, h2.symm⟩⟩
theorem srtM_len {ns : List Nd} (h : Wf ns) {f : Nat} (hf : f < ns.length + 2) : (srtM ns f).length = (mems ns f).length := by
  unfold srtM
  rw [ofI_nodup_len, List.length_map]
  exact List.pairwise_map.2 ((mems_nodup h f hf).imp (fun hne e => hne (by omega)))
theorem srt_keys {ns : List Nd} {f : Nat} {ks : List Int} (h : ∀ x, x ∈ ks ↔ ∃ y : Nat, y ∈ mems ns f ∧ x = (y : Int)) : ofI ks = srtM ns f := ofI_eq (inc_ofI ks) fun x => by
  rw [mem_ofI, h, List.mem_map]
  exact ⟨fun ⟨y, h1, h2⟩ => ⟨y, h1, h2.symm⟩, fun ⟨y, h1, h2⟩ => ⟨y, h1, h2.symm⟩⟩
/-- The members told, with those of m added. -/
def Told (ns : List Nd) (f m : Nat) (ks ks' : List Int) : Prop := ∀ x, x ∈ ks' ↔ x ∈ ks ∨ ∃ y : Nat, y ∈ mems ns f ∧ x = ((m ||| y : Nat) : Int)
theorem told_1 {ns : List Nd} {f m : Nat} {ks : List Int} (h : (f : Int) = 1) : Told ns f m ks (insK ks (m : Int)) := fun x => by
  obtain rfl : f = 1 := by omega
  rw [mem_insK, mems_1]
  refine or_congr Iff.rfl ⟨fun e => ⟨0, List.mem_cons_self .., by rw [Nat.or_zero]; exact e⟩, fun ⟨y, h1, h2⟩ => ?_⟩
  rw [List.mem_singleton.1 h1, Nat.or_zero] at h2
  exact h2
theorem told_0 {ns : List Nd} {f m : Nat} {ks : List Int} (h : f < 2) (h1 : ¬ (f : Int) = 1) : Told ns f m ks ks := fun x => by
  obtain rfl : f = 0 := by omega
  rw [mems_0]
  exact ⟨.inl, fun k => k.elim _root_.id fun ⟨y, h1, _⟩ => by cases h1⟩
theorem told_node {ns : List Nd} (h : Wf ns) {f m : Nat} {n : Nd} {ks k1 k2 : List Int} (hn : NodeOf ns f n) (h1 : Told ns n.lo m ks k1) (h2 : Told ns n.hi (m ||| 1 * 2 ^ n.l) k1 k2) : Told ns f m ks k2 := fun x => by
  have e : ∀ y, (y ∈ mems ns f) = M ns f y := fun _ => rfl
  rw [h2, h1, or_assoc]
  refine or_congr Iff.rfl ?_
  simp only [e]
  rw [hn.mem]
  have key : ∀ y, y ∈ mems ns n.hi → m ||| 1 * 2 ^ n.l ||| y = m ||| (y + 2 ^ n.l) := fun y hy => by
    have := (or_up1 (Nat.dvd_zero (2 ^ (n.l + 1))) (dvd_lt hn.lhi (mems_bits h _ hn.vhi y hy).1)).1
    rw [Nat.zero_add, Nat.zero_or] at this
    rw [Nat.one_mul, Nat.or_assoc, this]
  constructor
  · rintro (⟨y, hy, rfl⟩ | ⟨y, hy, rfl⟩)
    · exact ⟨y, .inl hy, rfl⟩
    · exact ⟨y + 2 ^ n.l, .inr ⟨y, hy, rfl⟩, by rw [key y hy]⟩
  · rintro ⟨y, hy | ⟨z, hz, rfl⟩, rfl⟩
    · exact .inl ⟨y, hy, rfl⟩
    · exact .inr ⟨z, hz, by rw [key z hz]⟩

/-! ### What is marked -/
theorem iterI_le {w : World} {it b : Nat} {ks seen : List Int} (h : IterT keyI Value.bool w it b (allT ks) seen) : seen.length ≤ (allT ks).length := by
  have hs : ∀ c, c ∈ seen → c ∈ ks := fun c hc => by
    have := h.sub c hc
    rwa [allT_keys] at this
  have key : ∀ {l1 l2 : List Int}, l1.Nodup → (∀ x, x ∈ l1 → x ∈ l2) → l1.length ≤ l2.length := by
    intro l1
    induction l1 with
    | nil => intro l2 _ _; exact Nat.zero_le _
    | cons x xs ih =>
      intro l2 hn hs
      obtain ⟨h1, h2⟩ := List.nodup_cons.1 hn
      have hx := hs x (List.mem_cons_self ..)
      have := ih (l2 := l2.erase x) h2 (fun y hy => (List.mem_erase_of_ne (fun (e : y = x) => h1 (e ▸ hy))).2 (hs y (List.mem_cons_of_mem _ hy)))
      rw [List.length_erase_of_mem hx] at this
      have hp := List.length_pos_of_mem hx
      rw [List.length_cons]; omega
  have := key h.nodup hs
  unfold allT
  rw [List.length_map]; exact this
theorem iterI_all {w : World} {it b : Nat} {ks seen : List Int} (h : IterT keyI Value.bool w it b (allT ks) seen) (hd : ∀ p ∈ allT ks, p.1 ∈ seen) (x : Int) : x ∈ seen.reverse ↔ x ∈ ks := by
  rw [List.mem_reverse]
  refine ⟨fun hc => ?_, fun hc => hd (x, true) (List.mem_map.2 ⟨x, hc, rfl⟩)⟩
  have := h.sub x hc
  rwa [allT_keys] at this
theorem iterI_card {ns : List Nd} (h : Wf ns) {f : Nat} (hf : f < ns.length + 2) {w : World} {it b : Nat} {ks seen : List Int} (hi : IterT keyI Value.bool w it b (allT ks) seen) (hk : ∀ x, x ∈ ks ↔ ∃ y : Nat, y ∈ mems ns f ∧ x = (y : Int)) : seen.length ≤ (mems ns f).length := by
  have h1 : seen.Nodup := hi.nodup
  have h2 : (ofI seen).length = seen.length := ofI_nodup_len h1
  have h3 : ∀ x, x ∈ ofI seen → x ∈ srtM ns f := fun x hx => by
    have := hi.sub x (mem_ofI.1 hx)
    rw [allT_keys] at this
    exact mem_srtM.2 ((hk x).1 this)
  have key : ∀ {l1 l2 : List Int}, l1.Nodup → (∀ x, x ∈ l1 → x ∈ l2) → l1.length ≤ l2.length := by
    intro l1
    induction l1 with
    | nil => intro l2 _ _; exact Nat.zero_le _
    | cons x xs ih =>
      intro l2 hn hs
      obtain ⟨h1, h2⟩ := List.nodup_cons.1 hn
      have hx := hs x (List.mem_cons_self ..)
      have := ih (l2 := l2.erase x) h2 (fun y hy => (List.mem_erase_of_ne (fun (e : y = x) => h1 (e ▸ hy))).2 (hs y (List.mem_cons_of_mem _ hy)))
      rw [List.length_erase_of_mem hx] at this
      have hp := List.length_pos_of_mem hx
      rw [List.length_cons]; omega
  have h4 := key (inc_ofI seen).nodup h3
  rw [h2, srtM_len h hf] at h4
  exact h4
theorem told_all {ns : List Nd} {f : Nat} {ks : List Int} (h : Told ns f 0 [] ks) : ∀ x, x ∈ ks ↔ ∃ y : Nat, y ∈ mems ns f ∧ x = (y : Int) := fun x => by
  rw [h x]
  constructor
  · rintro (k | ⟨y, h1, h2⟩)
    · cases k
    · exact ⟨y, h1, by rw [Nat.zero_or] at h2; exact h2⟩
  · rintro ⟨y, h1, rfl⟩
    exact .inr ⟨y, h1, by rw [Nat.zero_or]⟩
end

section
open Go Go.RowKit

/-! ### Room enough -/
structure Fine (ns ns' : List Nd) (c : Nat) (S : Nat → Prop) (id : Nat) : Prop where
  v : id < ns'.length + 2
  mem : ∀ x, x ∈ mems ns' id ↔ S x
  pre : ns <+: ns'
  cost : ns'.length ≤ ns.length + c
theorem Got.valid {ns ns' : List Nd} {R c l : Nat} {S : Nat → Prop} {id : Nat} {er : Int} (g : Got ns ns' R c l S id er) : id < ns'.length + 2 := by
  rcases g.res with ⟨_, h2, _⟩ | ⟨_, h2, _⟩ <;> omega
theorem Fine.old {ns ns' : List Nd} {c : Nat} {S : Nat → Prop} {id f : Nat} (g : Fine ns ns' c S id) (h : f < ns.length + 2) : f < ns'.length + 2 ∧ mems ns' f = mems ns f := ⟨by have := pre_len g.pre; omega, mems_pre g.pre h⟩
theorem card_app {ns ns' : List Nd} (h : Wf ns') {id a b : Nat} (hid : id < ns'.length + 2) (hs : ∀ x, x ∈ mems ns' id → x ∈ mems ns a ∨ x ∈ mems ns b) : (mems ns' id).length ≤ (mems ns a).length + (mems ns b).length := by
  have := nodupN_le (l2 := mems ns a ++ mems ns b) (mems_nodup h id hid) (fun x hx => List.mem_append.2 (hs x hx))
  rwa [List.length_append] at this
/-! ### Slices whose block's type is known -/
def TyS (T : TypeId) (w : World) (v : Value) (l : List Int) : Prop := l ≠ [] → ∃ c fr, w.heap[slB v]? = some (.cells c T fr)
section
variable {T Ta Tn : TypeId} {N ba bm R : Nat} {w w' : World} {v : Value} {l : List Int} {ns : List Nd}
theorem TyS.own (h : OwT encI 1 T w N v l) : TyS T w v l := fun hne => by
  obtain ⟨h1, h2 | ⟨g, cap, cur, h3, hg, hh, r⟩⟩ := h
  · exact absurd (List.eq_nil_of_length_eq_zero h2.2) hne
  · subst h3
    exact ⟨_, _, hh⟩
theorem TyS.ext (h : Ext w w') (k : TyS T w v l) : TyS T w' v l := fun hne => by
  obtain ⟨c, fr, hc⟩ := k hne
  exact ⟨c, fr, by rw [Below.block h _ (lt_of_block hc)]; exact hc⟩
theorem TyS.blk (D : Dia Ta Tn N ba bm R w ns) (hx : Dx Tn N [ba, bm] w w') (k : TyS T w v l) (hTa : T ≠ Ta) (hTn : T ≠ Tn) (hne : l ≠ []) : w'.heap[slB v]? = w.heap[slB v]? := by
  obtain ⟨c, fr, hc⟩ := k hne
  obtain ⟨nv, h1, h2⟩ := D.out
  obtain ⟨f, ck, hf⟩ := D.hm
  refine hx.block _ (lt_of_block hc) (.inr ⟨?_, fun c' fr' e => ?_⟩)
  · have n1 : slB v ≠ ba := fun e => by
      have h3 : w.heap[ba]? = _ := h1
      rw [e, h3] at hc
      simp only [Option.some.injEq, Obj.cells.injEq] at hc
      exact hTa hc.2.1.symm
    have n2 : slB v ≠ bm := fun e => by rw [e, hf.heap] at hc; cases hc
    simp [n1, n2]
  · rw [hc] at e
    simp only [Option.some.injEq, Obj.cells.injEq] at e
    exact hTn e.2.1
theorem TyS.dx (D : Dia Ta Tn N ba bm R w ns) (hx : Dx Tn N [ba, bm] w w') (k : TyS T w v l) (hTa : T ≠ Ta) (hTn : T ≠ Tn) : TyS T w' v l := fun hne => by
  rw [TyS.blk D hx k hTa hTn hne]
  exact k hne
theorem SlT.dx (D : Dia Ta Tn N ba bm R w ns) (hx : Dx Tn N [ba, bm] w w') (k : TyS T w v l) (hs : SlT encI 1 w v l) (hTa : T ≠ Ta) (hTn : T ≠ Tn) : SlT encI 1 w' v l := by
  have hs' : Sl w 1 v l.length (l.flatMap encI) := hs
  refine ⟨hs'.form, hs'.len, fun j u hu => ?_⟩
  have hne : l ≠ [] := fun e => by subst e; simp at hu
  have h1 := hs'.cell j u hu
  have e := TyS.blk D hx k hTa hTn hne
  unfold World.cell? at h1 ⊢
  rw [e]; exact h1
theorem TyS.part (k : TyS T w v l) (hs : SlT encI 1 w v l) {i j m : Nat} {l2 : List Int} (hj : j ≤ m) (hl : l2.length = j - i) (hl0 : l2 ≠ [] → l ≠ []) : TyS T w (slOf 1 v i j m) l2 := fun hne => by
  obtain ⟨c, fr, hc⟩ := k (hl0 hne)
  have hpos : 0 < l2.length := List.length_pos_iff.2 hne
  have hmi : ¬ m = i := by omega
  obtain ⟨hv, hn, h0, ha⟩ := Sl.eqv hs
  cases hA : slA v with
  | none =>
    have := h0 hA
    have : l = [] := List.eq_nil_of_length_eq_zero (by omega)
    exact absurd this (hl0 hne)
  | some a =>
    have hb : slB (slOf 1 v i j m) = slB v := by
      have e1 : slB v = a.block := by rw [hv, hA]; rfl
      rw [e1]
      unfold slOf
      rw [if_neg hmi, hA]
      show (a.add (i * 1)).block = a.block
      unfold Addr.add
      split <;> rfl
    rw [hb]
    exact ⟨c, fr, hc⟩
end

/-! ### The document's rows -/
def pickI (F G : List Int) (b : Bool) : List Int := F.filter fun x => decide (x ∈ G) == b
theorem inc_filter {l : List Int} (h : Inc l) (p : Int → Bool) : Inc (l.filter p) := List.Pairwise.filter p h
theorem bit_rem (m i : Nat) : Value.bool (decide (((m / 2 ^ i % 2 : Nat) : Int) = 1)) = .bool (m.testBit i) := congrArg Value.bool (by
  rw [Nat.testBit_eq_decide_div_mod_eq]
  by_cases h : m / 2 ^ i % 2 = 1
  · rw [decide_eq_true h, decide_eq_true (by omega)]
  · rw [decide_eq_false h, decide_eq_false (by omega)])
theorem with_new {l : List Int} {m : Int} {k : Nat} (hk : k ≤ l.length) (h1 : ∀ q, q < k → l.getD q 0 < m) (h2 : k < l.length → ¬ l.getD k 0 < m ∧ ¬ l.getD k 0 = m) : (([] ++ (l.drop 0).take (k - 0)) ++ [m]) ++ (l.drop k).take (l.length - k) = withI l m := by
  rw [← with_at l k hk h1 h2, List.drop_zero, Nat.sub_zero, List.nil_append, List.take_of_length_le (l := l.drop k) (by simp)]

/-! ### Rows and families -/
theorem srt_of {ns : List Nd} {a : Nat} {f : List Int} (hf : ofZB f = true) (hm : ∀ x, x ∈ mems ns a ↔ bS f 0 x) : srtM ns a = ofI f := by
  unfold srtM
  refine ofI_eq (inc_ofI _) fun x => ?_
  rw [mem_ofI, List.mem_map]
  have h0 := ofB_iff.1 hf
  constructor
  · rintro ⟨y, hy, rfl⟩
    obtain ⟨m, h1, h2⟩ := (hm y).1 hy
    rw [clr_0] at h2
    have := h0 m h1
    rw [h2, Int.toNat_of_nonneg this.1]; exact h1
  · intro h
    have := h0 x h
    exact ⟨x.toNat, (hm _).2 ⟨x, h, (clr_0 _).symm⟩, Int.toNat_of_nonneg this.1⟩
theorem inc_srtM (ns : List Nd) (a : Nat) : Inc (srtM ns a) := inc_ofI _
theorem nat_in {ns : List Nd} {b y : Nat} : ((y : Nat) : Int) ∈ srtM ns b ↔ y ∈ mems ns b := by
  rw [mem_srtM]
  exact ⟨fun ⟨z, h1, h2⟩ => by rw [show y = z by omega]; exact h1, fun h => ⟨y, h, rfl⟩⟩
theorem srt_le {ns ns' : List Nd} {a b u : Nat} {F G : List Int} (ha : srtM ns a = F) (hb : srtM ns b = G) (hu : ∀ x, x ∈ mems ns' u ↔ opL.res (M ns a) (M ns b) x) : srtM ns' u = pickI F G false := by
  subst ha hb
  refine inc_ext (inc_srtM _ _) (inc_filter (inc_srtM _ _) _) fun x => ?_
  unfold pickI
  rw [List.mem_filter, mem_srtM]
  constructor
  · rintro ⟨y, hy, rfl⟩
    obtain ⟨h1, h2⟩ := (hu y).1 hy
    exact ⟨nat_in.2 h1, by rw [decide_eq_false (fun k => h2 (nat_in.1 k))]; rfl⟩
  · rintro ⟨h1, h2⟩
    obtain ⟨y, hy, rfl⟩ := mem_srtM.1 h1
    have h3 : ¬ ((y : Nat) : Int) ∈ srtM ns b := by simpa using h2
    exact ⟨y, (hu y).2 ⟨hy, fun k => h3 (nat_in.2 k)⟩, rfl⟩
theorem same_ids {ns : List Nd} (h : Wf ns) {a b : Nat} (ha : a < ns.length + 2) (hb : b < ns.length + 2) : decide ((a : Int) = (b : Int)) = decide (srtM ns a = srtM ns b) := by
  by_cases e : a = b
  · subst e; rw [decide_eq_true rfl, decide_eq_true rfl]
  · rw [decide_eq_false (by omega), decide_eq_false]
    intro hs
    exact e (one_id h a ha b hb fun x => by rw [← nat_in, ← nat_in, hs])
end

section
open Go Go.RowKit

structure Is (ns : List Nd) (a : Nat) (F : List Int) : Prop where
  v : a < ns.length + 2
  s : srtM ns a = F
section
variable {ns ns' : List Nd} {a b id R c l : Nat} {A B f g : List Int} {er : Int}
theorem Is.pre (h : Is ns a A) (p : ns <+: ns') : Is ns' a A := by
  have e := h.s
  refine ⟨by have := pre_len p; have := h.v; omega, ?_⟩
  unfold srtM at e ⊢
  rw [mems_pre p h.v]
  exact e
theorem Is.len (h : Is ns a A) (hw : Wf ns) : (mems ns a).length = A.length := by rw [← h.s, srtM_len hw h.v]
theorem Is.cnt (h : Is ns a A) (hw : Wf ns) : cntI ns (a : Int) = (A.length : Int) := by
  rw [← h.len hw]
  exact cntI_nat h.v
theorem Is.same (h : Is ns a A) (k : Is ns b B) (hw : Wf ns) : decide ((a : Int) = (b : Int)) = decide (A = B) := by rw [same_ids hw h.v k.v, h.s, k.s]
theorem Is.ofS (hv : id < ns'.length + 2) (hA : Inc A) (h : ∀ x : Int, (∃ y : Nat, y ∈ mems ns' id ∧ x = (y : Int)) ↔ x ∈ A) : Is ns' id A := ⟨hv, inc_ext (inc_srtM _ _) hA fun x => by rw [mem_srtM]; exact h x⟩
theorem Is.item (h : Is ns a A) : ∀ x, x ∈ A → 0 ≤ x := fun x hx => by
  rw [← h.s] at hx
  obtain ⟨y, _, rfl⟩ := mem_srtM.1 hx
  omega
theorem Fine.of (q : Fine ns ns' c (bS f 0) id) (hf : ofZB f = true) : Is ns' id (ofI f) := ⟨q.v, srt_of hf q.mem⟩
theorem Fine.le (q : Fine ns ns' c (opL.res (M ns a) (M ns b)) id) (ha : Is ns a A) (hb : Is ns b B) : Is ns' id (pickI A B false) := ⟨q.v, srt_le ha.s hb.s q.mem⟩
theorem ofI_snoc (l : List Int) (x : Int) : withI (ofI l) x = ofI (l ++ [x]) := ofI_eq (inc_withI (inc_ofI l)) fun y => by rw [mem_withI, mem_ofI, List.mem_append, List.mem_singleton]
end

theorem list_is {T : TypeId} {ns : List Nd} {w' : World} {v : Value} {id : Nat} {F : List Int} (hI : Is ns id F) (hw : Wf ns) (hF : F.length ≤ 100000)
    (h : if (thereZ ns (id : Int) && decide (cntI ns (id : Int) ≤ 100000)) = true then ∃ x, v = .tuple #[x, .int .i64 0] ∧ SlT encI 1 w' x (srtM ns (id : Int).toNat) ∧ TyS T w' x (srtM ns (id : Int).toNat) else ∃ er, v = .tuple #[.slice none 0 0, .int .i64 er] ∧ er ≠ 0 ∧ (thereZ ns (id : Int) = false → er = 1)) :
    ∃ x, v = .tuple #[x, .int .i64 0] ∧ SlT encI 1 w' x F ∧ TyS T w' x F := by
  have hc : (thereZ ns (id : Int) && decide (cntI ns (id : Int) ≤ 100000)) = true := by
    rw [tz_iff.2 (show 0 ≤ (id : Int) ∧ (id : Int) < (ns.length : Int) + 2 by have := hI.v; omega), hI.cnt hw, decide_eq_true (show (F.length : Int) ≤ 100000 by omega)]
    rfl
  rw [if_pos hc, Int.toNat_natCast, hI.s] at h
  exact h
section
variable {ns ns' : List Nd} {a b id R c l n : Nat} {A B f g : List Int} {er : Int}
theorem pe_ok {ok : Bool} {S : Nat → Prop} (q : (ok = true ∧ Got ns ns' R c l S id er) ∨ (ok = false ∧ ns' = ns ∧ id = 0 ∧ er = 1)) (h : ok = true) : Got ns ns' R c l S id er := by
  rcases q with q | q
  · exact q.2
  · rw [h] at q; exact absurd q.1 (by decide)
theorem one_ok {j : Nat} (hj : j < 24) : ofZB [((2 ^ j : Nat) : Int)] = true := ofB_iff.2 fun m hm => by
  rw [List.mem_singleton.1 hm]
  have h1 : 2 ^ j ≤ 8388608 := by have := Nat.pow_le_pow_right (show 0 < 2 by decide) (show j ≤ 23 by omega); simpa using this
  have h2 := Nat.two_pow_pos j
  omega
end

/-! ### A literal of three numbers -/
section
variable {P : Program} {f : Nat → Value} {w w' : World} {d : Option Nat} {ty : TypeId} {ps : String} {af : Array Edge} {g : Option (Nat × Bool)} {t e T : TypeId} {by_ N sz b : Nat} {K : Value → World → Prop}
end

end

end Go.Proofs.Ytpamgfbecgjjeaa
