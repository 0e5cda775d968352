/- Plain words for coverings made smaller, and for the fewest columns. No program in it. Steps of the walks of the document's coverings, and of the laws. No program in it. Coverings as values: rows of rows, what making them smaller and the search hold in memory. No program in it. The walks of package r -/
import Derived.Test.YteimkklmmanncaaGreatWCover
namespace Go.Proofs.YteimkklmmanncaaGreat
set_option linter.unusedVariables false
set_option linter.unusedSimpArgs false
section
open Go Go.RowKit
abbrev ML := List (List Int)
def mg (L : ML) (X : List Int) : Prop := ∀ r, r ∈ L → ∃ c, c ∈ r ∧ c ∈ X
def pJ (L : ML) (c : Int) : Prop := ∃ r, r ∈ L ∧ c ∈ r
def ql (L : ML) (c : Int) : ML := L.filter fun r => !decide (c ∈ r)
def w5 (r : List Int) (c : Int) : List Int := r.filter fun x => !decide (x = c)
def nZ (L : ML) (c : Int) : ML := L.map fun r => w5 r c
theorem mF {L : ML} {c : Int} {r : List Int} : r ∈ ql L c ↔ r ∈ L ∧ c ∉ r := by
 unfold ql; rw [List.mem_filter]; simp
theorem mN {L : ML} {c : Int} {r : List Int} : r ∈ nZ L c ↔ ∃ q, q ∈ L ∧ r = w5 q c := by
 unfold nZ; rw [List.mem_map]; exact ⟨fun ⟨a, b, e⟩ => ⟨a, b, e.symm⟩, fun ⟨a, b, e⟩ => ⟨a, b, e.symm⟩⟩
theorem lC {q : List Int} {c x : Int} : x ∈ w5 q c ↔ x ∈ q ∧ x ≠ c := by
 unfold w5; rw [List.mem_filter]; simp
theorem Dy (X : List Int) : mg [] X := fun r h => by cases h
theorem CC {L : ML} {c : Int} {X : List Int} (h : mg (ql L c) X) : mg L (c :: X) := fun r hr => by
 by_cases hc : c ∈ r
 ·exact ⟨c, hc, List.mem_cons_self ..⟩
 ·obtain ⟨d, h1, h2⟩ := h r (mF.2 ⟨hr, hc⟩)
  exact ⟨d, h1, List.mem_cons_of_mem _ h2⟩
theorem zk {L : ML} {c : Int} {X : List Int} (hn : X.Nodup) (h : mg L X) : mg (ql L c) (X.erase c) := fun r hr => by
 obtain ⟨h1, h2⟩ := mF.1 hr
 obtain ⟨d, h3, h4⟩ := h r h1
 exact ⟨d, h3, (List.Nodup.mem_erase_iff hn).2 ⟨fun e => h2 (e ▸ h3), h4⟩⟩
theorem IK {L : ML} {c : Int} {X : List Int} (h : mg L X) (hc : c ∉ X) : mg (nZ L c) X := fun r hr => by
 obtain ⟨q, hq, rfl⟩ := mN.1 hr
 obtain ⟨d, h3, h4⟩ := h q hq
 exact ⟨d, lC.2 ⟨h3, fun e => hc (e ▸ h4)⟩, h4⟩
theorem Gg {L : ML} {c : Int} {X : List Int} (h : mg (nZ L c) X) : mg L X := fun r hr => by
 obtain ⟨d, h3, h4⟩ := h _ (mN.2 ⟨r, hr, rfl⟩)
 exact ⟨d, (lC.1 h3).1, h4⟩
theorem uQ {L : ML} {X Y : List Int} (h : mg L X) (k : ∀ c, c ∈ X → c ∈ Y) : mg L Y := fun r hr => (h r hr).imp fun c q => ⟨q.1, k c q.2⟩
theorem Dz {L : ML} {X : List Int} : nQ L X = true ↔ mg L X := uk
structure lj (L0 L : ML) (ks : List Int) : Prop where
 nd : ks.Nodup
 dis : ∀ c, c ∈ ks → ¬ pJ L c
 sub : ∀ c, pJ L c → pJ L0 c
 ksub : ∀ c, c ∈ ks → pJ L0 c
 up : ∀ X, mg L X → mg L0 (ks ++ X)
 dn : ∀ Y, Y.Nodup → mg L0 Y → ∃ X, X.Nodup ∧ mg L X ∧ ks.length + X.length ≤ Y.length
section
variable {L0 L L' : ML} {ks ks' : List Int} {r : List Int} {c d : Int}
theorem lj.start (L : ML) : lj L L [] := ⟨List.nodup_nil, fun c h => (by cases h), fun c h => h, fun c h => (by cases h), fun X h => h, fun Y h1 h2 => ⟨Y, h1, h2, by simp⟩⟩
theorem lj.take (h : lj L0 L ks) (hr : r ∈ L) (e : r = [c]) : lj L0 (ql L c) (ir ks c) := by
 have hin : pJ L c := ⟨r, hr, by rw [e]; exact List.mem_singleton.2 rfl⟩
 have hc : c ∉ ks := fun q => h.dis c q hin
 have ei : ir ks c = ks ++ [c] := if_neg hc
 refine ⟨i9 h.nd c, ?_, ?_, ?_, ?_, ?_⟩
 ·rintro d hd ⟨q, hq, hdq⟩
  obtain ⟨hq1, hq2⟩ := mF.1 hq
  rcases gf.1 hd with k | k
  ·exact h.dis d k ⟨q, hq1, hdq⟩
  ·rw [k] at hdq; exact hq2 hdq
 ·rintro d ⟨q, hq, hdq⟩
  exact h.sub d ⟨q, (mF.1 hq).1, hdq⟩
 ·intro d hd
  rcases gf.1 hd with k | k
  ·exact h.ksub d k
  ·rw [k]; exact h.sub c hin
 ·intro X hX
  have := h.up (c :: X) (CC hX)
  rw [ei, List.append_assoc]
  exact this
 ·intro Y hn hY
  obtain ⟨X, h1, h2, h3⟩ := h.dn Y hn hY
  have hcX : c ∈ X := by
   obtain ⟨d, hd, hd2⟩ := h2 r hr
   rw [e] at hd
   rwa [List.mem_singleton.1 hd] at hd2
  refine ⟨X.erase c, h1.erase c, zk h1 h2, ?_⟩
  rw [ei, List.length_append, List.length_erase_of_mem hcX, List.length_singleton]
  have := List.length_pos_of_mem hcX
  omega
theorem lj.rows (h : lj L0 L ks) (hs : ∀ r, r ∈ L' → r ∈ L) (hu : ∀ X, mg L' X → mg L X) : lj L0 L' ks :=
 ⟨h.nd, fun c hc ⟨r, hr, q⟩ => h.dis c hc ⟨r, hs r hr, q⟩, fun c ⟨r, hr, q⟩ => h.sub c ⟨r, hs r hr, q⟩, h.ksub, fun X hX => h.up X (hu X hX), fun Y hn hY => (h.dn Y hn hY).imp fun X ⟨h1, h2, h3⟩ => ⟨h1, fun r hr => h2 r (hs r hr), h3⟩⟩
theorem lj.cols (h : lj L0 L ks) (hne : ¬ d = c) (hd : ∀ r, r ∈ L → c ∈ r → d ∈ r) : lj L0 (nZ L c) ks := by
 refine ⟨h.nd, ?_, ?_, h.ksub, fun X hX => h.up X (Gg hX), ?_⟩
 ·rintro x hx ⟨r, hr, q⟩
  obtain ⟨r0, h0, rfl⟩ := mN.1 hr
  exact h.dis x hx ⟨r0, h0, (lC.1 q).1⟩
 ·rintro x ⟨r, hr, q⟩
  obtain ⟨r0, h0, rfl⟩ := mN.1 hr
  exact h.sub x ⟨r0, h0, (lC.1 q).1⟩
 ·intro Y hn hY
  obtain ⟨X, h1, h2, h3⟩ := h.dn Y hn hY
  by_cases hc : c ∈ X
  ·refine ⟨ir (X.erase c) d, i9 (h1.erase c) d, ?_, ?_⟩
   ·intro r hr
    obtain ⟨r0, h0, rfl⟩ := mN.1 hr
    obtain ⟨x, hx1, hx2⟩ := h2 r0 h0
    by_cases e : x = c
    ·subst e
     exact ⟨d, lC.2 ⟨hd r0 h0 hx1, hne⟩, gf.2 (.inr rfl)⟩
    ·exact ⟨x, lC.2 ⟨hx1, e⟩, gf.2 (.inl ((List.Nodup.mem_erase_iff h1).2 ⟨e, hx2⟩))⟩
   ·have h4 := oR (X.erase c) d
    rw [List.length_erase_of_mem hc] at h4
    have := List.length_pos_of_mem hc
    omega
  ·exact ⟨X, h1, IK h2 hc, h3⟩
theorem lj.perm (h : lj L0 L ks) (hn : ks'.Nodup) (hm : ∀ c, c ∈ ks' ↔ c ∈ ks) (hl : ks'.length = ks.length) : lj L0 L ks' :=
 ⟨hn, fun c hc => h.dis c ((hm c).1 hc), h.sub, fun c hc => h.ksub c ((hm c).1 hc), fun X hX => uQ (h.up X hX) fun c hc => by
  rcases List.mem_append.1 hc with k | k
  ·exact List.mem_append.2 (.inl ((hm c).2 k))
  ·exact List.mem_append.2 (.inr k), fun Y h1 h2 => by rw [hl]; exact h.dn Y h1 h2⟩
end
def qq : ML → Nat
 | [] => 0
 | r :: L => r.length + 1 + qq L
theorem BB (c : Int) : ∀ L : ML, qq (ql L c) ≤ qq L
 | [] => Nat.le_refl _
 | r :: L => by
  have h0 := BB c L
  unfold ql at *
  rw [List.filter_cons]
  split
  ·simp only [qq]; omega
  ·simp only [qq]; omega
theorem wV {c : Int} : ∀ {L : ML}, pJ L c → qq (ql L c) < qq L
 | [], ⟨r, h, _⟩ => by cases h
 | r :: L, ⟨q, hq, hc⟩ => by
  have h0 := BB c L
  by_cases hr : c ∈ r
  ·unfold ql at *
   rw [List.filter_cons, if_neg (by simp [hr])]
   simp only [qq]; omega
  ·have hq2 : q ∈ L := by
    rcases List.mem_cons.1 hq with e | e
    ·rw [e] at hc; exact absurd hc hr
    ·exact e
   have h1 := wV (L := L) ⟨q, hq2, hc⟩
   unfold ql at *
   rw [List.filter_cons, if_pos (by simp [hr])]
   simp only [qq]; omega
theorem xM (r : List Int) (c : Int) : (w5 r c).length ≤ r.length := List.length_filter_le _ _
theorem B5 (c : Int) : ∀ L : ML, qq (nZ L c) ≤ qq L
 | [] => Nat.le_refl _
 | r :: L => by
  have h0 := B5 c L
  have h1 := xM r c
  unfold nZ at *
  rw [List.map_cons]
  simp only [qq]; omega
theorem xD {c : Int} : ∀ {L : ML}, pJ L c → qq (nZ L c) < qq L
 | [], ⟨r, h, _⟩ => by cases h
 | r :: L, ⟨q, hq, hc⟩ => by
  have h0 := B5 c L
  have h1 := xM r c
  rcases List.mem_cons.1 hq with e | e
  ·rw [e] at hc
   have h2 : (w5 r c).length < r.length := by
    unfold w5
    exact List.length_filter_lt_length_iff_exists.2 ⟨c, hc, by simp⟩
   unfold nZ at *
   rw [List.map_cons]
   simp only [qq]; omega
  ·have h2 := xD (L := L) ⟨q, e, hc⟩
   unfold nZ at *
   rw [List.map_cons]
   simp only [qq]; omega
theorem H9 (L : ML) (c : Int) : (ql L c).length ≤ L.length := List.length_filter_le _ _
theorem xg {L : ML} {c : Int} (h : pJ L c) : (ql L c).length < L.length := by
 obtain ⟨r, hr, hc⟩ := h
 unfold ql
 exact List.length_filter_lt_length_iff_exists.2 ⟨r, hr, by simp [hc]⟩
theorem len_le (L : ML) (c : Int) : (nZ L c).length = L.length := by unfold nZ; rw [List.length_map]
def E3 (L : ML) (i : Nat) : ML := L.take i ++ L.drop (i + 1)
theorem yA : ∀ a b : ML, qq (a ++ b) = qq a + qq b
 | [], b => by simp [qq]
 | r :: a, b => by rw [List.cons_append]; simp only [qq]; rw [yA a b]; omega
theorem GS {L : ML} {i : Nat} (h : i < L.length) : qq (E3 L i) < qq L := by
 have e : L = L.take i ++ (L.getD i [] :: L.drop (i + 1)) := by
  rw [List.getD_eq_getElem?_getD, List.getElem?_eq_getElem h]
  simp
 have h1 := congrArg qq e
 rw [yA] at h1
 unfold E3
 rw [yA]
 simp only [qq] at h1
 omega
theorem Gq {L : ML} {i : Nat} {r : List Int} (h : r ∈ E3 L i) : r ∈ L := by
 rcases List.mem_append.1 h with k | k
 ·exact List.mem_of_mem_take k
 ·exact List.mem_of_mem_drop k
theorem GW {L : ML} {i k : Nat} (hk : k < L.length) (hne : ¬ k = i) : L.getD k [] ∈ E3 L i := by
 unfold E3
 rw [List.getD_eq_getElem?_getD, List.getElem?_eq_getElem hk]
 rcases Nat.lt_or_ge k i with q | q
 ·refine List.mem_append.2 (.inl (List.mem_take_iff_getElem.2 ⟨k, by omega, rfl⟩))
 ·refine List.mem_append.2 (.inr (List.mem_drop_iff_getElem.2 ⟨k - (i + 1), by omega, ?_⟩))
  show L[i + 1 + (k - (i + 1))] = _
  congr 1
  omega
theorem Nx {L : ML} {i k : Nat} {X : List Int} (hi : i < L.length) (hk : k < L.length) (hne : ¬ k = i) (hw : ∀ x, x ∈ L.getD k [] → x ∈ L.getD i []) (h : mg (E3 L i) X) : mg L X := fun r hr => by
 obtain ⟨j, hj, rfl⟩ := fk (d := []) hr
 by_cases e : j = i
 ·subst e
  obtain ⟨c, h1, h2⟩ := h _ (GW hk hne)
  exact ⟨c, hw c h1, h2⟩
 ·exact h _ (GW hj e)
theorem Mh {n : Int} {r : List Int} (h : nr n r = true) (c : Int) : nr n (w5 r c) = true := by
 have hp : r.Pairwise fun a b => a < b := List.pairwise_iff_getElem.2 fun i j hi hj hij => ?_
 ·exact zl (hp.filter _) fun x hx => by
   obtain ⟨k, hk, rfl⟩ := fk (d := 0) (lC.1 hx).1
   obtain ⟨h1, h2, _⟩ := iO.1 h k hk
   exact ⟨h1, h2⟩
 ·have key : ∀ m, i + 1 + m < r.length → r.getD i 0 < r.getD (i + 1 + m) 0 := by
   intro m
   induction m with
   | zero => intro hm; exact (iO.1 h (i + 1) hm).2.2 (by omega)
   | succ m ih =>
    intro hm
    have h1 := ih (by omega)
    have h2 := (iO.1 h (i + 1 + (m + 1)) hm).2.2 (by omega)
    rw [show i + 1 + (m + 1) - 1 = i + 1 + m by omega] at h2
    omega
  have h3 := key (j - (i + 1)) (by omega)
  rw [show i + 1 + (j - (i + 1)) = j by omega] at h3
  simpa [List.getD_eq_getElem?_getD, List.getElem?_eq_getElem hi, List.getElem?_eq_getElem hj] using h3
theorem v6 {n : Int} {L L' : ML} (h : dX n L = true) (k : ∀ r, r ∈ L' → nr n r = true) : dX n L' = true := by
 obtain ⟨h1, h2, _⟩ := fe.1 h
 exact fe.2 ⟨h1, h2, fun i hi => k _ (dS hi)⟩
theorem pF {n : Int} {L : ML} {r : List Int} (h : dX n L = true) (hr : r ∈ L) : nr n r = true := by
 obtain ⟨k, hk, rfl⟩ := fk (d := []) hr
 exact (fe.1 h).2.2 k hk
theorem oH {n : Int} {L : ML} {c : Int} (h : dX n L = true) (hc : pJ L c) : 0 ≤ c ∧ c < n := by
 obtain ⟨r, hr, hc⟩ := hc
 obtain ⟨k, hk, rfl⟩ := fk (d := 0) hc
 have := iO.1 (pF h hr) k hk
 exact ⟨this.1, this.2.1⟩
theorem vS {n : Int} {L : ML} (h : dX n L = true) (c : Int) : dX n (ql L c) = true := v6 h fun r hr => pF h (mF.1 hr).1
theorem Az {n : Int} {L : ML} (h : dX n L = true) (c : Int) : dX n (nZ L c) = true := v6 h fun r hr => by
 obtain ⟨q, hq, rfl⟩ := mN.1 hr
 exact Mh (pF h hq) c
theorem II {n : Int} {L : ML} (h : dX n L = true) (i : Nat) : dX n (E3 L i) = true := v6 h fun r hr => pF h (Gq hr)
theorem BU {n : Int} {r : List Int} (h : nr n r = true) : (r.length : Int) ≤ n ∨ r = [] := by
 rcases Nat.eq_zero_or_pos r.length with e | e
 ·exact .inr (List.eq_nil_of_length_eq_zero e)
 ·left
  have key : ∀ m, m < r.length → (m : Int) ≤ r.getD m 0 := by
   intro m
   induction m with
   | zero => intro hm; exact (iO.1 h 0 hm).1
   | succ m ih =>
    intro hm
    have h1 := ih (by omega)
    have h2 := (iO.1 h (m + 1) hm).2.2 (by omega)
    simp only [Nat.add_sub_cancel] at h2
    omega
  have h3 := key (r.length - 1) (by omega)
  have h4 := (iO.1 h (r.length - 1) (by omega)).2.1
  omega
theorem fF {n : Int} {L : ML} (h : dX n L = true) (i : Nat) : (L.getD i []).length ≤ 4000 := by
 obtain ⟨h1, h2, h3⟩ := fe.1 h
 by_cases hi : i < L.length
 ·rcases BU (h3 i hi) with k | k
  ·omega
  ·rw [k]; exact Nat.zero_le _
 ·rw [List.getD_eq_getElem?_getD, List.getElem?_eq_none (by omega)]; exact Nat.zero_le _
def Py (L : ML) (k : Nat) : Bool := L.any fun r => decide ((k : Int) ∈ r)
theorem n6 {L : ML} {k : Nat} : Py L k = true ↔ pJ L (k : Int) := by
 unfold Py pJ
 rw [List.any_eq_true]
 exact ⟨fun ⟨r, h1, h2⟩ => ⟨r, h1, of_decide_eq_true h2⟩, fun ⟨r, h1, h2⟩ => ⟨r, h1, decide_eq_true h2⟩⟩
def cnt (L : ML) : Nat := (List.range 4000).countP (Py L)
theorem lF {α : Type} {p q : α → Bool} : ∀ {l : List α}, (∀ x, x ∈ l → p x = true → q x = true) → l.countP p ≤ l.countP q
 | [], _ => Nat.le_refl _
 | a :: l, h => by
  have ih := lF (l := l) fun x hx => h x (List.mem_cons_of_mem _ hx)
  have h0 := h a (List.mem_cons_self ..)
  rw [List.countP_cons, List.countP_cons]
  by_cases e : p a = true
  ·rw [if_pos e, if_pos (h0 e)]; omega
  ·rw [if_neg e]; omega
theorem qE {α : Type} {p q : α → Bool} : ∀ {l : List α}, (∀ x, x ∈ l → p x = true → q x = true) → (∃ x, x ∈ l ∧ q x = true ∧ p x = false) → l.countP p < l.countP q
 | [], _, ⟨x, h, _⟩ => by cases h
 | a :: l, h, ⟨x, hx, hq, hp⟩ => by
  have ih0 := lF (l := l) fun x hx => h x (List.mem_cons_of_mem _ hx)
  have h0 := h a (List.mem_cons_self ..)
  rw [List.countP_cons, List.countP_cons]
  rcases List.mem_cons.1 hx with e | e
  ·rw [← e, if_pos hq, if_neg (by rw [hp]; decide)]; omega
  ·have ih := qE (l := l) (fun x hx => h x (List.mem_cons_of_mem _ hx)) ⟨x, e, hq, hp⟩
   by_cases e : p a = true
   ·rw [if_pos e, if_pos (h0 e)]; omega
   ·rw [if_neg e]; omega
theorem rB {L L' : ML} (h : ∀ c, pJ L c → pJ L' c) : cnt L ≤ cnt L' := lF fun x _ hx => n6.2 (h _ (n6.1 hx))
theorem Gr {n : Int} {L L' : ML} {c : Int} (hr : dX n L' = true) (h : ∀ c, pJ L c → pJ L' c) (h1 : pJ L' c) (h2 : ¬ pJ L c) : cnt L < cnt L' := by
 obtain ⟨h3, h4⟩ := oH hr h1
 obtain ⟨_, h5, _⟩ := fe.1 hr
 have e : ((c.toNat : Nat) : Int) = c := by omega
 refine qE (fun x _ hx => n6.2 (h _ (n6.1 hx))) ⟨c.toNat, List.mem_range.2 (by omega), n6.2 (by rw [e]; exact h1), ?_⟩
 refine Bool.eq_false_iff.2 fun k => h2 ?_
 have := n6.1 k
 rwa [e] at this
theorem Cg {n : Int} {L : ML} {c : Int} (hr : dX n L = true) (h : pJ L c) : cnt (ql L c) < cnt L :=
 Gr hr (fun d ⟨r, h1, h2⟩ => ⟨r, (mF.1 h1).1, h2⟩) h fun ⟨r, h1, h2⟩ => (mF.1 h1).2 h2
theorem BD {n : Int} {L : ML} {c : Int} (hr : dX n L = true) (h : pJ L c) : cnt (nZ L c) < cnt L :=
 Gr hr (fun d ⟨r, h1, h2⟩ => by obtain ⟨q, hq, rfl⟩ := mN.1 h1; exact ⟨q, hq, (lC.1 h2).1⟩) h fun ⟨r, h1, h2⟩ => by obtain ⟨q, hq, rfl⟩ := mN.1 h1; exact (lC.1 h2).2 rfl
theorem Ox {n : Nat} {L : ML} (h : dX (n : Int) L = true) : cnt L ≤ n := by
 have h1 : cnt L ≤ (List.range 4000).countP fun k => decide (k < n) := lF fun x _ hx => decide_eq_true (by
  have := oH h (n6.1 hx)
  omega)
 have h2 : ∀ m, (List.range m).countP (fun k => decide (k < n)) ≤ n := by
  intro m
  induction m with
  | zero => exact Nat.zero_le _
  | succ m ih =>
   rw [List.range_succ, List.countP_append, List.countP_cons, List.countP_nil]
   by_cases e : m < n
   ·have : (List.range m).countP (fun k => decide (k < n)) ≤ m := Nat.le_trans List.countP_le_length (by simp)
    rw [if_pos (decide_eq_true e)]; omega
   ·rw [if_neg (by rw [decide_eq_false e]; decide)]; omega
 exact Nat.le_trans h1 (h2 _)
def zq (U r : List Int) : Bool := r.any fun c => decide (c ∈ U)
def oz (U r : List Int) : Nat → List Int
 | 0 => U
 | k + 1 => ir (oz U r k) (r.getD k 0)
def wl (L : ML) : Nat → List Int
 | 0 => []
 | k + 1 => if zq (wl L k) (L.getD k []) then wl L k else oz (wl L k) (L.getD k []) (L.getD k []).length
def zV (L : ML) : Nat → Nat
 | 0 => 0
 | k + 1 => if zq (wl L k) (L.getD k []) then zV L k else zV L k + 1
theorem oN {U r : List Int} {c : Int} : ∀ k, k ≤ r.length → (c ∈ oz U r k ↔ c ∈ U ∨ c ∈ r.take k)
 | 0, _ => by simp [oz]
 | k + 1, hk => by
  rw [oz, gf, oN k (by omega), List.take_add_one, List.mem_append, List.getD_eq_getElem?_getD, List.getElem?_eq_getElem (show k < r.length by omega), or_assoc]
  simp [eq_comm]
theorem Li {L : ML} {X : List Int} (h : mg L X) : ∀ k, k ≤ L.length → zV L k ≤ X.countP fun c => decide (c ∈ wl L k)
 | 0, _ => Nat.zero_le _
 | k + 1, hk => by
  have ih := Li h k (by omega)
  rw [zV, wl]
  split
  ·exact ih
  ·rename_i hno
   obtain ⟨c, h1, h2⟩ := h _ (dS (d := []) (show k < L.length by omega))
   have hc : ¬ c ∈ wl L k := fun q => hno (List.any_eq_true.2 ⟨c, h1, decide_eq_true q⟩)
   refine Nat.lt_of_le_of_lt ih (qE (fun x _ hx => decide_eq_true ?_) ⟨c, h2, decide_eq_true ?_, decide_eq_false hc⟩)
   ·exact (oN _ (Nat.le_refl _)).2 (.inl (of_decide_eq_true hx))
   ·exact (oN _ (Nat.le_refl _)).2 (.inr (by rw [List.take_length]; exact h1))
theorem G2 {L : ML} {X : List Int} (h : mg L X) : zV L L.length ≤ X.length := Nat.le_trans (Li h _ (Nat.le_refl _)) List.countP_le_length
def Pi (x : ML × List Int) (Y : List Int) : Prop := ∃ X, X.Nodup ∧ mg x.1 X ∧ x.2.length + X.length ≤ Y.length
structure p6 (L0 : ML) (st : List (ML × List Int)) (best : List Int) : Prop where
 bs : mg L0 best
 up : ∀ x, x ∈ st → ∀ X, mg x.1 X → mg L0 (x.2 ++ X)
 dn : ∀ Y, Y.Nodup → mg L0 Y → best.length ≤ Y.length ∨ ∃ x, x ∈ st ∧ Pi x Y
section
variable {L0 : ML} {st : List (ML × List Int)} {x : ML × List Int} {best best' T : List Int} {rest : ML} {c : Int}
theorem p6.start (hb : mg L0 best) : p6 L0 [(L0, [])] best := ⟨hb, fun x hx X h => (by obtain rfl := List.mem_singleton.1 hx; exact h), fun Y h1 h2 => .inr ⟨_, List.mem_singleton.2 rfl, Y, h1, h2, by simp⟩⟩
theorem p6.drop (h : p6 L0 (st ++ [x]) best) (hb : mg L0 best') (hle : best'.length ≤ best.length) (hx : ∀ Y, Pi x Y → best'.length ≤ Y.length) : p6 L0 st best' := by
 refine ⟨hb, fun y hy => h.up y (List.mem_append.2 (.inl hy)), fun Y h1 h2 => ?_⟩
 rcases h.dn Y h1 h2 with k | ⟨y, hy, k⟩
 ·exact .inl (Nat.le_trans hle k)
 ·rcases List.mem_append.1 hy with q | q
  ·exact .inr ⟨y, q, k⟩
  ·rw [List.mem_singleton.1 q] at k
   exact .inl (hx Y k)
theorem p6.none (h : p6 L0 (st ++ [x]) best) {r : List Int} (hr : r ∈ x.1) (hn : r = []) : p6 L0 st best := h.drop h.bs (Nat.le_refl _) fun Y ⟨X, _, h2, _⟩ => by
 obtain ⟨c, h3, _⟩ := h2 r hr
 rw [hn] at h3; cases h3
theorem p6.sol (h : p6 L0 (st ++ [x]) best) (hr : lj x.1 rest T) (he : rest = []) : mg L0 (x.2 ++ T) := by
 have := h.up x (List.mem_append.2 (.inr (List.mem_singleton.2 rfl))) (T ++ []) (hr.up [] (by rw [he]; exact Dy _))
 rwa [List.append_nil] at this
theorem p6.hop (hr : lj x.1 rest T) {Y : List Int} (k : Pi x Y) : ∃ X, X.Nodup ∧ mg rest X ∧ (x.2 ++ T).length + X.length ≤ Y.length := by
 obtain ⟨X, h1, h2, h3⟩ := k
 obtain ⟨X', h4, h5, h6⟩ := hr.dn X h1 h2
 exact ⟨X', h4, h5, by rw [List.length_append]; omega⟩
theorem p6.leaf (h : p6 L0 (st ++ [x]) best) (hr : lj x.1 rest T) (he : rest = []) (hl : (x.2 ++ T).length < best.length) : p6 L0 st (x.2 ++ T) := h.drop (h.sol hr he) (Nat.le_of_lt hl) fun Y k => by
 obtain ⟨X, _, _, h3⟩ := p6.hop hr k
 omega
theorem p6.leaf0 (h : p6 L0 (st ++ [x]) best) (hr : lj x.1 rest T) (hl : ¬ (x.2 ++ T).length < best.length) : p6 L0 st best := h.drop h.bs (Nat.le_refl _) fun Y k => by
 obtain ⟨X, _, _, h3⟩ := p6.hop hr k
 omega
theorem p6.prune (h : p6 L0 (st ++ [x]) best) (hr : lj x.1 rest T) (hl : best.length ≤ (x.2 ++ T).length + zV rest rest.length) : p6 L0 st best := h.drop h.bs (Nat.le_refl _) fun Y k => by
 obtain ⟨X, _, h2, h3⟩ := p6.hop hr k
 have := G2 h2
 omega
theorem p6.branch (h : p6 L0 (st ++ [x]) best) (hr : lj x.1 rest T) (c : Int) : p6 L0 (st ++ [(nZ rest c, x.2 ++ T), (ql rest c, x.2 ++ T ++ [c])]) best := by
 have hx := h.up x (List.mem_append.2 (.inr (List.mem_singleton.2 rfl)))
 refine ⟨h.bs, fun y hy X hX => ?_, fun Y h1 h2 => ?_⟩
 ·rcases List.mem_append.1 hy with q | q
  ·exact h.up y (List.mem_append.2 (.inl q)) X hX
  ·rcases List.mem_cons.1 q with rfl | q
   ·have := hx _ (hr.up X (Gg hX))
    rwa [List.append_assoc]
   ·rw [List.mem_singleton.1 q] at hX ⊢
    have := hx _ (hr.up _ (CC hX))
    simp only [List.append_assoc]
    exact this
 ·rcases h.dn Y h1 h2 with k | ⟨y, hy, k⟩
  ·exact .inl k
  ·rcases List.mem_append.1 hy with q | q
   ·exact .inr ⟨y, List.mem_append.2 (.inl q), k⟩
   ·rw [List.mem_singleton.1 q] at k
    obtain ⟨X, h4, h5, h6⟩ := p6.hop hr k
    right
    by_cases hc : c ∈ X
    ·refine ⟨_, List.mem_append.2 (.inr (List.mem_cons_of_mem _ (List.mem_singleton.2 rfl))), X.erase c, h4.erase c, zk h4 h5, ?_⟩
     rw [List.length_erase_of_mem hc]
     have := List.length_pos_of_mem hc
     simp only [List.length_append, List.length_singleton] at h6 ⊢
     omega
    ·exact ⟨_, List.mem_append.2 (.inr (List.mem_cons_self ..)), X, h4, IK h5 hc, h6⟩
end
def zb : List (ML × List Int) → Nat
 | [] => 0
 | x :: st => (2 ^ (cnt x.1 + 1) - 1) + zb st
def Ej : List (ML × List Int) → Nat
 | [] => 0
 | x :: st => (2 ^ cnt x.1 - 1) + Ej st
theorem tI : ∀ a b, zb (a ++ b) = zb a + zb b
 | [], b => by simp [zb]
 | x :: a, b => by rw [List.cons_append, zb, zb, tI a b]; omega
theorem uc : ∀ a b, Ej (a ++ b) = Ej a + Ej b
 | [], b => by simp [Ej]
 | x :: a, b => by rw [List.cons_append, Ej, Ej, uc a b]; omega
theorem FR (st : List (ML × List Int)) (x : ML × List Int) : zb st < zb (st ++ [x]) := by
 have := Nat.two_pow_pos (cnt x.1)
 rw [tI]
 simp only [zb, Nat.pow_succ]
 omega
theorem Ip (st : List (ML × List Int)) (x : ML × List Int) : Ej st ≤ Ej (st ++ [x]) := by rw [uc]; omega
section
variable {n : Int} {st : List (ML × List Int)} {x : ML × List Int} {T a b : List Int} {rest : ML} {c : Int}
theorem ra {a k : Nat} (h : a < k) : 2 * 2 ^ a ≤ 2 ^ k := by
 have := Nat.pow_le_pow_right (show 0 < 2 by decide) (show a + 1 ≤ k by omega)
 rw [Nat.pow_succ] at this
 omega
theorem Cl (hr : dX n rest = true) (h : lj x.1 rest T) (hc : pJ rest c) : zb (st ++ [(nZ rest c, a), (ql rest c, b)]) < zb (st ++ [x]) := by
 have h1 := ra (BD hr hc)
 have h2 := ra (Cg hr hc)
 have h3 := Nat.pow_le_pow_right (show 0 < 2 by decide) (rB h.sub)
 have h4 := Nat.two_pow_pos (cnt (nZ rest c))
 rw [tI, tI]
 simp only [zb, Nat.pow_succ]
 omega
theorem um (hr : dX n rest = true) (h : lj x.1 rest T) (hc : pJ rest c) : Ej (st ++ [(nZ rest c, a), (ql rest c, b)]) + 1 ≤ Ej (st ++ [x]) := by
 have h1 := ra (BD hr hc)
 have h2 := ra (Cg hr hc)
 have h3 := Nat.pow_le_pow_right (show 0 < 2 by decide) (rB h.sub)
 have h4 := Nat.two_pow_pos (cnt (nZ rest c))
 have h5 := Nat.two_pow_pos (cnt (ql rest c))
 rw [uc, uc]
 simp only [Ej]
 omega
end
def kv (l : List Int) (k : Nat) : List Int := ((List.range k).filter fun c : Nat => decide ((c : Int) ∈ l)).map fun c : Nat => (c : Int)
theorem iS (l : List Int) (k : Nat) : kv l (k + 1) = if (k : Int) ∈ l then kv l k ++ [(k : Int)] else kv l k := by
 unfold kv
 rw [List.range_succ, List.filter_append, List.map_append]
 by_cases h : (k : Int) ∈ l
 ·simp [h]
 ·simp [h]
theorem oF {l : List Int} {k : Nat} {c : Int} : c ∈ kv l k ↔ c ∈ l ∧ 0 ≤ c ∧ c < k := by
 unfold kv
 simp only [List.mem_map, List.mem_filter, List.mem_range, decide_eq_true_eq]
 constructor
 ·rintro ⟨a, ⟨h1, h2⟩, rfl⟩; exact ⟨h2, by omega, by omega⟩
 ·rintro ⟨h1, h2, h3⟩
  exact ⟨c.toNat, ⟨by omega, by rwa [show ((c.toNat : Nat) : Int) = c by omega]⟩, by omega⟩
theorem J2 (l : List Int) (k : Nat) : (kv l k).Pairwise fun a b => a < b := by
 unfold kv
 rw [List.pairwise_map]
 refine List.Pairwise.filter _ ?_
 exact List.pairwise_lt_range.imp (fun h => by omega)
theorem kB (l : List Int) (k : Nat) : (kv l k).Nodup := (J2 l k).imp fun h e => by omega
theorem sI {α : Type} [DecidableEq α] : ∀ {a b : List α}, a.Nodup → (∀ x, x ∈ a → x ∈ b) → a.length ≤ b.length
 | [], b, _, _ => Nat.zero_le _
 | x :: a, b, hn, h => by
  obtain ⟨h1, h2⟩ := List.nodup_cons.1 hn
  have hx : x ∈ b := h x (List.mem_cons_self ..)
  have ih := sI (a := a) (b := b.erase x) h2 fun y hy => (List.mem_erase_of_ne (fun e => h1 (by rw [e] at hy; exact hy))).2 (h y (List.mem_cons_of_mem _ hy))
  rw [List.length_erase_of_mem hx] at ih
  have := List.length_pos_of_mem hx
  rw [List.length_cons]
  omega
theorem z7 (l : List Int) (k : Nat) : (kv l k).length ≤ l.length := sI (kB l k) fun x hx => (oF.1 hx).1
theorem k7 (l : List Int) (k : Nat) : (kv l k).length ≤ k := by
 unfold kv
 rw [List.length_map]
 exact Nat.le_trans (List.length_filter_le _ _) (by simp)
theorem oZ {n : Int} {L : ML} {l : List Int} (hr : dX n L = true) (h : mg L l) : mg L (kv l n.toNat) := fun r hr2 => by
 obtain ⟨c, h1, h2⟩ := h r hr2
 have := oH hr ⟨r, hr2, h1⟩
 exact ⟨c, h1, oF.2 ⟨h2, by omega, by omega⟩⟩
theorem lj.ris {n : Int} {L0 L : ML} {ks : List Int} (hr : dX n L0 = true) (h : lj L0 L ks) : lj L0 L (kv ks n.toNat) := by
 have hm : ∀ c, c ∈ kv ks n.toNat ↔ c ∈ ks := fun c => oF.trans ⟨fun q => q.1, fun q => by
  have := oH hr (h.ksub c q)
  exact ⟨q, by omega, by omega⟩⟩
 exact h.perm (kB _ _) hm (Nat.le_antisymm (sI (kB _ _) fun x hx => (hm x).1 hx) (sI h.nd fun x hx => (hm x).2 hx))
structure JM (L : ML) (n : Int) (X : List Int) : Prop where
 nd : X.Nodup
 lim : ∀ c, c ∈ X → 0 ≤ c ∧ c < n
 slv : mg L X
 min : ∀ Y, Y.Nodup → mg L Y → X.length ≤ Y.length
theorem p6.fin {n : Int} {L0 : ML} {best : List Int} (hr : dX n L0 = true) (h : p6 L0 [] best) : JM L0 n (kv best n.toNat) := by
 obtain ⟨h1, _, _⟩ := fe.1 hr
 refine ⟨kB _ _, fun c hc => ?_, oZ hr h.bs, fun Y hn hY => ?_⟩
 ·have := (oF.1 hc).2
  omega
 ·rcases h.dn Y hn hY with k | ⟨x, hx, _⟩
  ·exact Nat.le_trans (z7 _ _) k
  ·cases hx
theorem JM.both {n : Int} {L0 L : ML} {T X : List Int} (h : lj L0 L T) (k : JM L n X) : mg L0 (T ++ X) ∧ ∀ Y, Y.Nodup → mg L0 Y → (T ++ X).length ≤ Y.length := by
 refine ⟨h.up X k.slv, fun Y hn hY => ?_⟩
 obtain ⟨X', h1, h2, h3⟩ := h.dn Y hn hY
 have := k.min X' h1 h2
 rw [List.length_append]
 omega
end
section
open Go Go.RowKit
theorem LL.last {w : World} {vos : List Value} {A : List (List Int)} {m : Nat} (h : LL w vos (A.take m)) (hm : m ≤ A.length) (h0 : 0 < m) : dO eb 1 w (vos.getD ((vos.length : Int) - 1).toNat undef) (A.getD (m - 1) []) := by
 have hl := h.len
 rw [List.length_take, Nat.min_eq_left hm] at hl
 have g := h.get (m - 1) (by rw [List.length_take]; omega)
 have e : (A.take m).getD (m - 1) [] = A.getD (m - 1) [] := by
  rw [List.getD_eq_getElem?_getD, List.getElem?_take, if_pos (by omega), List.getD_eq_getElem?_getD]
 rw [e] at g
 rw [show ((vos.length : Int) - 1).toNat = m - 1 by omega]
 exact g
theorem Fk (S : Sp) (l : List Rw) : (kW S l).length = (jR S l S.on.length).length := xH _
theorem IR {S : Sp} {l : List Rw} (hr : dJ S = true) : (jR S l S.on.length).length ≤ 1024 := by
 have h := sL S l S.on.length
 have := (dY.1 hr).2.2.2.1
 omega
theorem LL.two {w : World} {v0 v1 : Value} {l0 l1 : List Int} (h0 : dO eb 1 w v0 l0) (h1 : dO eb 1 w v1 l1) : LL w [v0, v1] [l0, l1] := ((LL.nil w).snoc h0).snoc h1
end
section
open Go Go.RowKit
def qA {α : Type} (d : α) (p : Nat → Bool) (l : List α) : Nat → List α
 | 0 => []
 | k + 1 => if p k then qA d p l k ++ [l.getD k d] else qA d p l k
theorem DJ {α : Type} {d : α} {p : Nat → Bool} {l : List α} {k : Nat} (h : p k = true) : qA d p l k ++ [l.getD k d] = qA d p l (k + 1) := by rw [qA, if_pos h]
theorem CW {α : Type} {d : α} {p : Nat → Bool} {l : List α} {k : Nat} (h : p k = false) : qA d p l k = qA d p l (k + 1) := by rw [qA, if_neg (by rw [h]; decide)]
theorem ye {α : Type} (d : α) (p : Nat → Bool) (l : List α) : ∀ k, (qA d p l k).length ≤ k
 | 0 => Nat.le_refl _
 | k + 1 => by
  have := ye d p l k
  rw [qA]
  split
  ·rw [List.length_append, List.length_singleton]; omega
  ·omega
theorem LO.kp {T : TypeId} {N : Nat} {w : World} {vs : List Value} {L : ML} (h : LO T N w vs L) (p : Nat → Bool) : ∀ k, k ≤ L.length → LO T N w (qA undef p vs k) (qA [] p L k)
 | 0, _ => LO.nil
 | k + 1, hk => by
  have ih := LO.kp h p k (by omega)
  rw [qA, qA]
  split
  ·exact ih.snoc (h.get k (by omega))
  ·exact ih
theorem pK {L : ML} {k : Nat} (h : k < L.length) : L.take (k + 1) = L.take k ++ [L.getD k []] := (Gj h).symm
theorem Ia {L : ML} {c : Int} : ∀ k, k ≤ L.length → qA [] (fun k => !decide (c ∈ L.getD k [])) L k = ql (L.take k) c
 | 0, _ => by simp [qA, ql]
 | k + 1, hk => by
  have ih := Ia (L := L) (c := c) k (by omega)
  rw [pK (by omega)]
  unfold ql at ih ⊢
  rw [qA, List.filter_append, ← ih]
  generalize qA [] (fun k => !decide (c ∈ L.getD k [])) L k = A
  generalize L.getD k [] = r
  by_cases h : c ∈ r
  ·simp [h]
  ·simp [h]
theorem Hr {L : ML} {i : Nat} : ∀ k, k ≤ L.length → qA [] (fun k => decide (¬ (k : Int) = (i : Int))) L k = if k ≤ i then L.take k else E3 (L.take k) i
 | 0, _ => by simp [qA]
 | k + 1, hk => by
  have ih := Hr (L := L) (i := i) k (by omega)
  rw [qA, ih]
  by_cases h1 : k < i
  ·rw [if_pos (decide_eq_true (by omega)), if_pos (by omega), if_pos (by omega), pK (by omega)]
  ·by_cases h2 : k = i
   ·subst h2
    rw [if_neg (by simp), if_pos (Nat.le_refl _), if_neg (by omega)]
    unfold E3
    rw [List.take_take, Nat.min_eq_left (by omega), List.drop_of_length_le (by rw [List.length_take]; omega), List.append_nil]
   ·rw [if_pos (decide_eq_true (by omega)), if_neg (by omega), if_neg (by omega), pK (by omega)]
    unfold E3
    rw [List.take_append_of_le_length (by rw [List.length_take]; omega), List.drop_append_of_le_length (by rw [List.length_take]; omega), List.append_assoc]
theorem HI (L : ML) (c : Int) : qA [] (fun k => !decide (c ∈ L.getD k [])) L L.length = ql L c := by rw [Ia _ (Nat.le_refl _), List.take_length]
theorem Ot {L : ML} {i : Nat} (h : i < L.length) : qA [] (fun k => decide (¬ (k : Int) = (i : Int))) L L.length = E3 L i := by rw [Hr _ (Nat.le_refl _), if_neg (by omega), List.take_length]
theorem FW {r : List Int} {c : Int} {k : Nat} (hk : k < r.length) (h : r.getD k 0 = c) : Value.bool true = .bool (decide (c ∈ r)) := EL (decide_eq_true (h ▸ dS hk))
theorem Ga {r : List Int} {c : Int} {k : Nat} (hk : k = r.length) (h : ∀ q, q < k → ¬ r.getD q 0 = c) : Value.bool false = .bool (decide (c ∈ r)) := qh fun e => by
 obtain ⟨j, hj, hjc⟩ := fk (d := 0) (of_decide_eq_true e)
 exact h j (by omega) hjc
def yV (a b : List Int) : Bool := a.all fun x => decide (x ∈ b)
theorem rL {a b : List Int} : yV a b = true ↔ ∀ x, x ∈ a → x ∈ b := by
 unfold yV
 rw [List.all_eq_true]
 exact ⟨fun h x hx => of_decide_eq_true (h x hx), fun h x hx => decide_eq_true (h x hx)⟩
theorem Lk {a b : List Int} {k : Nat} (hk : k < a.length) (h : (!decide (a.getD k 0 ∈ b)) = true) : Value.bool false = .bool (yV a b) := qh fun e => by
 have := rL.1 e _ (dS (d := 0) hk)
 rw [decide_eq_true this] at h; cases h
theorem Lj {a b : List Int} {k : Nat} (hk : k = a.length) (h : ∀ q, q < k → (!decide (a.getD q 0 ∈ b)) = false) : Value.bool true = .bool (yV a b) := EL (rL.2 fun x hx => by
 obtain ⟨j, hj, rfl⟩ := fk (d := 0) hx
 have := h j (by omega)
 simpa using this)
theorem dh.hi {α : Type} {enc : α → List Value} {sz : Nat} {T : TypeId} {w : World} {N : Nat} {v : Value} {l : List α} (h : dh enc sz T w N v l) (he : ∀ a, (enc a).length = sz) {k : Nat} (hk : k ≤ l.length) : dh enc sz T w N (fS sz v 0 k (iR v)) (l.take k) := by
 obtain ⟨h1, h2⟩ := h
 have hl : (List.flatMap enc (l.take k)).length = (l.take k).length * sz := km he _
 refine ⟨hl, ?_⟩
 rcases h2 with ⟨rfl, h3⟩ | ⟨g, cap, cur, rfl, hg, hh, hnc, hcm, hcs, ht⟩
 ·have h0 : l = [] := List.eq_nil_of_length_eq_zero h3
  subst h0
  have hk0 : k = 0 := by simpa using hk
  subst hk0
  exact .inl ⟨rfl, rfl⟩
 ·refine .inr ⟨g, cap, cur, ?_, hg, hh, by rw [List.length_take]; omega, hcm, hcs, ?_⟩
  ·show fS sz (.slice (some ⟨g, 0, none⟩) l.length cap) 0 k cap = _
   unfold fS x5
   rw [List.length_take, Nat.min_eq_left hk]
   by_cases hc : cap = 0
   ·subst hc; simp
   ·rw [if_neg hc]
    simp only [Option.map_some, Nat.zero_mul, Nat.sub_zero]
    rw [gI]
  ·rw [List.length_take, Nat.min_eq_left hk, pW he, ← ht, List.take_take]
   congr 1
   exact (Nat.min_eq_left (Nat.mul_le_mul_right _ hk)).symm
theorem GG {w : World} {b N : Nat} {T : TypeId} {f0 f1 f2 : Value} (k : At w b #[f0, f1, f2] T) (hN : N ≤ b) : dh encV 1 T w N (.slice (some ⟨b, 0, none⟩) 3 3) [f0, f1, f2] :=
 ⟨rfl, .inr ⟨b, 3, #[f0, f1, f2], rfl, hN, k, Nat.le_refl _, by decide, rfl, rfl⟩⟩
section
variable {P : Program} {f : Nat → Value} {w : World} {d : Option Nat} {ty : TypeId} {ps : String} {af : Array Edge} {g : Option (Nat × Bool)} {x y : Operand}
theorem MI {a b : Int} {tys : Array TypeId} (hx : dK f x = .int .i64 a) (hy : dK f y = .int .i64 b) : (execOp (dK f) ⟨d, .call ⟨.builtin .max, #[x, y], tys⟩, ty, ps, af, g⟩).run P w = .ok (.value (.int .i64 (max a b))) w := by
 simp [execOp, resolve, invoke, builtin, hx, hy, Builtin.max_, Builtin.max2]
 split <;> omega
end
theorem DK {v : Value} (h : v.oneCell' = true) : [v].all Value.oneCell' = true := by rw [List.all_cons, h]; rfl
theorem gY {n : Int} {v : Value} (h : v.oneCell' = true) : [Value.int .i64 n, v].all Value.oneCell' = true := by simp only [List.all_cons, List.all_nil, h, Bool.and_true]; rfl
def FB (l : List (Int × Value)) (c : Int) : Value := (gU l c).getD (.slice none 0 0)
structure MO (T : TypeId) (N : Nat) (w : World) (l : List (Int × Value)) (g : Int → List Int) : Prop where
 own : ∀ p, p ∈ l → dh eb 1 T w N p.2 (g p.1)
 ap : ∀ p q, p ∈ l → q ∈ l → ¬ p.1 = q.1 → eO p.2 q.2
 nd : (l.map (·.1)).Nodup
 no : ∀ c, c ∉ l.map (·.1) → g c = []
def Bs (g : Int → List Int) (c x : Int) : Int → List Int := fun d => if d = c then g d ++ [x] else g d
section
variable {T : TypeId} {N : Nat} {w w' : World} {l : List (Int × Value)} {g : Int → List Int} {c x : Int}
theorem MO.nil : MO T N w [] (fun _ => []) := ⟨fun p h => (by cases h), fun p q h => (by cases h), List.nodup_nil, fun _ _ => rfl⟩
theorem MO.get (h : MO T N w l g) (c : Int) : dh eb 1 T w N (FB l c) (g c) := by
 unfold FB
 cases e : gU l c with
 | none =>
  rw [h.no c (m9.1 e)]
  exact dh.nil
 | some v => exact h.own (c, v) ((lP h.nd).1 e)
theorem MO.ext (h : eo w w') (k : MO T N w l g) : MO T N w' l g := ⟨fun p hp => h.ow (k.own p hp), k.ap, k.nd, k.no⟩
theorem MO.below {W : World} (h : Below w.heap.size w W) (k : MO T N w l g) : MO T N W l g := ⟨fun p hp => Below.ow h (k.own p hp), k.ap, k.nd, k.no⟩
theorem MO.grownAt {b : Nat} {cs : Array Value} {T' : TypeId} (k : MO T N w l g) (hm : At w b cs T') (hG : w.grownBy w' (some b)) (hT : T' ≠ T) : MO T N w' l g := ⟨fun p hp => (k.own p hp).grownAt hm hG hT, k.ap, k.nd, k.no⟩
theorem MO.grownMap {α β : Type} {enc : α → Value} {encV : β → Value} {b : Nat} {m : List (α × β)} (k : MO T N w l g) (hm : dQ enc encV w b m) (hG : w.grownBy w' (some b)) : MO T N w' l g := ⟨fun p hp => (k.own p hp).grownMap hm hG, k.ap, k.nd, k.no⟩
theorem MO.grownOw {α : Type} {enc : α → List Value} {sz N' : Nat} {T' : TypeId} {v : Value} {m : List α} (k : MO T N w l g) (h : dh enc sz T' w N' v m) (hG : w.grownBy w' v.ownBlock) (hT : T' ≠ T) : MO T N w' l g := ⟨fun p hp => (k.own p hp).grownOw h hG hT.symm, k.ap, k.nd, k.no⟩
theorem ry {v : Value} {p : Int × Value} (hn : (l.map (·.1)).Nodup) (h : p ∈ gV l c v) : (p = (c, v)) ∨ (p ∈ l ∧ ¬ p.1 = c) := by
 unfold gV at h
 split at h
 ·obtain ⟨q, hq, e⟩ := List.mem_map.1 h
  split at e
  ·exact .inl e.symm
  ·rename_i hne
   rw [← e]; exact .inr ⟨hq, hne⟩
 ·rename_i hno
  rcases List.mem_append.1 h with k | k
  ·exact .inr ⟨k, fun e => hno (e ▸ List.mem_map_of_mem k)⟩
  ·exact .inl (List.mem_singleton.1 k)
theorem MO.app {v : Value} (k : MO T N w l g) (hG : w.grownBy w' (FB l c).ownBlock) (hob : v.ownBlock = (FB l c).ownBlock ∨ v.ownBlock = some w.heap.size) (hO : dh eb 1 T w' N v (g c ++ [x])) : MO T N w' (gV l c v) (Bs g c x) := by
 have hgo : ∀ p, p ∈ l → ¬ p.1 = c → eO (FB l c) p.2 := fun p hp hne => by
  unfold FB
  cases e : gU l c with
  | none => exact eO.nilL
  | some u => exact k.ap (c, u) p ((lP k.nd).1 e) hp (fun q => hne q.symm)
 have hap : ∀ p, p ∈ l → ¬ p.1 = c → eO v p.2 := fun p hp hne => eO.app (hgo p hp hne) hob (k.own p hp)
 refine ⟨fun p hp => ?_, fun p q hp hq hne => ?_, ?_, fun d hd => ?_⟩
 ·rcases ry k.nd hp with rfl | ⟨h1, h2⟩
  ·unfold Bs; rw [if_pos rfl]; exact hO
  ·unfold Bs; rw [if_neg h2]; exact (k.own p h1).grownAp (hgo p h1 h2) hG
 ·rcases ry k.nd hp with rfl | ⟨h1, h2⟩
  ·rcases ry k.nd hq with rfl | ⟨h3, h4⟩
   ·exact absurd rfl hne
   ·exact hap q h3 h4
  ·rcases ry k.nd hq with rfl | ⟨h3, h4⟩
   ·exact (hap p h1 h2).symm
   ·exact k.ap p q h1 h3 hne
 ·rw [jT]; exact i9 k.nd c
 ·rw [jT] at hd
  have h1 : ¬ d = c := fun e => hd (gf.2 (.inr e))
  unfold Bs
  rw [if_neg h1]
  exact k.no d fun e => hd (gf.2 (.inl e))
end
def KY (r : List Int) (i : Nat) (g : Int → List Int) : Nat → Int → List Int
 | 0 => g
 | j + 1 => Bs (KY r i g j) (r.getD j 0) (i : Int)
def nf (L : ML) : Nat → Int → List Int
 | 0 => fun _ => []
 | i + 1 => KY (L.getD i []) i (nf L i) (L.getD i []).length
theorem DY {r : List Int} {i : Nat} {g : Int → List Int} {c x : Int} : ∀ j, j ≤ r.length → (x ∈ KY r i g j c ↔ x ∈ g c ∨ (c ∈ r.take j ∧ x = i))
 | 0, _ => by simp [KY]
 | j + 1, hj => by
  have ih := DY (r := r) (i := i) (g := g) (c := c) (x := x) j (by omega)
  rw [KY, List.take_add_one, List.mem_append, List.getElem?_eq_getElem (show j < r.length by omega)]
  have e : r.getD j 0 = r[j] := by rw [List.getD_eq_getElem?_getD, List.getElem?_eq_getElem (show j < r.length by omega)]; rfl
  unfold Bs
  rw [e]
  by_cases h : c = r[j]
  ·rw [if_pos h, List.mem_append, ih, List.mem_singleton]
   simp [h]
   constructor
   ·rintro ((h1 | h1) | h1)
    ·exact .inl h1
    ·exact .inr h1.2
    ·exact .inr h1
   ·rintro (h1 | h1)
    ·exact .inl (.inl h1)
    ·exact .inr h1
  ·rw [if_neg h, ih]
   simp [h]
theorem tM {L : ML} {c x : Int} : ∀ k, x ∈ nf L k c ↔ ∃ i, i < k ∧ c ∈ L.getD i [] ∧ x = (i : Int)
 | 0 => by simp [nf]
 | k + 1 => by
  rw [nf, DY _ (Nat.le_refl _), List.take_length, tM k]
  constructor
  ·rintro (⟨i, h1, h2, h3⟩ | ⟨h2, h3⟩)
   ·exact ⟨i, by omega, h2, h3⟩
   ·exact ⟨k, by omega, h2, h3⟩
  ·rintro ⟨i, h1, h2, h3⟩
   by_cases e : i = k
   ·subst e; exact .inr ⟨h2, h3⟩
   ·exact .inl ⟨i, by omega, h2, h3⟩
theorem Eb {L : ML} {c : Int} {q : Nat} (h : q < (nf L L.length c).length) : 0 ≤ (nf L L.length c).getD q 0 ∧ (nf L L.length c).getD q 0 < L.length ∧ c ∈ L.getD ((nf L L.length c).getD q 0).toNat [] := by
 obtain ⟨i, h1, h2, h3⟩ := (tM _).1 (dS (d := 0) h)
 rw [h3, Int.toNat_natCast]
 exact ⟨by omega, by omega, h2⟩
theorem yZ {r : List Int} {i : Nat} {g : Int → List Int} {c : Int} : ∀ j, (KY r i g j c).length ≤ (g c).length + j
 | 0 => Nat.le_refl _
 | j + 1 => by
  have ih := yZ (r := r) (i := i) (g := g) (c := c) j
  rw [KY]
  unfold Bs
  split
  ·rw [List.length_append, List.length_singleton]; omega
  ·omega
theorem ua {L : ML} {c : Int} (h : ∀ i, (L.getD i []).length ≤ 4000) : ∀ k, (nf L k c).length ≤ 4000 * k
 | 0 => Nat.le_refl _
 | k + 1 => by
  have ih := ua (c := c) h k
  have h1 := yZ (r := L.getD k []) (i := k) (g := nf L k) (c := c) (L.getD k []).length
  have h2 := h k
  rw [nf]; omega
theorem M6 {L : ML} {c d : Int} (h : yV (nf L L.length c) (nf L L.length d) = true) : ∀ r, r ∈ L → c ∈ r → d ∈ r := fun r hr hc => by
 obtain ⟨i, hi, rfl⟩ := fk (d := []) hr
 obtain ⟨j, _, h2, h3⟩ := (tM _).1 (rL.1 h _ ((tM _).2 ⟨i, hi, hc, rfl⟩))
 have e : j = i := by omega
 rw [e] at h2
 exact h2
theorem AJ {r : List Int} {c : Int} {k : Nat} (hk : k < r.length) : w5 (r.take (k + 1)) c = if r.getD k 0 = c then w5 (r.take k) c else w5 (r.take k) c ++ [r.getD k 0] := by
 unfold w5
 rw [List.take_add_one, List.getElem?_eq_getElem hk, List.filter_append, List.getD_eq_getElem?_getD, List.getElem?_eq_getElem hk]
 by_cases h : r[k] = c
 ·simp [h]
 ·simp [h]
theorem CV {r : List Int} {c : Int} {k : Nat} (hk : k < r.length) (h : ¬ r.getD k 0 = c) : w5 (r.take k) c ++ [r.getD k 0] = w5 (r.take (k + 1)) c := by rw [AJ hk, if_neg h]
theorem CY {r : List Int} {c : Int} {k : Nat} (hk : k < r.length) (h : r.getD k 0 = c) : w5 (r.take k) c = w5 (r.take (k + 1)) c := by rw [AJ hk, if_pos h]
theorem Bc {L : ML} {c : Int} {k : Nat} (hk : k < L.length) : nZ (L.take k) c ++ [w5 (L.getD k []) c] = nZ (L.take (k + 1)) c := by
 rw [pK hk]
 unfold nZ
 rw [List.map_append]
 rfl
theorem yE {L : ML} {c : Int} {k : Nat} (hk : k = L.length) : nZ (L.take k) c = nZ L c := by rw [hk, List.take_length]
theorem C7 (L : ML) (c : Int) (k : Nat) : (nZ (L.take k) c).length ≤ k := by unfold nZ; rw [List.length_map, List.length_take]; omega
theorem Ds (r : List Int) (c : Int) (k : Nat) : (w5 (r.take k) c).length ≤ k := by
 have := xM (r.take k) c
 rw [List.length_take] at this; omega
def O6 (L L' : ML) (c : Int) (b : Bool) : Prop := (b = true ∧ (∃ r, r ∈ L ∧ r = [c]) ∧ L' = ql L c) ∨ (b = false ∧ L' = L)
theorem OL {L : ML} {k : Nat} {C : Int} (hk : k < L.length) (h1 : ((L.getD k []).length : Int) = 1) (hC : C = (L.getD k []).getD 0 0) : O6 L (qA [] (fun k => !decide (C ∈ L.getD k [])) L L.length) C true := by
 refine .inl ⟨rfl, ⟨L.getD k [], dS (d := []) hk, ?_⟩, HI L C⟩
 generalize L.getD k [] = r at *
 match r, h1 with
 | [a], _ => rw [hC]; rfl
theorem N4 (L : ML) : O6 L L 0 false := .inr ⟨rfl, rfl⟩
def NZ (L L' : ML) (b : Bool) : Prop := (b = true ∧ ((∃ i k, i < L.length ∧ k < L.length ∧ ¬ k = i ∧ (∀ x, x ∈ L.getD k [] → x ∈ L.getD i []) ∧ L' = E3 L i) ∨ ∃ c d, pJ L c ∧ ¬ d = c ∧ (∀ r, r ∈ L → c ∈ r → d ∈ r) ∧ L' = nZ L c)) ∨ (b = false ∧ L' = L)
theorem Iv (L : ML) : NZ L L false := .inr ⟨rfl, rfl⟩
theorem yv {L : ML} {i k : Nat} (hi : i < L.length) (hk : k < L.length) (hne : ¬ (k : Int) = (i : Int)) (hw : yV (L.getD k []) (L.getD i []) = true) : NZ L (qA [] (fun k => decide (¬ (k : Int) = (i : Int))) L L.length) true :=
 .inl ⟨rfl, .inl ⟨i, k, hi, hk, fun e => hne (by rw [e]), fun x hx => rL.1 hw x hx, Ot hi⟩⟩
theorem D5 {L : ML} {c d : Int} {i : Nat} (h0 : (nf L L.length c).length ≠ 0) (hne : ¬ d = c) (hw : yV (nf L L.length c) (nf L L.length d) = true) : NZ L (nZ L c) true := by
 refine .inl ⟨rfl, .inr ⟨c, d, ?_, hne, M6 hw, rfl⟩⟩
 obtain ⟨h1, h2, h3⟩ := Eb (q := 0) (Nat.pos_of_ne_zero h0)
 exact ⟨_, dS (by omega), h3⟩
structure Lh (L0 L' L : ML) (ks' : List Int) (n : Int) (b : Bool) : Prop where
 rd : lj L0 L' ks'
 r : dX n L' = true
 sz : qq L' ≤ qq L
 szt : b = true → qq L' < qq L
 len : L'.length ≤ L.length
theorem zF {L0 L : ML} {ks : List Int} {n : Int} (h : lj L0 L ks) (hr : dX n L = true) : Lh L0 L L ks n false := ⟨h, hr, Nat.le_refl _, fun e => Bool.noConfusion e, Nat.le_refl _⟩
theorem HE {L0 L L' : ML} {ks : List Int} {n c : Int} (h : lj L0 L ks) (hr : dX n L = true) (k : O6 L L' c true) : Lh L0 L' L (ir ks c) n true := by
 obtain ⟨_, ⟨r, h1, h2⟩, rfl⟩ | ⟨h1, _⟩ := k
 ·have hin : pJ L c := ⟨r, h1, by rw [h2]; exact List.mem_singleton.2 rfl⟩
  exact ⟨h.take h1 h2, vS hr c, BB c L, fun _ => wV hin, H9 L c⟩
 ·cases h1
theorem EO {L0 L L' : ML} {ks : List Int} {n c : Int} (h : lj L0 L ks) (hr : dX n L = true) (k : O6 L L' c false) : Lh L0 L' L ks n false := by
 obtain ⟨h1, _⟩ | ⟨_, rfl⟩ := k
 ·cases h1
 ·exact zF h hr
theorem HV {L0 L L' : ML} {ks : List Int} {n : Int} {b : Bool} (h : lj L0 L ks) (hr : dX n L = true) (k : NZ L L' b) : Lh L0 L' L ks n b := by
 obtain ⟨rfl, ⟨i, j, h1, h2, h3, h4, rfl⟩ | ⟨c, d, h1, h2, h3, rfl⟩⟩ | ⟨rfl, rfl⟩ := k
 ·refine ⟨h.rows (fun r => Gq) (fun X hX => Nx h1 h2 h3 h4 hX), II hr i, Nat.le_of_lt (GS h1), fun _ => GS h1, ?_⟩
  unfold E3
  rw [List.length_append, List.length_take, List.length_drop]; omega
 ·exact ⟨h.cols h2 h3, Az hr c, B5 c L, fun _ => xD h1, Nat.le_of_eq (len_le L c)⟩
 ·exact zF h hr
end
section
open Go Go.RowKit
theorem Ep : dH Tryz.prog 110 = true := by kernel_rfl
theorem J8 : dH Tryz.prog 109 = true := by kernel_rfl
theorem vZ : dH Tryz.prog 72 = true := by kernel_rfl
theorem sU : eH Tryz.prog 3 = some (.int .i64 0) := by kernel_rfl
theorem y7 : dH Tryz.prog 108 = true := by kernel_rfl
theorem Da : dH Tryz.prog 112 = true := by kernel_rfl
theorem Ee : dH Tryz.prog 111 = true := by kernel_rfl
theorem rY (xr : Value) (r : List Int) (c : Int) (w : World) (hr : dO eb 1 w xr r) (hrb : r.length ≤ 9223372036854775807) :
    Fn Tryz.prog 110 #[xr, .int .i64 c] w fun v w' => v = .bool (decide (c ∈ r)) := by
 refine dr (n := 17) Tryz.func110 rfl rfl (Nat.le_of_ble_eq_true rfl) ?_
 have hB : Below w.heap.size w w := Below.refl _ _
 refine Zr <| Zw (.bool false) rfl <| cT <| cY fun K3 b => Zr <| Zw xr rfl <| Zv (dB (v := xr) rfl (Below.slT hB hr) dw) <| Zw (.int .i64 0) rfl <| cT <| c9 ?_
 refine dy (σ := (Nat)) [4, 6, 9, 10, 11, 12, 13, 14, 15, 16] (fun k => [(9, .int .i64 (k : Int))]) (fun k W => (Below w.heap.size w W) ∧ (k ≤ r.length) ∧ (∀ q, q < k → ¬ r.getD q 0 = c) ∧ (True)) (fun k => r.length - k) (0) ⟨rfl, trivial⟩ ⟨hB, (Nat.zero_le _), fX, trivial⟩ ?_
 clear hB
 rintro k g8 W7 ⟨hB, hk, hq, _⟩ J9 d
 refine Zr <| Zv (dP rfl rfl) <| cT <| cY fun h e => ZQ rfl (fun f => ?_) fun f => ?_
 refine c7 <| e _ _ <| cY fun i g => c9 <| Zr <| Zv (dM (v := xr) rfl (Below.slT hB hr) rfl dw Om Om) <| Zv (dm (v := .int .i64 _) rfl dC (dO.cell (Below.slT hB hr) eN 0 Om Om 0 rfl)) <| Zi rfl <| cT <| Zr <| Zi rfl <| Zi rfl <| Zv (eq rfl rfl) <| cT ?_
 refine ZQ rfl (fun a => ?_) fun a => ?_
 refine Zr <| Zw (.bool true) rfl <| cT <| Zt <| dL (v := .bool true) rfl ⟨hB, ?_⟩
 first | exact FW (k := k) (by omega) a | exact Ga (by omega) hq
 refine c7 <| g _ _ <| cZ <| Zv (dq rfl rfl Om Om) <| Zi rfl <| cT ?_
 exact d _ _ (k + 1) Za ⟨rfl, trivial⟩ ⟨hB, Om, (fE hq a), trivial⟩ Zo
 refine dt <| b _ _ <| Zr <| Zw (.bool false) rfl <| cT <| Zt <| dL (v := .bool false) rfl ⟨hB, ?_⟩
 first | exact FW (k := k) (by omega) a | exact Ga (by omega) hq
theorem oe (xa xb : Value) (a b : List Int) (w : World) (ha : dO eb 1 w xa a) (hb : dO eb 1 w xb b) (hal : a.length ≤ 9223372036854775807) (hbl : b.length ≤ 9223372036854775807) :
    Fn Tryz.prog 111 #[xa, xb] w fun v w' => v = .bool (yV a b) := by
 refine dr (n := 18) Tryz.func111 rfl rfl (Nat.le_of_ble_eq_true rfl) ?_
 have hB : Below w.heap.size w w := Below.refl _ _
 refine Zr <| Zw (.bool false) rfl <| cT <| cY fun K3 d => Zr <| Zw xa rfl <| Zv (dB (v := xa) rfl (Below.slT hB ha) dw) <| Zw (.int .i64 0) rfl <| cT <| c9 ?_
 refine dy (σ := (Nat)) [4, 6, 9, 10, 11, 12, 13, 14, 15, 16, 17] (fun k => [(9, .int .i64 (k : Int))]) (fun k W => (Below w.heap.size w W) ∧ (k ≤ a.length) ∧ (∀ q, q < k → (!decide (a.getD q 0 ∈ b)) = false) ∧ (True)) (fun k => a.length - k) (0) ⟨rfl, trivial⟩ ⟨hB, (Nat.zero_le _), fX, trivial⟩ ?_
 clear hB
 rintro k g8 W7 ⟨hB, hk, hq, _⟩ J9 e
 refine Zr <| Zv (dP rfl rfl) <| cT <| cY fun l f => ZQ rfl (fun g => ?_) fun g => ?_
 refine c7 <| f _ _ <| cY fun m h => c9 <| Zr <| Zv (dM (v := xa) rfl (Below.slT hB ha) rfl dw Om Om) <| Zv (dm (v := .int .i64 _) rfl dC (dO.cell (Below.slT hB ha) eN 0 Om Om 0 rfl)) <| Zi rfl <| cT <| Zr <| Zw xb rfl <| Zi rfl <| ZC Ep (rY _ _ _ _ (Below.slT hB hb) (by first | assumption | omega)) rfl fun o p i j => ?_
 replace hB := Ze hB i
 obtain rfl := j
 refine Zv (fJ rfl) <| cT <| ZQ rfl (fun c => ?_) fun c => ?_
 refine Zr <| Zw (.bool false) rfl <| cT <| Zt <| dL (v := .bool false) rfl ⟨hB, ?_⟩
 first | exact Lk (k := k) (by omega) c | exact Lj (by omega) hq
 refine c7 <| h _ _ <| cZ <| Zv (dq rfl rfl Om Om) <| Zi rfl <| cT ?_
 exact e _ _ (k + 1) Za ⟨rfl, trivial⟩ ⟨hB, Om, (fE hq c), trivial⟩ Zo
 refine dt <| d _ _ <| Zr <| Zw (.bool true) rfl <| cT <| Zt <| dL (v := .bool true) rfl ⟨hB, ?_⟩
 first | exact Lk (k := k) (by omega) c | exact Lj (by omega) hq
theorem tw (k : Int) (xr : Value) (r : List Int) (c : Int) (bx : Nat) (w : World) (hx : At w bx #[.int .i64 c] 3) (hr : dO eb 1 w xr r) (hrb : r.length ≤ 1000000) :
    Fn Tryz.prog 109 #[.int .i64 k, xr, .pointer (some ⟨bx, 0, none⟩)] w fun v w' => v = .bool (!decide (c ∈ r)) := by
 refine dr (n := 10) Tryz.func109 rfl rfl (Nat.le_of_ble_eq_true rfl) ?_
 have hB : Below w.heap.size w w := Below.refl _ _
 refine Zr <| Zw (.bool false) rfl <| cT <| Zr <| Zw xr rfl <| Zl rfl dC (Below.atI hB hx) rfl <| ZC Ep (rY _ _ _ _ (Below.slT hB hr) (by first | assumption | omega)) rfl fun d W5 a b => ?_
 replace hB := Ze hB a
 obtain rfl := b
 refine Zv (fJ rfl) <| Zb rfl <| cT <| Zt <| dL (v := .bool _) rfl ⟨hB, ?_⟩
 rfl
theorem od (k : Int) (xr : Value) (i : Int) (bx : Nat) (w : World) (hx : At w bx #[.int .i64 i] 3) :
    Fn Tryz.prog 112 #[.int .i64 k, xr, .pointer (some ⟨bx, 0, none⟩)] w fun v w' => v = .bool (decide (¬ k = i)) := by
 refine dr (n := 9) Tryz.func112 rfl rfl (Nat.le_of_ble_eq_true rfl) ?_
 have hB : Below w.heap.size w w := Below.refl _ _
 refine Zr <| Zw (.bool false) rfl <| cT <| Zr <| Zi rfl <| Zl rfl dC (Below.atI hB hx) rfl <| Zv (fC rfl rfl) <| Zb rfl <| cT <| Zt <| dL (v := .bool _) rfl ⟨hB, ?_⟩
 rfl
theorem mZ (n : Int) (rv : Value) (vs : List Value) (L : ML) (q bx : Nat) (p : Nat → Bool) (w : World) (hrv : dh encV 1 80 w 0 rv vs) (hLO : LO 3 0 w vs L) (hLb : L.length ≤ 1000000) (hq : dH Tryz.prog q = true) (hdo : ∀ (k : Nat) (xr : Value) (W : World), k < L.length → Below w.heap.size w W → dO eb 1 W xr (L.getD k []) → Fn Tryz.prog q #[.int .i64 (k : Int), xr, .pointer (some ⟨bx, 0, none⟩)] W fun v w' => v = .bool (p k)) :
    Fn Tryz.prog 108 #[.agg #[.int .i64 n, rv], .func (.func q) #[] #[.pointer (some ⟨bx, 0, none⟩)]] w fun v w' => ∃ rv', v = .agg #[.int .i64 n, rv'] ∧ dh encV 1 80 w' w.heap.size rv' (qA undef p vs L.length) := by
 refine dr (n := 31) Tryz.func108 rfl rfl (Nat.le_of_ble_eq_true rfl) ?_
 have hB : Below w.heap.size w w := Below.refl _ _
 have hll := hLO.ll
 have hvl := hll.len
 refine Zr <| Zy (dW (c := #[_, _]) rfl rfl fun M W3 D N a => ?_)
 have aa := ZO D hB
 clear D
 replace hB := Ze hB N
 refine Zy (dp gX rfl fun O W6 y E d => ?_)
 have P := ZO y hB
 have Q := Zn y a.lt
 clear y
 replace hB := Ze hB E
 replace a := E.at a
 refine cT <| Zr <| Zf rfl iw <| Zl rfl dC a rfl <| Zv (j4 (h0 := rfl) (k0 := rfl) (c0_0 := .int .i64 _)) <| Zy (dp gX rfl fun R ab l z f => ?_)
 have F := ZO l hB
 have G := Zn l a.lt
 have A := Zn l d.lt
 clear l
 replace hB := Ze hB z
 replace a := z.at a
 replace d := z.at d
 refine Zy (df rfl rfl dE rfl f rfl rfl fun ac B S => ?_)
 replace hB := Zg hB B F
 replace a := At.grownNe a G B
 replace d := At.grownNe d A B
 replace f := S
 refine cT <| cY fun ad T => Zr <| Zf rfl eg <| ZL rv rfl fc a rfl <| Zv (dB (v := rv) rfl ((Below.ow hB hrv)).sl d6) <| Zw (.int .i64 0) rfl <| cT <| c9 ?_
 refine dy (σ := (Nat) × (Value)) [6, 7, 14, 15, 16, 17, 18, 19, 20, 21, 22, 23, 24, 25, 26, 27, 28, 29] (fun (k, v0) => [(14, .int .i64 (k : Int))]) (fun sg W => match sg with | (k, v0) => (Below w.heap.size w W) ∧ (At W M _ 77) ∧ (At W O _ 77) ∧ (At W R #[.int .i64 n, v0] 77) ∧ (dh encV 1 80 W w.heap.size v0 (qA undef p vs k)) ∧ (k ≤ L.length) ∧ (True)) (fun (k, v0) => L.length - k) ((0, .slice none 0 0)) ⟨rfl, trivial⟩ ⟨hB, a, d, f, dh.nil, (Nat.zero_le _), trivial⟩ ?_
 clear hB a d f
 rintro ⟨k, v0⟩ ae af ⟨hB, a, d, f, ho, hk, _⟩ ag H
 refine Zr <| Zv (dP rfl rfl) <| cT <| cY fun ah U => ZQ rfl (fun V => ?_) fun V => ?_
 refine c7 <| U _ _ <| cY fun ai I => c9 <| Zr <| Zi rfl <| Zv (dM (v := rv) rfl ((Below.ow hB hrv)).sl rfl d6 Om Om) <| Zv (dm (v := (vs.getD k undef)) rfl iE (dO.cell ((Below.ow hB hrv)).sl fV undef Om Om 0 rfl)) ?_
 have m : dO eb 1 w ((vs.getD k undef)) (L.getD k []) := hll.get k (by omega)
 refine Zi rfl <| Zw (vs.getD k undef) rfl <| cT ?_
 have hkl := ye undef p vs k
 refine Zr <| Zw (.func (.func q) #[] #[.pointer (some ⟨bx, 0, none⟩)]) rfl <| Zi rfl <| Zw (vs.getD k undef) rfl ?_
 refine pR (dd := some 22) rfl rfl rfl (jG (q := q) (first := #[]) (cap := #[.pointer (some ⟨bx, 0, none⟩)]) (vs := #[.int .i64 _, (vs.getD k undef), .pointer (some ⟨bx, 0, none⟩)]) rfl hq (by simp only [List.map_toArray, List.map_cons, List.map_nil, List.append_toArray, List.nil_append, List.cons_append]; rfl)) (hdo k _ _ Om hB (Below.slT hB m)) (fun aj ak h X => ?_)
 replace hB := Ze hB h
 replace a := h.at a
 replace d := h.at d
 replace f := h.at f
 replace ho := h.ow ho
 obtain rfl := X
 refine cT <| ZQ rfl (fun i => ?_) fun i => ?_
 refine cZ <| Zf rfl eg <| ZL v0 rfl fc f rfl <| Zw (vs.getD k undef) rfl <| Zy (fp (u := (vs.getD k undef)) rfl d6 iY (by rw [dO.cells (Below.slT hB m)]; rfl) Dd Dd fun C al o j J => ?_)
 have ao := ZO o hB
 have ap := dh.neB (b := C) (Below.ow hB hrv) (Nat.le_of_eq o.symm)
 have aq := dh.neB (b := C) ho (Nat.le_of_eq o.symm)
 clear o
 replace hB := Ze hB j
 replace a := j.at a
 replace d := j.at d
 replace f := j.at f
 replace ho := j.ow ho
 rw [dO.cells (Below.slT hB m)] at J
 refine Zy (eB (v := v0) (v2 := .slice (some ⟨C, 0, none⟩) 1 1) rfl rfl d6 iY Dd ho (fP J rfl) (by simp only [List.all_cons, List.all_nil, dO.one (Below.slT hB m), Bool.and_true]) (by have := Below.size hB; omega) (by first | omega | (simp; omega)) (by first | omega | (simp; omega)) fun K ar r g => ?_)
 replace g := dh.snoc (enc := encV) (x := (vs.getD k undef)) rfl rfl rfl rfl g
 replace hB := ZG hB r ho
 replace a := At.grownOw a ho r Dd
 replace d := At.grownOw d ho r Dd
 replace f := At.grownOw f ho r Dd
 clear ho
 refine Zf rfl eg <| Zy (eA (v := K) rfl rfl fc (dO.one g.sl) f (by simp) fun au s Y => ?_)
 replace hB := Zg hB s F
 replace a := At.grownNe a G s
 replace d := At.grownNe d A s
 replace g := dh.grownAt g f s Dd
 replace f := Y
 replace f : At _ _ #[_, _] _ := f
 refine cT <| I _ _ <| cZ <| Zv (dq rfl rfl Om Om) <| Zi rfl <| cT ?_
 exact H _ _ ((k + 1, K)) Za ⟨rfl, trivial⟩ ⟨hB, a, d, (by exact f), (by first | (rw [← DJ i]; exact g) | (rw [← CW i]; exact g)), Om, trivial⟩ (by show L.length - (k + 1) < L.length - k; omega)
 refine c7 <| I _ _ <| cZ <| Zv (dq rfl rfl Om Om) <| Zi rfl <| cT ?_
 exact H _ _ ((k + 1, v0)) Za ⟨rfl, trivial⟩ ⟨hB, a, d, (by exact f), (by first | (rw [← DJ i]; exact ho) | (rw [← CW i]; exact ho)), Om, trivial⟩ (by show L.length - (k + 1) < L.length - k; omega)
 refine dt <| T _ _ <| Zr <| Zv (da rfl dE rfl f) <| Zy (df rfl rfl dE rfl d rfl (by exact gY (dh.one ho)) fun av t Z => ?_)
 replace hB := Zg hB t P
 replace a := At.grownNe a Q t
 replace f := At.grownNe f (Ne.symm A) t
 replace ho := dh.grownAt ho d t Dd
 replace d := Z
 refine cT <| Zt <| jS rfl dE d rfl ⟨hB, ?_⟩
 exact ⟨_, rfl, (by have e : k = L.length := Om; rw [e] at ho; exact ho)⟩
theorem wm (n : Int) (rv : Value) (vs : List Value) (L : ML) (w : World) (hrv : dh encV 1 80 w 0 rv vs) (hLO : LO 3 0 w vs L) (hr : dX n L = true) (hLb : L.length ≤ 1000000) :
    Fn Tryz.prog 74 #[.agg #[.int .i64 n, rv]] w fun v w' => ∃ rv' vs' L' c b, v = .tuple #[.agg #[.int .i64 n, rv'], .int .i64 c, .bool b] ∧ dh encV 1 80 w' 0 rv' vs' ∧ LO 3 0 w' vs' L' ∧ O6 L L' c b := by
 refine dr (n := 31) Tryz.func74 rfl rfl (Nat.le_of_ble_eq_true rfl) ?_
 have hB : Below w.heap.size w w := Below.refl _ _
 have hll := hLO.ll
 have hvl := hll.len
 refine Zr <| Zy (dW (c := #[_, _]) rfl rfl fun E W3 y F d => ?_)
 have Y := ZO y hB
 clear y
 replace hB := Ze hB F
 refine Zy (dp gX rfl fun l W6 o z e => ?_)
 have A := ZO o hB
 have p := Zn o d.lt
 clear o
 replace hB := Ze hB z
 replace d := z.at d
 refine Zw (.int .i64 0) rfl <| Zw (.bool false) rfl <| cT <| cY fun K9 G => Zr <| Zv (da rfl dE rfl d) <| ZC (vs := [.agg #[_, _]]) vZ (js n _ _ L _ ((Below.ow hB hrv)).sl (LO.mono (LO.below hB hLO) (Nat.zero_le _)).ll hLb (fun i => Nat.le_trans (fF hr i) Dd)) rfl fun Z aa q H => ?_
 replace hB := Ze hB q
 replace d := q.at d
 replace e := q.at e
 obtain rfl := H
 refine Zv (fJ rfl) <| cT <| ZQ rfl (fun B => ?_) fun B => ?_
 exact absurd (ja B) (by rw [hr]; decide)
 refine c7 <| G _ _ <| cY fun ab I => Zr <| Zf rfl eg <| ZL rv rfl fc d rfl <| Zv (dB (v := rv) rfl ((Below.ow hB hrv)).sl d6) <| Zw (.int .i64 0) rfl <| cT <| c9 ?_
 refine dy (σ := (Nat)) [3, 4, 6, 7, 15, 16, 17, 18, 19, 20, 21, 22, 23, 24, 25, 26, 27, 28, 29] (fun k0 => [(15, .int .i64 (k0 : Int))]) (fun k0 W => (Below w.heap.size w W) ∧ (At W E _ 77) ∧ (At W l _ 77) ∧ (k0 ≤ L.length) ∧ (True)) (fun k0 => L.length - k0) (0) ⟨rfl, trivial⟩ ⟨hB, d, e, (Nat.zero_le _), trivial⟩ ?_
 clear hB d e
 rintro k0 ac ad ⟨hB, d, e, hk, _⟩ ae J
 refine Zr <| Zv (dP rfl rfl) <| cT <| cY fun af K => ZQ rfl (fun M => ?_) fun M => ?_
 refine c7 <| K _ _ <| cY fun ag N => c9 <| Zr <| Zv (dM (v := rv) rfl ((Below.ow hB hrv)).sl rfl d6 Om Om) <| Zv (dm (v := (vs.getD k0 undef)) rfl iE (dO.cell ((Below.ow hB hrv)).sl fV undef Om Om 0 rfl)) ?_
 have r : dO eb 1 w ((vs.getD k0 undef)) (L.getD k0 []) := hll.get k0 (by omega)
 refine Zw (vs.getD k0 undef) rfl <| cT <| Zr <| Zw (vs.getD k0 undef) rfl <| Zv (dB (v := (vs.getD k0 undef)) rfl (Below.slT hB r) dw) <| Zv (eq rfl rfl) <| cT <| ZQ rfl (fun s => ?_) fun s => ?_
 refine Zr <| Zw (vs.getD k0 undef) rfl <| Zv (dM (j := 0) (v := (vs.getD k0 undef)) rfl (Below.slT hB r) rfl dw Om Om) <| Zv (dm (v := .int .i64 _) rfl dC (dO.cell (j := 0) (Below.slT hB r) eN 0 Om Om 0 rfl)) <| Zy (dp sU rfl fun t ah C u f => ?_)
 have O := ZO C hB
 clear C
 replace hB := Ze hB u
 replace d := u.at d
 replace e := u.at e
 refine Zy (eA (v := .int .i64 _) rfl rfl dC rfl f Dd fun ai x P => ?_)
 replace hB := Zg hB x O
 replace d := At.grownAt d f x Dd
 replace e := At.grownAt e f x Dd
 replace f := P
 replace f : At _ _ #[_] _ := f
 refine cT <| Zd (fun a b => a.grownBy b (some l)) fun Q m => ?_
 replace hB := Ze hB m
 replace d := m.at d
 replace e := m.at e
 replace f := m.at f
 have R := e
 have hS := World.grownBy.refl Q (some l)
 refine Tk 0 rfl (fun _ hq => da rfl dE rfl (At.grownNe d p hq)) hS <| Tk 1 rfl (fun _ _ => gS (vs := #[.pointer (some ⟨t, 0, none⟩)]) (by simp only [List.map_toArray, List.map_cons, List.map_nil]; rfl)) hS <| Tk 3 rfl (fun _ hq => dm (v := .int .i64 _) rfl dC (At.cell (At.grownAt f R hq Dd) rfl)) hS <| To 2 rfl (TC (vs := [.agg #[_, _], .func (.func 109) #[] #[.pointer (some ⟨t, 0, none⟩)]]) y7 (mZ n _ vs L 109 t (fun k => !decide (((L.getD k0 []).getD 0 0) ∈ L.getD k [])) _ (dh.mono (Below.ow hB hrv) (Nat.zero_le _)) (LO.mono (LO.below hB hLO) (Nat.zero_le _)) hLb J8 (fun k2 xr W h2 hB2 S => tw _ _ _ _ _ _ (Below.atI hB2 f) S (by have := fF hr k2; omega))) rfl fun aj ak g T => ⟨.inl (dA hS (eo.grown g (some l))), ?_⟩)
 have U := (Below.size hB)
 replace hB := Ze hB g
 replace d := g.at d
 replace e := g.at e
 replace f := g.at f
 replace hS := dA hS (eo.grown g (some l))
 obtain ⟨rv8_2, rfl, hk8_2⟩ := T
 replace hk8_2 := dh.mono hk8_2 U
 refine To 4 rfl (df rfl rfl dE rfl e rfl (by exact gY (dh.one hk8_2)) fun al h V => ⟨.inl (dA hS h), ?_⟩)
 replace hS := dA hS h
 replace hB := Zg hB h A
 replace d := At.grownNe d p h
 replace f := At.grownAt f e h Dd
 replace hk8_2 := dh.grownAt hk8_2 e h Dd
 replace e := V
 refine Ti 5 rfl rfl hS <| Tw 6 (.bool true) rfl rfl hS <| Td <| Zt <| CZ rfl dE e rfl (v1 := .int .i64 _) rfl (v2 := .bool true) rfl ⟨hB, ?_⟩
 first | exact ⟨_, _, _, _, _, rfl, dh.mono hk8_2 (Nat.zero_le _), LO.below hB (LO.kp hLO (fun k => !decide (((L.getD k0 []).getD 0 0) ∈ L.getD k [])) _ (Nat.le_refl _)), OL (k := k0) (by omega) s rfl⟩ | exact ⟨_, _, _, _, _, rfl, Below.ow hB hrv, LO.below hB hLO, N4 L⟩
 refine c7 <| N _ _ <| cZ <| Zv (dq rfl rfl Om Om) <| Zi rfl <| cT ?_
 exact J _ _ (k0 + 1) Za ⟨rfl, trivial⟩ ⟨hB, d, e, Om, trivial⟩ Zo
 refine dt <| I _ _ <| Zr <| Zv (da rfl dE rfl d) <| Zy (df rfl rfl dE rfl e rfl (by exact gY (dh.one hrv)) fun ao D X => ?_)
 replace hB := Zg hB D A
 replace d := At.grownNe d p D
 replace e := X
 refine Zw (.int .i64 0) rfl <| Zw (.bool false) rfl <| cT <| Zt <| CZ rfl dE e rfl (v1 := .int .i64 0) rfl (v2 := .bool false) rfl ⟨hB, ?_⟩
 first | exact ⟨_, _, _, _, _, rfl, dh.mono hk8_2 (Nat.zero_le _), LO.below hB (LO.kp hLO (fun k => !decide (((L.getD k0 []).getD 0 0) ∈ L.getD k [])) _ (Nat.le_refl _)), OL (k := k0) (by omega) s rfl⟩ | exact ⟨_, _, _, _, _, rfl, Below.ow hB hrv, LO.below hB hLO, N4 L⟩
theorem wF (n : Int) (rv : Value) (vs : List Value) (L : ML) (w : World) (hrv : dh encV 1 80 w 0 rv vs) (hLO : LO 3 0 w vs L) (hr : dX n L = true) (hLb : L.length ≤ 1000000) :
    Fn Tryz.prog 76 #[.agg #[.int .i64 n, rv]] w fun v w' => ∃ rv' vs' L' b, v = .tuple #[.agg #[.int .i64 n, rv'], .bool b] ∧ dh encV 1 80 w' 0 rv' vs' ∧ LO 3 0 w' vs' L' ∧ NZ L L' b := by
 refine dr (n := 54) Tryz.func76 rfl rfl (Nat.le_of_ble_eq_true rfl) ?_
 have hB : Below w.heap.size w w := Below.refl _ _
 have hll := hLO.ll
 have hvl := hll.len
 refine Zr <| Zy (dW (c := #[_, _]) rfl rfl fun B W3 C K a => ?_)
 have ai := ZO C hB
 clear C
 replace hB := Ze hB K
 refine Zy (dp gX rfl fun D W6 q E d => ?_)
 have r := ZO q hB
 have s := Zn q a.lt
 clear q
 replace hB := Ze hB E
 replace a := E.at a
 refine Zw (.bool false) rfl <| cT <| cY fun K9 M => Zr <| Zv (da rfl dE rfl a) <| ZC (vs := [.agg #[_, _]]) vZ (js n _ _ L _ ((Below.ow hB hrv)).sl (LO.mono (LO.below hB hLO) (Nat.zero_le _)).ll hLb (fun i => Nat.le_trans (fF hr i) Dd)) rfl fun aj ak t N => ?_
 replace hB := Ze hB t
 replace a := t.at a
 replace d := t.at d
 obtain rfl := N
 refine Zv (fJ rfl) <| cT <| ZQ rfl (fun F => ?_) fun F => ?_
 exact absurd (ja F) (by rw [hr]; decide)
 refine c7 <| M _ _ <| cY fun al O => Zr <| Zf rfl eg <| ZL rv rfl fc a rfl <| Zv (dB (v := rv) rfl ((Below.ow hB hrv)).sl d6) <| Zw (.int .i64 0) rfl <| cT <| c9 ?_
 refine dy (σ := (Nat)) [3, 4, 5, 6, 7, 15, 16, 17, 18, 19, 20, 21, 22, 23, 24, 25, 26, 27, 28, 29, 30, 31, 32, 33, 34, 35, 36, 37, 38, 39, 40, 41, 42, 43, 44, 45, 46, 47, 48, 49, 50, 51, 52] (fun i => [(15, .int .i64 (i : Int))]) (fun i W => (Below w.heap.size w W) ∧ (At W B _ 77) ∧ (At W D _ 77) ∧ (i ≤ L.length) ∧ (True)) (fun i => L.length - i) (0) ⟨rfl, trivial⟩ ⟨hB, a, d, (Nat.zero_le _), trivial⟩ ?_
 clear hB a d
 rintro i ao ap ⟨hB, a, d, hi, _⟩ aq P
 refine Zr <| Zv (dP rfl rfl) <| cT <| cY fun ar Q => ZQ rfl (fun R => ?_) fun R => ?_
 refine c7 <| Q _ _ <| cY fun au S => c9 <| Zr <| Zi rfl <| Zv (dM (v := rv) rfl ((Below.ow hB hrv)).sl rfl d6 Om Om) <| Zv (dm (v := (vs.getD i undef)) rfl iE (dO.cell ((Below.ow hB hrv)).sl fV undef Om Om 0 rfl)) ?_
 have G : dO eb 1 w ((vs.getD i undef)) (L.getD i []) := hll.get i (by omega)
 refine Zy (dp sU rfl fun f av H u e => ?_)
 have T := ZO H hB
 clear H
 replace hB := Ze hB u
 replace a := u.at a
 replace d := u.at d
 refine Zy (eA (v := .int .i64 _) rfl rfl dC rfl e Dd fun aw x U => ?_)
 replace hB := Zg hB x T
 replace a := At.grownAt a e x Dd
 replace d := At.grownAt d e x Dd
 replace e := U
 replace e : At _ _ #[_] _ := e
 refine Zw (vs.getD i undef) rfl <| cT <| Zr <| Zf rfl eg <| ZL rv rfl fc a rfl <| Zv (dB (v := rv) rfl ((Below.ow hB hrv)).sl d6) <| Zw (.int .i64 0) rfl <| cT <| c9 ?_
 refine dy (σ := (Nat)) [3, 6, 7, 23, 24, 25, 26, 27, 28, 29, 30, 31, 32, 33, 34, 35, 36, 37, 38, 39, 40, 41, 42, 43, 44, 45, 46, 47, 48, 49, 50, 51] (fun k => [(23, .int .i64 (k : Int))]) (fun k W => (Below w.heap.size w W) ∧ (At W B _ 77) ∧ (At W D _ 77) ∧ (At W f _ 3) ∧ (k ≤ L.length) ∧ (True)) (fun k => L.length - k) (0) ⟨rfl, trivial⟩ ⟨hB, a, d, e, (Nat.zero_le _), trivial⟩ ?_
 clear hB a d e
 rintro k ax ay ⟨hB, a, d, e, hk, _⟩ az y
 refine Zr <| Zv (dP rfl rfl) <| cT <| cY fun aA V => ZQ rfl (fun X => ?_) fun X => ?_
 refine c7 <| V _ _ <| cY fun aB z => c9 <| Zr <| Zi rfl <| Zv (dM (v := rv) rfl ((Below.ow hB hrv)).sl rfl d6 Om Om) <| Zv (dm (v := (vs.getD k undef)) rfl iE (dO.cell ((Below.ow hB hrv)).sl fV undef Om Om 0 rfl)) ?_
 have I : dO eb 1 w ((vs.getD k undef)) (L.getD k []) := hll.get k (by omega)
 refine Zi rfl <| Zw (vs.getD k undef) rfl <| cT <| Zr <| Zi rfl <| Zl rfl dC e rfl <| Zv (fC rfl rfl) <| ZX rfl (fun g => ?_) fun g => ?_
 refine Zw (vs.getD k undef) rfl <| Zw (vs.getD i undef) rfl <| ZC Ee (oe _ _ _ _ _ (Below.slT hB I) (Below.slT hB G) (by have := fF hr k; omega) (by have := fF hr i; omega)) rfl fun aC aD h Y => ?_
 replace hB := Ze hB h
 replace a := h.at a
 replace d := h.at d
 replace e := h.at e
 obtain rfl := Y
 refine Zb rfl <| ZX rfl (fun j => ?_) fun j => ?_
 refine Zw (vs.getD k undef) rfl <| Zv (dB (v := (vs.getD k undef)) rfl (Below.slT hB I) dw) <| Zw (vs.getD i undef) rfl <| Zv (dB (v := (vs.getD i undef)) rfl (Below.slT hB G) dw) <| Zv (dP rfl rfl) <| ZX rfl (fun Z => ?_) fun Z => ?_
 refine Zs <| Zs <| Zs <| Zw (.bool true) rfl <| Zw (.bool true) rfl <| cT <| dz rfl <| Zr <| Zv (da rfl dE rfl a) <| Zv (gS (vs := #[.pointer (some ⟨f, 0, none⟩)]) (by simp only [List.map_toArray, List.map_cons, List.map_nil]; rfl)) <| ZC (vs := [.agg #[_, _], .func (.func 112) #[] #[.pointer (some ⟨f, 0, none⟩)]]) y7 (mZ n _ vs L 112 f (fun k => decide (¬ (k : Int) = (i : Int))) _ (dh.mono (Below.ow hB hrv) (Nat.zero_le _)) (LO.mono (LO.below hB hLO) (Nat.zero_le _)) hLb Da (fun k2 xr W h2 hB2 aa => od _ _ _ _ _ (Below.atI hB2 e) )) rfl fun ab aE l A => ?_
 have ac := (Below.size hB)
 replace hB := Ze hB l
 replace a := l.at a
 replace d := l.at d
 replace e := l.at e
 obtain ⟨rv10_2, rfl, hk10_2⟩ := A
 replace hk10_2 := dh.mono hk10_2 ac
 refine Zy (df rfl rfl dE rfl d rfl (by exact gY (dh.one hk10_2)) fun aF m ad => ?_)
 replace hB := Zg hB m r
 replace a := At.grownNe a s m
 replace e := At.grownAt e d m Dd
 replace hk10_2 := dh.grownAt hk10_2 d m Dd
 replace d := ad
 refine Zw (.bool true) rfl <| cT <| Zt <| fj rfl dE d rfl (v1 := .bool true) rfl ⟨hB, ?_⟩
 first | exact ⟨_, _, _, _, rfl, dh.mono hk10_2 (Nat.zero_le _), LO.below hB (LO.kp hLO (fun k => decide (¬ (k : Int) = (i : Int))) _ (Nat.le_refl _)), yv (i := i) (k := k) (by omega) (by omega) g j⟩ | exact ⟨_, _, _, _, rfl, Below.ow hB hrv, LO.below hB hLO, Iv L⟩
 refine Zi rfl <| Zl rfl dC e rfl <| Zv (dP rfl rfl) <| Zb rfl <| Zb rfl <| cT <| ZQ rfl (fun ae => ?_) fun ae => ?_
 refine Zr <| Zv (da rfl dE rfl a) <| Zv (gS (vs := #[.pointer (some ⟨f, 0, none⟩)]) (by simp only [List.map_toArray, List.map_cons, List.map_nil]; rfl)) <| ZC (vs := [.agg #[_, _], .func (.func 112) #[] #[.pointer (some ⟨f, 0, none⟩)]]) y7 (mZ n _ vs L 112 f (fun k => decide (¬ (k : Int) = (i : Int))) _ (dh.mono (Below.ow hB hrv) (Nat.zero_le _)) (LO.mono (LO.below hB hLO) (Nat.zero_le _)) hLb Da (fun k2 xr W h2 hB2 aa => od _ _ _ _ _ (Below.atI hB2 e) )) rfl fun ab aG o A => ?_
 have af := (Below.size hB)
 replace hB := Ze hB o
 replace a := o.at a
 replace d := o.at d
 replace e := o.at e
 obtain ⟨rv10_2, rfl, hk10_2⟩ := A
 replace hk10_2 := dh.mono hk10_2 af
 refine Zy (df rfl rfl dE rfl d rfl (by exact gY (dh.one hk10_2)) fun aH p ag => ?_)
 replace hB := Zg hB p r
 replace a := At.grownNe a s p
 replace e := At.grownAt e d p Dd
 replace hk10_2 := dh.grownAt hk10_2 d p Dd
 replace d := ag
 refine Zw (.bool true) rfl <| cT <| Zt <| fj rfl dE d rfl (v1 := .bool true) rfl ⟨hB, ?_⟩
 first | exact ⟨_, _, _, _, rfl, dh.mono hk10_2 (Nat.zero_le _), LO.below hB (LO.kp hLO (fun k => decide (¬ (k : Int) = (i : Int))) _ (Nat.le_refl _)), yv (i := i) (k := k) (by omega) (by omega) g j⟩ | exact ⟨_, _, _, _, rfl, Below.ow hB hrv, LO.below hB hLO, Iv L⟩
 refine c7 <| z _ _ <| cZ <| Zv (dq rfl rfl Om Om) <| Zi rfl <| cT ?_
 exact y _ _ (k + 1) Za ⟨rfl, trivial⟩ ⟨hB, a, d, e, Om, trivial⟩ Zo
 refine Zs <| Zs <| Zs <| Zs <| Zs <| Zs <| Zs <| Zs <| Zs <| Zs <| Zw (.bool false) rfl <| cT <| ep rfl <| c7 ?_
 refine z _ _ <| cZ <| Zv (dq rfl rfl Om Om) <| Zi rfl <| cT ?_
 exact y _ _ (k + 1) Za ⟨rfl, trivial⟩ ⟨hB, a, d, e, Om, trivial⟩ Zo
 refine Zs <| Zs <| Zs <| Zw (.bool false) rfl <| Zw (.bool false) rfl <| Zs <| Zs <| Zs <| Zs <| Zs <| Zs <| Zs <| Zs <| Zs ?_
 refine Zs <| Zw (.bool false) rfl <| cT <| ep rfl <| c7 <| z _ _ <| cZ <| Zv (dq rfl rfl Om Om) <| Zi rfl <| cT ?_
 exact y _ _ (k + 1) Za ⟨rfl, trivial⟩ ⟨hB, a, d, e, Om, trivial⟩ Zo
 refine dt <| S _ _ <| cZ <| Zv (dq rfl rfl Om Om) <| Zi rfl <| cT ?_
 exact P _ _ (i + 1) Za ⟨rfl, trivial⟩ ⟨hB, a, d, Om, trivial⟩ Zo
 refine dt <| O _ _ <| Zr <| Zv (da rfl dE rfl a) <| Zy (df rfl rfl dE rfl d rfl (by exact gY (dh.one hrv)) fun aI J ah => ?_)
 replace hB := Zg hB J r
 replace a := At.grownNe a s J
 replace d := ah
 refine Zw (.bool false) rfl <| cT <| Zt <| fj rfl dE d rfl (v1 := .bool false) rfl ⟨hB, ?_⟩
 first | exact ⟨_, _, _, _, rfl, dh.mono hk10_2 (Nat.zero_le _), LO.below hB (LO.kp hLO (fun k => decide (¬ (k : Int) = (i : Int))) _ (Nat.le_refl _)), yv (i := i) (k := k) (by omega) (by omega) g j⟩ | exact ⟨_, _, _, _, rfl, Below.ow hB hrv, LO.below hB hLO, Iv L⟩
end
section
open Go Go.RowKit
theorem kZ : lx Tryz.prog 154 = some (3, 80) := by kernel_rfl
theorem gC : n7 Tryz.prog 3 (fun v => ∃ a : Int, v = eE a) := by
  refine m6 Tryz.underlying3 ?_ ?_ ?_ ?_
  · rintro w _ _ ⟨a, rfl⟩ ⟨c, rfl⟩
    refine ⟨a == c, ?_, by simp [eE]⟩
    simp [Op.equal, eE]
    exact run_equalIn_int w 9999 3 .i64 .i64 a c Tryz.underlying3
  · rintro _ _ ⟨a, rfl⟩ ⟨c, rfl⟩
    exact .inr ⟨a == c, by simp [Instr.sameNow, eE], by simp [eE]⟩
  · rintro w em _ ⟨a, rfl⟩
    have h2 : ∀ k, (Instr.checkKey em (k + 1) 3 (eE a)).run Tryz.prog w = .ok () w := fun k => by
      simp [eE, Instr.checkKey, run_underlying Tryz.underlying3]
    exact h2 9999
  · rintro _ ⟨a, rfl⟩
    simp [eE, Instr.sameBits]
theorem qv : eH Tryz.prog 80 = some (.slice none 0 0) := by kernel_rfl
set_option maxHeartbeats 2000000 in
theorem sx (n : Int) (rv : Value) (vs : List Value) (L : ML) (w : World) (hrv : dh encV 1 80 w 0 rv vs) (hLO : LO 3 0 w vs L) (hr : dX n L = true) (hLb : L.length ≤ 1000000) :
    Fn Tryz.prog 78 #[.agg #[.int .i64 n, rv]] w fun v w' => ∃ rv' vs' L' b, v = .tuple #[.agg #[.int .i64 n, rv'], .bool b] ∧ dh encV 1 80 w' 0 rv' vs' ∧ LO 3 0 w' vs' L' ∧ NZ L L' b := by
 refine dr (n := 135) Tryz.func78 rfl rfl (Nat.le_of_ble_eq_true rfl) ?_
 have hB : Below w.heap.size w w := Below.refl _ _
 have hll := hLO.ll
 have hvl := hll.len
 refine Zr <| Zy (dW (c := #[_, _]) rfl rfl fun s W3 ah aG d => ?_)
 have bq := ZO ah hB
 clear ah
 replace hB := Ze hB aG
 refine Zy (dp gX rfl fun t W6 Q ai f => ?_)
 have aj := ZO Q hB
 have ak := Zn Q d.lt
 clear Q
 replace hB := Ze hB ai
 replace d := ai.at d
 refine Zw (.bool false) rfl <| cT <| cY fun K9 aH => Zr <| Zv (da rfl dE rfl d) <| ZC (vs := [.agg #[_, _]]) vZ (js n _ _ L _ ((Below.ow hB hrv)).sl (LO.mono (LO.below hB hLO) (Nat.zero_le _)).ll hLb (fun i => Nat.le_trans (fF hr i) Dd)) rfl fun br bs R aI => ?_
 replace hB := Ze hB R
 replace d := R.at d
 replace f := R.at f
 obtain rfl := aI
 refine Zv (fJ rfl) <| cT <| ZQ rfl (fun al => ?_) fun al => ?_
 exact absurd (ja al) (by rw [hr]; decide)
 refine c7 <| aH _ _ <| Zr <| Zy (gD (enc := eE) (encV := id) fun m bt ao S ap => ?_)
 have aJ := ZO ao hB
 clear ao
 replace hB := Ze hB S
 replace d := S.at d
 replace f := S.at f
 refine Zw (.map (some m)) rfl <| cT <| cY fun bu aK => Zr <| Zf rfl eg <| ZL rv rfl fc d rfl <| Zv (dB (v := rv) rfl ((Below.ow hB hrv)).sl d6) <| Zw (.int .i64 0) rfl <| cT <| c9 ?_
 refine dy (σ := (Nat) × (List (Int × Value))) [5, 6, 8, 26, 27, 28, 29, 30, 31, 32, 33, 34, 35, 36, 37, 38, 39, 40, 41, 42, 43, 44, 45, 46] (fun (i, l) => [(26, .int .i64 (i : Int))]) (fun sg W => match sg with | (i, l) => (Below w.heap.size w W) ∧ (At W s _ 77) ∧ (At W t _ 77) ∧ (dQ eE id W m l) ∧ (MO 3 w.heap.size W l (nf L i)) ∧ (i ≤ L.length) ∧ (True)) (fun (i, l) => L.length - i) ((0, [])) ⟨rfl, trivial⟩ ⟨hB, d, f, ap, MO.nil, (Nat.zero_le _), trivial⟩ ?_
 clear hB d f ap
 rintro ⟨i, l⟩ bv bw ⟨hB, d, f, hmw, hmo, hi, _⟩ bx aL
 refine Zr <| Zv (dP rfl rfl) <| cT <| cY fun bz aM => ZQ rfl (fun aN => ?_) fun aN => ?_
 refine c7 <| aM _ _ <| cY fun bA aO => c9 <| Zr <| Zi rfl <| Zv (dM (v := rv) rfl ((Below.ow hB hrv)).sl rfl d6 Om Om) <| Zv (dm (v := (vs.getD i undef)) rfl iE (dO.cell ((Below.ow hB hrv)).sl fV undef Om Om 0 rfl)) ?_
 have T : dO eb 1 w ((vs.getD i undef)) (L.getD i []) := hll.get i (by omega)
 refine Zi rfl <| Zw (vs.getD i undef) rfl <| cT <| Zr <| Zw (vs.getD i undef) rfl <| Zv (dB (v := (vs.getD i undef)) rfl (Below.slT hB T) dw) <| Zw (.int .i64 0) rfl <| cT <| c9 ?_
 refine dy (σ := (Nat) × (List (Int × Value))) [8, 33, 34, 35, 36, 37, 38, 39, 40, 41, 42, 43, 44, 45] (fun (j, l2) => [(33, .int .i64 (j : Int))]) (fun sg W => match sg with | (j, l2) => (Below w.heap.size w W) ∧ (At W s _ 77) ∧ (At W t _ 77) ∧ (dQ eE id W m l2) ∧ (MO 3 w.heap.size W l2 (KY (L.getD i []) i (nf L i) j)) ∧ (j ≤ (L.getD i []).length) ∧ (True)) (fun (j, l2) => (L.getD i []).length - j) ((0, l)) ⟨rfl, trivial⟩ ⟨hB, d, f, hmw, hmo, (Nat.zero_le _), trivial⟩ ?_
 clear hB d f hmw hmo
 rintro ⟨j, l2⟩ bB bC ⟨hB, d, f, hmw2, hmo2, hj, _⟩ bD aP
 refine Zr <| Zv (dP rfl rfl) <| cT <| cY fun bE aQ => ZQ rfl (fun aR => ?_) fun aR => ?_
 refine c7 <| aQ _ _ <| cY fun bF aS => c9 <| Zr <| Zv (dM (v := (vs.getD i undef)) rfl (Below.slT hB T) rfl dw Om Om) <| Zv (dm (v := .int .i64 _) rfl dC (dO.cell (Below.slT hB T) eN 0 Om Om 0 rfl)) <| Zi rfl <| cT ?_
 have hov := MO.get hmo2 ((L.getD i []).getD j 0)
 have hwl1 := yZ (r := L.getD i []) (i := i) (g := nf L i) (c := ((L.getD i []).getD j 0)) j
 have hwl2 := ua (c := ((L.getD i []).getD j 0)) (fF hr) i
 have hwl3 := fF hr i
 refine cZ <| Zw (.map (some m)) rfl <| Zi rfl <| Zw (.map (some m)) rfl <| Zi rfl <| Zv (fN (enc := eE) (encV := id) (v0 := .slice none 0 0) (k := ((L.getD i []).getD j 0)) rfl rfl kZ gC (fun a => ⟨a, rfl⟩) fM qv rfl hmw2) <| Zi rfl <| Zy (fp (u := .int .i64 _) rfl dw fR rfl Dd Dd fun aq bG U y aT => ?_)
 have bH := ZO U hB
 have bI := dh.neB (b := aq) hov (Nat.le_of_eq U.symm)
 clear U
 replace hB := Ze hB y
 replace d := y.at d
 replace f := y.at f
 replace hmw2 := y.mapT hmw2
 replace hmo2 := MO.ext y hmo2
 replace hov := y.ow hov
 refine Zy (jl (v := (FB l2 ((L.getD i []).getD j 0))) (v2 := .slice (some ⟨aq, 0, none⟩) 1 1) rfl rfl dw fR Dd hov (fP aT rfl) rfl (by have := Below.size hB; omega) (by first | omega | (simp; omega)) (by first | omega | (simp; omega)) fun ar bJ E F aU => ?_)
 replace F := dh.snoc (enc := eb) (x := (i : Int)) rfl rfl rfl rfl F
 replace hB := ZG hB E hov
 replace d := At.grownOw d hov E Dd
 replace f := At.grownOw f hov E Dd
 replace hmw2 := dQ.grownOw hmw2 hov E
 replace hmo2 := MO.app hmo2 E aU F
 clear hov
 refine gP (dd := none) rfl rfl rfl (fD (enc := eE) (encV := id) (k := ((L.getD i []).getD j 0)) (v := ar) rfl rfl rfl kZ gC (fun a => ⟨a, rfl⟩) fM hmw2 (fun bK z aV => ?_))
 replace hB := Zg hB z aJ
 replace d := At.grownMap d hmw2 z
 replace f := At.grownMap f hmw2 z
 replace hmo2 := MO.grownMap hmo2 hmw2 z
 replace F := dh.grownMap F hmw2 z
 clear z hmw2
 replace hmw2 := aV
 refine cT <| aS _ _ <| cZ <| Zv (dq rfl rfl Om Om) <| Zi rfl <| cT ?_
 exact aP _ _ ((j + 1, gV l2 ((L.getD i []).getD j 0) ar)) Za ⟨rfl, trivial⟩ ⟨hB, d, f, (by exact hmw2), hmo2, Om, trivial⟩ (by show (L.getD i []).length - (j + 1) < (L.getD i []).length - j; omega)
 refine dt <| aO _ _ <| cZ <| Zv (dq rfl rfl Om Om) <| Zi rfl <| cT ?_
 obtain rfl : j = (L.getD i []).length := by omega
 exact aL _ _ ((i + 1, l2)) Za ⟨rfl, trivial⟩ ⟨hB, d, f, (by exact hmw2), hmo2, Om, trivial⟩ (by show L.length - (i + 1) < L.length - i; omega)
 refine dt <| aK _ _ <| cY fun bL aW => ?_
 obtain rfl : i = L.length := by omega
 have hn0 := (fe.1 hr).1
 have hn4 := (fe.1 hr).2.1
 refine Zr <| Zf rfl iw <| Zl rfl dC d rfl <| Zw (.int .i64 0) rfl <| cT <| c9 ?_
 refine dy (σ := (Nat)) [3, 9, 11, 12, 14, 15, 17, 49, 50, 51, 52, 53, 54, 55, 56, 57, 58, 59, 60, 61, 62, 63, 64, 65, 66, 67, 68, 69, 70, 71, 72, 73, 74, 75, 76, 77, 78, 79, 80, 81, 82, 83, 84, 85, 86, 87, 88, 89, 90, 91, 92, 93, 94, 95, 96, 97, 98, 99, 100, 101, 102, 103, 104, 105, 106, 107, 108, 109, 110, 111, 112, 113, 114, 115, 116, 117, 118, 119, 120, 121, 122, 123, 124, 125, 126, 127, 128, 129, 130, 131, 132, 133] (fun cc => [(49, .int .i64 (cc : Int))]) (fun cc W => (Below w.heap.size w W) ∧ (At W s _ 77) ∧ (At W t _ 77) ∧ (dQ eE id W m _) ∧ (MO 3 w.heap.size W l (nf L L.length)) ∧ ((cc : Int) ≤ n) ∧ (True)) (fun cc => n.toNat - cc) (0) ⟨rfl, trivial⟩ ⟨hB, d, f, hmw, hmo, Om, trivial⟩ ?_
 clear hB d f hmw hmo
 rintro cc bM bN ⟨hB, d, f, hmw, hmo, hcc, _⟩ bO au
 refine Zr <| Zv (dP rfl rfl) <| cT <| cY fun bP aX => ZQ rfl (fun aY => ?_) fun aY => ?_
 refine c7 <| aX _ _ <| cY fun bQ av => c9 <| Zr <| Zi rfl <| Zi rfl <| cT <| cY fun bR aZ => ?_
 have hw16 := MO.get hmo (cc : Int)
 refine Zr <| Zw (.map (some m)) rfl <| Zi rfl <| Zv (fN (enc := eE) (encV := id) (v0 := .slice none 0 0) (k := (cc : Int)) rfl rfl kZ gC (fun a => ⟨a, rfl⟩) fM qv rfl hmw) <| Zv (dB (v := (FB l (cc : Int))) rfl hw16.sl dw) <| Zv (eq rfl rfl) <| cT <| ZQ rfl (fun V => ?_) fun V => ?_
 refine dt <| av _ _ <| cZ <| Zv (dq rfl rfl Om Om) <| Zi rfl <| cT ?_
 exact au _ _ (cc + 1) Za ⟨rfl, trivial⟩ ⟨hB, d, f, hmw, hmo, Om, trivial⟩ Zo
 refine c7 <| aZ _ _ ?_
 have hlim : 0 ≤ (nf L L.length (cc : Int)).getD (0 : Int).toNat 0 ∧ (nf L L.length (cc : Int)).getD (0 : Int).toNat 0 < L.length ∧ (cc : Int) ∈ L.getD ((nf L L.length (cc : Int)).getD (0 : Int).toNat 0).toNat [] := Eb (q := 0) (by omega)
 have hl0 := fF hr ((nf L L.length (cc : Int)).getD (0 : Int).toNat 0).toNat
 refine Zd eo fun a0 A => ?_
 replace hB := Ze hB A
 replace d := A.at d
 replace f := A.at f
 replace hmw := A.mapT hmw
 replace hmo := MO.ext A hmo
 replace hw16 := A.ow hw16
 have hS := eo.refl a0
 refine Tf 0 rfl rfl eg hS <| Tk 1 rfl (fun _ hq => dm (v := rv) rfl fc (At.cell (hq.at d) rfl)) hS <| Tw 2 (.map (some m)) rfl rfl hS <| Ti 3 rfl rfl hS <| Tk 4 rfl (fun _ hq => fN (enc := eE) (encV := id) (v0 := .slice none 0 0) (k := (cc : Int)) rfl rfl kZ gC (fun a => ⟨a, rfl⟩) fM qv rfl (hq.mapT hmw)) hS <| Tk 5 rfl (fun _ hq => dM (j := 0) (v := (FB l (cc : Int))) rfl ((hq.ow hw16)).sl rfl dw Om Om) hS <| Tk 6 rfl (fun _ hq => dm (v := .int .i64 _) rfl dC (dO.cell (j := 0) ((hq.ow hw16)).sl eN 0 Om Om 0 rfl)) hS <| Tk 7 rfl (fun _ hq => dM (v := rv) rfl ((hq.ow (Below.ow hB hrv))).sl rfl d6 Om Om) hS <| Tk 8 rfl (fun _ hq => dm (v := (vs.getD ((nf L L.length (cc : Int)).getD (0 : Int).toNat 0).toNat undef)) rfl iE (dO.cell ((hq.ow (Below.ow hB hrv))).sl fV undef Om Om 0 rfl)) hS ?_
 have J : dO eb 1 w ((vs.getD ((nf L L.length (cc : Int)).getD (0 : Int).toNat 0).toNat undef)) (L.getD ((nf L L.length (cc : Int)).getD (0 : Int).toNat 0).toNat []) := hll.get _ (by omega)
 refine Tk 9 rfl (fun _ hq => dB (v := (vs.getD ((nf L L.length (cc : Int)).getD (0 : Int).toNat 0).toNat undef)) rfl (hq.slT (Below.slT hB J)) dw) hS <| Tw 10 (.int .i64 0) rfl rfl hS <| Td <| c9 ?_
 refine dy (σ := (Nat)) [3, 11, 12, 14, 15, 17, 67, 68, 69, 70, 71, 72, 73, 74, 75, 76, 77, 78, 79, 80, 81, 82, 83, 84, 85, 86, 87, 88, 89, 90, 91, 92, 93, 94, 95, 96, 97, 98, 99, 100, 101, 102, 103, 104, 105, 106, 107, 108, 109, 110, 111, 112, 113, 114, 115, 116, 117, 118, 119, 120, 121, 122, 123, 124, 125, 126, 127, 128, 129, 130, 131, 132] (fun q => [(67, .int .i64 (q : Int))]) (fun q W => (Below w.heap.size w W) ∧ (At W s _ 77) ∧ (At W t _ 77) ∧ (dQ eE id W m _) ∧ (MO 3 w.heap.size W l (nf L L.length)) ∧ (dh eb 1 3 W w.heap.size (FB l (cc : Int)) _) ∧ (q ≤ (L.getD ((nf L L.length (cc : Int)).getD (0 : Int).toNat 0).toNat []).length) ∧ (True)) (fun q => (L.getD ((nf L L.length (cc : Int)).getD (0 : Int).toNat 0).toNat []).length - q) (0) ⟨rfl, trivial⟩ ⟨hB, d, f, hmw, hmo, hw16, (Nat.zero_le _), trivial⟩ ?_
 clear hB d f hmw hmo hw16
 rintro q bS bT ⟨hB, d, f, hmw, hmo, hw16, hq, _⟩ bU X
 refine Zr <| Zv (dP rfl rfl) <| cT <| cY fun bV a1 => ZQ rfl (fun a2 => ?_) fun a2 => ?_
 refine c7 <| a1 _ _ <| cY fun bW Y => c9 <| Zr <| Zv (dM (v := (vs.getD ((nf L L.length (cc : Int)).getD (0 : Int).toNat 0).toNat undef)) rfl (Below.slT hB J) rfl dw Om Om) <| Zv (dm (v := .int .i64 _) rfl dC (dO.cell (Below.slT hB J) eN 0 Om Om 0 rfl)) <| Zi rfl <| cT ?_
 refine KE (σ := (Unit)) [71, 72, 73, 74, 75, 76, 77, 78, 79, 80, 81, 82, 83, 84, 85, 86, 87, 88, 89, 90, 91, 92, 93, 94, 95, 96, 97, 98, 99] (fun u_ => []) (fun W => (Below w.heap.size w W) ∧ (At W s _ 77) ∧ (At W t _ 77) ∧ (True)) ⟨hB, d, f, trivial⟩ (fun u_ W => (¬ ((L.getD ((nf L L.length (cc : Int)).getD (0 : Int).toNat 0).toNat []).getD q 0) = (cc : Int)) ∧ (yV (nf L L.length (cc : Int)) (nf L L.length ((L.getD ((nf L L.length (cc : Int)).getD (0 : Int).toNat 0).toNat []).getD q 0)) = true) ∧ (True)) (fun bX aw => ?_) ?_
 have hw20 := MO.get hmo ((L.getD ((nf L L.length (cc : Int)).getD (0 : Int).toNat 0).toNat []).getD q 0)
 refine Zr <| Zi rfl <| Zi rfl <| Zv (eq rfl rfl) <| ZX rfl (fun Z => ?_) fun Z => ?_
 refine Zs <| Zs <| Zs <| Zs <| Zs <| Zs <| Zs <| Zs <| Zw (.bool true) rfl <| Zw (.bool true) rfl <| Zs <| Zs <| Zs <| Zs ?_
 refine Zs <| Zs <| Zs <| Zs <| Zs <| Zs <| Zs <| Zs <| Zs <| Zs <| Zw (.bool true) rfl <| cT <| dz rfl <| dt ?_
 refine Y _ _ <| cZ <| Zv (dq rfl rfl Om Om) <| Zi rfl <| cT ?_
 exact X _ _ (q + 1) Za ⟨rfl, trivial⟩ ⟨hB, d, f, hmw, hmo, hw16, Om, trivial⟩ Zo
 refine Zw (.map (some m)) rfl <| Zi rfl <| Zv (fN (enc := eE) (encV := id) (v0 := .slice none 0 0) (k := (cc : Int)) rfl rfl kZ gC (fun a => ⟨a, rfl⟩) fM qv rfl hmw) <| Zw (.map (some m)) rfl <| Zi rfl <| Zv (fN (enc := eE) (encV := id) (v0 := .slice none 0 0) (k := ((L.getD ((nf L L.length (cc : Int)).getD (0 : Int).toNat 0).toNat []).getD q 0)) rfl rfl kZ gC (fun a => ⟨a, rfl⟩) fM qv rfl hmw) <| ZC Ee (oe _ _ _ _ _ hw16.sl hw20.sl (by have := ua (c := (cc : Int)) (fF hr) L.length; omega) (by have := ua (c := ((L.getD ((nf L L.length (cc : Int)).getD (0 : Int).toNat 0).toNat []).getD q 0)) (fF hr) L.length; omega)) rfl fun bY bZ o a3 => ?_
 replace hB := Ze hB o
 replace d := o.at d
 replace f := o.at f
 replace hmw := o.mapT hmw
 replace hmo := MO.ext o hmo
 replace hw16 := o.ow hw16
 replace hw20 := o.ow hw20
 obtain rfl := a3
 refine Zv (fJ rfl) <| Zb rfl <| ZX rfl (fun aa => ?_) fun aa => ?_
 refine Zs <| Zs <| Zs <| Zs <| Zs <| Zs <| Zs <| Zs <| Zs <| Zs <| Zs <| Zs <| Zs <| Zs ?_
 refine Zw (.bool true) rfl <| cT <| dz rfl <| dt <| Y _ _ <| cZ <| Zv (dq rfl rfl Om Om) <| Zi rfl <| cT ?_
 exact X _ _ (q + 1) Za ⟨rfl, trivial⟩ ⟨hB, d, f, hmw, hmo, hw16, Om, trivial⟩ Zo
 refine Zw (.map (some m)) rfl <| Zi rfl <| Zv (fN (enc := eE) (encV := id) (v0 := .slice none 0 0) (k := ((L.getD ((nf L L.length (cc : Int)).getD (0 : Int).toNat 0).toNat []).getD q 0)) rfl rfl kZ gC (fun a => ⟨a, rfl⟩) fM qv rfl hmw) <| Zv (dB (v := (FB l ((L.getD ((nf L L.length (cc : Int)).getD (0 : Int).toNat 0).toNat []).getD q 0))) rfl hw20.sl dw) <| Zw (.map (some m)) rfl <| Zi rfl <| Zv (fN (enc := eE) (encV := id) (v0 := .slice none 0 0) (k := (cc : Int)) rfl rfl kZ gC (fun a => ⟨a, rfl⟩) fM qv rfl hmw) <| Zv (dB (v := (FB l (cc : Int))) rfl hw16.sl dw) <| Zv (eq rfl rfl) <| ZX rfl (fun a4 => ?_) fun a4 => ?_
 refine Zi rfl <| Zi rfl <| Zv (i4 rfl rfl) <| Zb rfl <| Zb rfl <| cT <| ZQ rfl (fun a5 => ?_) fun a5 => ?_
 refine dt <| Y _ _ <| cZ <| Zv (dq rfl rfl Om Om) <| Zi rfl <| cT ?_
 exact X _ _ (q + 1) Za ⟨rfl, trivial⟩ ⟨hB, d, f, hmw, hmo, hw16, Om, trivial⟩ Zo
 refine c7 ?_
 refine aw _ _ (()) ?_ ?_ ?_ ?_
 · repeat (first | exact fv.mask _ _ _ | exact fv.refl _ _ | refine fv.updo ?_ rfl _ | refine fv.updL ?_ _ rfl | refine fv.maskS rfl ?_)
 · exact trivial
 · exact ⟨hB, d, f, trivial⟩
 · exact ⟨Z, (jX aa), trivial⟩
 refine Zs <| Zs <| Zs <| Zw (.bool false) rfl <| Zw (.bool false) rfl <| cT <| ep rfl <| c7 ?_
 refine aw _ _ (()) ?_ ?_ ?_ ?_
 · repeat (first | exact fv.mask _ _ _ | exact fv.refl _ _ | refine fv.updo ?_ rfl _ | refine fv.updL ?_ _ rfl | refine fv.maskS rfl ?_)
 · exact trivial
 · exact ⟨hB, d, f, trivial⟩
 · exact ⟨Z, (jX aa), trivial⟩
 clear hB d f hmw hmo hw16
 rintro u_ b0 b1 ⟨hB, d, f, _⟩ ⟨hdc, hwt, _⟩
 refine Zr <| Zf rfl iw <| Zl rfl dC d rfl <| Zv (j4 (h0 := rfl) (k0 := rfl) (c0_0 := .int .i64 _)) <| Zy (dp gX rfl fun a6 b2 K ab h => ?_)
 have ax := ZO K hB
 have ay := Zn K d.lt
 have ac := Zn K f.lt
 clear K
 replace hB := Ze hB ab
 replace d := ab.at d
 replace f := ab.at f
 refine Zy (df rfl rfl dE rfl h rfl rfl fun b3 ad a7 => ?_)
 replace hB := Zg hB ad ax
 replace d := At.grownNe d ay ad
 replace f := At.grownNe f ac ad
 replace h := a7
 refine cT <| cY fun b4 a8 => Zr <| Zf rfl eg <| ZL rv rfl fc d rfl <| Zv (dB (v := rv) rfl ((Below.ow hB hrv)).sl d6) <| Zw (.int .i64 0) rfl <| cT <| c9 ?_
 refine dy (σ := (Nat) × (Value) × (List Value)) [14, 15, 17, 106, 107, 108, 109, 110, 111, 112, 113, 114, 115, 116, 117, 118, 119, 120, 121, 122, 123, 124, 125, 126, 127, 128, 129, 130] (fun (k, v0, vn) => [(106, .int .i64 (k : Int))]) (fun sg W => match sg with | (k, v0, vn) => (Below w.heap.size w W) ∧ (At W s _ 77) ∧ (At W t _ 77) ∧ (At W a6 #[.int .i64 n, v0] 77) ∧ (dh encV 1 80 W w.heap.size v0 (vn)) ∧ (LO 3 w.heap.size W vn (nZ (L.take k) (cc : Int))) ∧ (k ≤ L.length) ∧ (True)) (fun (k, v0, vn) => L.length - k) ((0, .slice none 0 0, [])) ⟨rfl, trivial⟩ ⟨hB, d, f, h, dh.nil, LO.nil, (Nat.zero_le _), trivial⟩ ?_
 clear hB d f h
 rintro ⟨k, v0, vn⟩ b5 G ⟨hB, d, f, h, ho, hlo, hk, _⟩ b6 a9
 refine Zr <| Zv (dP rfl rfl) <| cT <| cY fun b7 ba => ZQ rfl (fun bb => ?_) fun bb => ?_
 refine c7 <| ba _ _ <| cY fun b8 bc => c9 <| Zr <| Zv (dM (v := rv) rfl ((Below.ow hB hrv)).sl rfl d6 Om Om) <| Zv (dm (v := (vs.getD k undef)) rfl iE (dO.cell ((Below.ow hB hrv)).sl fV undef Om Om 0 rfl)) ?_
 have bd : dO eb 1 w ((vs.getD k undef)) (L.getD k []) := hll.get k (by omega)
 refine Zw (vs.getD k undef) rfl <| cT ?_
 have bf := Below.ow hB hrv
 have bg := LO.below hB hLO
 have bh := Below.slT hB J
 have M := Below.slT hB bd
 have ae := hB
 replace hB := Below.refl G.heap.size G
 refine Zr <| Zw (.slice none 0 0) rfl <| cT <| cY fun b9 bi => Zr <| Zw (vs.getD k undef) rfl <| Zv (dB (v := (vs.getD k undef)) rfl (Below.slT hB M) dw) <| Zw (.int .i64 0) rfl <| cT <| c9 ?_
 refine dy (σ := (Nat) × (Value)) [15, 17, 112, 113, 114, 115, 116, 117, 118, 119, 120, 121, 122, 123] (fun (j, v1) => [(112, .int .i64 (j : Int)), (15, v1)]) (fun sg W => match sg with | (j, v1) => (Below G.heap.size G W) ∧ (dh eb 1 3 W G.heap.size v1 (w5 ((L.getD k []).take j) (cc : Int))) ∧ (j ≤ (L.getD k []).length) ∧ (True)) (fun (j, v1) => (L.getD k []).length - j) ((0, .slice none 0 0)) ⟨rfl, rfl, trivial⟩ ⟨hB, dh.nil, (Nat.zero_le _), trivial⟩ ?_
 clear hB
 rintro ⟨j, v1⟩ ca cb ⟨hB, hrst, hj, _⟩ cd az
 refine Zr <| Zv (dP rfl rfl) <| cT <| cY fun ce bj => ZQ rfl (fun bk => ?_) fun bk => ?_
 refine c7 <| bj _ _ <| cY fun cf aA => c9 ?_
 have hrl := Ds (L.getD k []) (cc : Int) j
 have hr4 := fF hr k
 refine Zr <| Zv (dM (v := (vs.getD k undef)) rfl (Below.slT hB M) rfl dw Om Om) <| Zv (dm (v := .int .i64 _) rfl dC (dO.cell (Below.slT hB M) eN 0 Om Om 0 rfl)) <| Zi rfl <| cT <| Zr <| Zi rfl <| Zi rfl <| Zv (fC rfl rfl) <| cT <| ZQ rfl (fun H => ?_) fun H => ?_
 refine cZ <| Zw v1 rfl <| Zi rfl <| Zy (fp (u := .int .i64 _) rfl dw fR rfl Dd Dd fun aB cg af aC bl => ?_)
 have ch := ZO af hB
 have ci := dh.neB (b := aB) hrst (Nat.le_of_eq af.symm)
 clear af
 replace hB := Ze hB aC
 replace hrst := aC.ow hrst
 refine Zy (eB (v := v1) (v2 := .slice (some ⟨aB, 0, none⟩) 1 1) rfl rfl dw fR Dd hrst (fP bl rfl) rfl (by have := Below.size hB; omega) (by first | omega | (simp; omega)) (by first | omega | (simp; omega)) fun aD cj bm N => ?_)
 replace N := dh.snoc (enc := eb) (x := _) rfl rfl rfl rfl N
 replace hB := ZG hB bm hrst
 clear hrst
 refine Zw aD rfl <| cT <| aA _ _ <| cZ <| Zv (dq rfl rfl Om Om) <| Zi rfl <| cT ?_
 exact az _ _ ((j + 1, aD)) Za ⟨rfl, rfl, trivial⟩ ⟨hB, (by first | (rw [← CV (k := j) Om H]; exact N) | (rw [← CY (k := j) Om (Decidable.of_not_not H)]; exact N)), Om, trivial⟩ (by show (L.getD k []).length - (j + 1) < (L.getD k []).length - j; omega)
 refine c7 <| aA _ _ <| cZ <| Zv (dq rfl rfl Om Om) <| Zi rfl <| cT ?_
 exact az _ _ ((j + 1, v1)) Za ⟨rfl, rfl, trivial⟩ ⟨hB, (by first | (rw [← CV (k := j) Om H]; exact hrst) | (rw [← CY (k := j) Om (Decidable.of_not_not H)]; exact hrst)), Om, trivial⟩ (by show (L.getD k []).length - (j + 1) < (L.getD k []).length - j; omega)
 refine dt <| bi _ _ ?_
 try clear bf
 try clear bg
 try clear bh
 replace d := Below.atI hB d
 replace f := Below.atI hB f
 replace h := Below.atI hB h
 replace ho := Below.ow hB ho
 replace hlo := LO.below hB hlo
 try clear M
 have hzs := Nat.le_trans (Nat.le_refl _) (Below.size ae)
 replace hrst := dh.mono hrst hzs
 replace hB := Below.trans ae (Below.mono hB hzs)
 clear ae hzs
 obtain rfl : j = (L.getD k []).length := by omega
 rw [List.take_length] at hrst
 have hcl := C7 L (cc : Int) k
 have hvn := hlo.len
 refine cZ <| Zf rfl eg <| ZL v0 rfl fc h rfl <| Zw v1 rfl <| Zy (fp (u := v1) rfl d6 iY (by rw [dO.cells hrst.sl]; rfl) Dd Dd fun ag ck O p aE => ?_)
 have cl := ZO O hB
 have cm := dh.neB (b := ag) (Below.ow hB hrv) (Nat.le_of_eq O.symm)
 have cn := dh.neB (b := ag) ho (Nat.le_of_eq O.symm)
 clear O
 replace d := p.at d
 replace f := p.at f
 replace h := p.at h
 replace ho := p.ow ho
 replace hlo := LO.ext p hlo
 replace hB := Ze hB p
 replace hrst := p.ow hrst
 rw [dO.cells hrst.sl] at aE
 refine Zy (eB (v := v0) (v2 := .slice (some ⟨ag, 0, none⟩) 1 1) rfl rfl d6 iY Dd ho (fP aE rfl) (by first | exact DK (dh.one hrst) | (rw [dO.cells hrst.sl]; exact DK (dh.one hrst))) (by have := Below.size hB; omega) (by first | omega | (simp; omega)) (by first | omega | (simp; omega)) fun aF co B C => ?_)
 replace C := dh.snoc (enc := encV) (x := v1) rfl rfl rfl rfl C
 replace d := At.grownOw d ho B Dd
 replace f := At.grownOw f ho B Dd
 replace h := At.grownOw h ho B Dd
 replace hlo := LO.grownOw hlo ho B Dd
 replace hB := ZG hB B ho
 replace hrst := dh.grownOw hrst ho B Dd
 clear ho
 refine Zf rfl eg <| Zy (eA (v := aF) rfl rfl fc (dO.one C.sl) h (by simp) fun cp D bn => ?_)
 replace d := At.grownNe d ay D
 replace f := At.grownNe f ac D
 replace hlo := LO.grownAt hlo h D Dd
 replace hB := Zg hB D ax
 replace hrst := dh.grownAt hrst h D Dd
 replace C := dh.grownAt C h D Dd
 replace h := bn
 replace h : At _ _ #[_, _] _ := h
 refine cT <| bc _ _ <| cZ <| Zv (dq rfl rfl Om Om) <| Zi rfl <| cT ?_
 exact a9 _ _ ((k + 1, aF, vn ++ [v1])) Za ⟨rfl, trivial⟩ ⟨hB, d, f, (by exact h), (by exact C), (by rw [← Bc Om]; exact LO.snoc hlo hrst), Om, trivial⟩ (by show L.length - (k + 1) < L.length - k; omega)
 refine dt <| a8 _ _ <| Zr <| Zv (da rfl dE rfl h) <| Zy (df rfl rfl dE rfl f rfl (by exact gY (dh.one ho)) fun cq I bo => ?_)
 replace hB := Zg hB I aj
 replace d := At.grownNe d ak I
 replace h := At.grownNe h (Ne.symm ac) I
 replace ho := dh.grownAt ho f I Dd
 replace hlo := LO.grownAt hlo f I Dd
 replace f := bo
 refine Zw (.bool true) rfl <| cT <| Zt <| fj rfl dE f rfl (v1 := .bool true) rfl ⟨hB, ?_⟩
 first | exact ⟨_, _, _, _, rfl, Below.ow hB hrv, LO.below hB hLO, Iv L⟩ | exact ⟨_, _, _, _, rfl, dh.mono ho (Nat.zero_le _), LO.mono hlo (Nat.zero_le _), (by rw [yE (by omega)]; exact D5 (i := 0) (fun e => V (by rw [e]; rfl)) hdc hwt)⟩
 refine dt <| av _ _ <| cZ <| Zv (dq rfl rfl Om Om) <| Zi rfl <| cT ?_
 exact au _ _ (cc + 1) Za ⟨rfl, trivial⟩ ⟨hB, d, f, hmw, hmo, Om, trivial⟩ Zo
 refine dt <| aW _ _ <| Zr <| Zv (da rfl dE rfl d) <| Zy (df rfl rfl dE rfl f rfl (by exact gY (dh.one hrv)) fun cr P bp => ?_)
 replace hB := Zg hB P aj
 replace d := At.grownNe d ak P
 replace hmw := dQ.grownAt hmw f P
 replace hmo := MO.grownAt hmo f P Dd
 replace f := bp
 refine Zw (.bool false) rfl <| cT <| Zt <| fj rfl dE f rfl (v1 := .bool false) rfl ⟨hB, ?_⟩
 first | exact ⟨_, _, _, _, rfl, Below.ow hB hrv, LO.below hB hLO, Iv L⟩ | exact ⟨_, _, _, _, rfl, dh.mono ho (Nat.zero_le _), LO.mono hlo (Nat.zero_le _), (by rw [yE (by omega)]; exact D5 (i := 0) (fun e => V (by rw [e]; rfl)) hdc hwt)⟩
end
section
open Go Go.RowKit
structure Dx (Tn : TypeId) (N : Nat) (xs : List Nat) (w w' : World) : Prop where
 os : w'.os = w.os
 tape : w'.tape = w.tape
 output : w'.output = w.output
 size : w.heap.size ≤ w'.heap.size
 block : ∀ k, k < w.heap.size → (k < N ∨ (k ∉ xs ∧ ∀ c fr, w.heap[k]? ≠ some (.cells c Tn fr))) → w'.heap[k]? = w.heap[k]?
section
variable {Tn T : TypeId} {N : Nat} {xs : List Nat} {w w' w'' : World}
theorem Dx.refl : Dx Tn N xs w w := ⟨rfl, rfl, rfl, Nat.le_refl _, fun _ _ _ => rfl⟩
theorem Dx.trans (h : Dx Tn N xs w w') (k : Dx Tn N xs w' w'') : Dx Tn N xs w w'' := by
 refine ⟨k.os.trans h.os, k.tape.trans h.tape, k.output.trans h.output, Nat.le_trans h.size k.size, fun j hj hc => ?_⟩
 have e := h.block j hj hc
 rw [k.block j (Nat.lt_of_lt_of_le hj h.size) (hc.imp id fun ⟨a, b⟩ => ⟨a, fun c fr => by rw [e]; exact b c fr⟩), e]
theorem Dx.ext (h : eo w w') : Dx Tn N xs w w' := ⟨Below.os h, Below.tape h, Below.output h, Below.size h, fun k hk _ => Below.block h k hk⟩
theorem Dx.grown {b : Nat} (h : w.grownBy w' (some b)) (hb : b ∈ xs) (hN : N ≤ b) : Dx Tn N xs w w' := by
 refine ⟨h.os, h.tape, h.output, h.size, fun k hk hc => h.block k hk fun e => ?_⟩
 cases e
 rcases hc with hc | ⟨hc, _⟩
 ·omega
 ·exact hc hb
theorem Dx.row {α : Type} {enc : α → List Value} {sz : Nat} {v : Value} {l : List α} (k : dh enc sz Tn w N v l) (h : w.grownBy w' v.ownBlock) : Dx Tn N xs w w' := by
 refine ⟨h.os, h.tape, h.output, h.size, fun j hj hc => h.block j hj fun e => ?_⟩
 obtain ⟨_, h2 | ⟨g, cap, cur, h3, hg, hh, _⟩⟩ := k
 ·rw [h2.1] at e; cases e
 ·rw [h3] at e
  obtain rfl : j = g := Option.some.inj e
  rcases hc with hc | ⟨_, hc⟩
  ·omega
  ·exact hc _ _ hh
theorem Dx.mono {ys : List Nat} (h : Dx Tn N xs w w') (hs : ∀ x, x ∈ xs → x ∈ ys) : Dx Tn N ys w w' := ⟨h.os, h.tape, h.output, h.size, fun k hk hc => h.block k hk (hc.imp id fun ⟨a, b⟩ => ⟨fun q => a (hs k q), b⟩)⟩
theorem Dx.new {b : Nat} (h : Dx Tn N xs w w') (hb : w.heap.size ≤ b) (k : Dx Tn N (b :: xs) w' w'') : Dx Tn N xs w w'' := by
 refine ⟨k.os.trans h.os, k.tape.trans h.tape, k.output.trans h.output, Nat.le_trans h.size k.size, fun j hj hc => ?_⟩
 have e := h.block j hj hc
 rw [k.block j (Nat.lt_of_lt_of_le hj h.size) (hc.imp id fun ⟨a, q⟩ => ⟨fun m => (List.mem_cons.1 m).elim (fun e => by omega) a, fun c fr => by rw [e]; exact q c fr⟩), e]
theorem Below.dx {B : Nat} {w0 : World} (hB : Go.RowKit.Below B w0 w) (hN : B ≤ N) (hs : B ≤ w0.heap.size) (h : Dx Tn N xs w w') : Go.RowKit.Below B w0 w' :=
 ⟨h.os.trans hB.os, h.tape.trans hB.tape, h.output.trans hB.output, Nat.le_trans hB.size h.size, fun k hk => (h.block k (by have := hB.size; omega) (.inl (by omega))).trans (hB.block k hk)⟩
end
section
variable {Tn T : TypeId} {N : Nat} {xs : List Nat} {w w' w'' : World}
theorem Dx.below (h : Go.RowKit.Below w.heap.size w w') : Dx Tn N xs w w' := ⟨h.os, h.tape, h.output, h.size, fun k hk _ => h.block k hk⟩
end
end
end Go.Proofs.YteimkklmmanncaaGreat
