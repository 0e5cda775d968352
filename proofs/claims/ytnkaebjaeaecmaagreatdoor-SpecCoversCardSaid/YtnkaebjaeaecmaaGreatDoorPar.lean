/-
  Operations of a region that may come in any order, taken together: what each brings stands still. No program in it.
-/
import Derived.Test.YtnkaebjaeaecmaaGreatDoorFrame
namespace Go.Proofs.YtnkaebjaeaecmaaGreatDoor
set_option linter.unusedVariables false
set_option linter.unusedSimpArgs false
open Go Go.RowKit

def stepL (ops : Array Oper) (Ls : List (Array Bool)) : List (Array Bool) := (Ls.flatMap fun L => (Region.ready .any ops L).map fun i => L.setIfInBounds i true).eraseDups
/-- Of the operations of A alone can come up, till all of them are done. -/
def parB (ops : Array Oper) (A : List Nat) (L1 : Array Bool) : Nat → List (Array Bool) → Bool
  | 0, Ls => Ls.all fun L => L == L1
  | m + 1, Ls => (Ls.all fun L => !(Region.ready .any ops L).isEmpty && (Region.ready .any ops L).all fun i => A.contains i) && parB ops A L1 m (stepL ops Ls)
section
variable {P : Program} {n : Nat} {ops : Array Oper} {Q : (Nat → Value) → World → Prop} {S : World → Prop} {f0 : Nat → Value}
theorem mask_upd {T : List Nat} {g : Nat → Value} {d : Nat} {v : Value} (hd : memN T d = true) : updo (mask T f0 g) (some d) v = mask T f0 (upd g d v) := by
  funext t
  show cond (Nat.beq t d) v (mask T f0 g t) = cond (memN T t) (cond (Nat.beq t d) v (g t)) (f0 t)
  cases e : Nat.beq t d with
  | true =>
    obtain rfl := Nat.eq_of_beq_eq_true e
    rw [hd]; rfl
  | false => rfl
theorem mask_self {T : List Nat} : mask T f0 f0 = f0 := by
  funext t
  unfold mask
  cases memN T t <;> rfl
theorem WT_par_all {A : List Nat} {L1 : Array Bool} {T : List Nat} {k : Nat} (I : Array Bool → (Nat → Value) → World → Prop)
    (hstep : ∀ i, A.contains i = true → ∀ L g w, i < L.size → I L g w → ∃ oi d, ops[i]? = some oi ∧ wantedF ops (mask T f0 g) oi = true ∧ oi.dst = some d ∧ dstOk n (some d) = true ∧ memN T d = true ∧
      Yd P oi (mask T f0 g) w fun v w' => (S w' ∨ fullB ops L i = true) ∧ I (L.setIfInBounds i true) (upd g d v) w')
    (hfin : ∀ g w, I L1 g w → WT P n ops Q S k L1 (mask T f0 g) w) :
    ∀ (m : Nat) (Ls : List (Array Bool)), parB ops A L1 m Ls = true → ∀ L, L ∈ Ls → ∀ g w, I L g w → WT P n ops Q S (k + m) L (mask T f0 g) w
  | 0, Ls, h, L, hL, g, w, hI => by
    have e : L = L1 := by
      have := List.all_eq_true.1 h L hL
      exact eq_of_beq this
    subst e
    exact hfin g w hI
  | m + 1, Ls, h, L, hL, g, w, hI => by
    rw [parB, Bool.and_eq_true] at h
    have h1 := List.all_eq_true.1 h.1 L hL
    rw [Bool.and_eq_true] at h1
    refine ⟨fun hsz hcl a ha => ⟨fun h0 => (by rw [h0] at h1; exact absurd h1.1 (by decide)), fun j hj => ?_⟩⟩
    have hA := List.all_eq_true.1 h1.2 j hj
    have hjlt : j < L.size := by
      obtain ⟨_, oj, hoj, _⟩ := mem_ready.1 hj
      rw [hsz]; exact (Array.getElem?_eq_some_iff.1 hoj).1
    obtain ⟨oi, d, hi, hw, hd, hok, hT, hY⟩ := hstep j hA L g w hjlt hI
    refine WT_op (K := fun f' w' => (S w' ∨ fullB ops L j = true) ∧ WT P n ops Q S (k + m) (L.setIfInBounds j true) f' w') hi hw hd hok ha
      (fun f' a' w' hr' hk => ⟨hk.1, hk.2.out (by simpa using hsz) (hcl.add hj) a' hr'⟩) (hY.mono fun v w' hv => ⟨hv.1, ?_⟩)
    rw [mask_upd hT]
    refine WT_par_all I hstep hfin m _ h.2 _ ?_ _ _ hv.2
    unfold stepL
    rw [List.mem_eraseDups]
    exact List.mem_flatMap.2 ⟨L, hL, List.mem_map.2 ⟨j, hj, rfl⟩⟩
theorem WT_par {A : List Nat} {L0 L1 : Array Bool} {T : List Nat} {k m : Nat} {w : World} (I : Array Bool → (Nat → Value) → World → Prop) (hc : parB ops A L1 m [L0] = true) (h0 : I L0 f0 w)
    (hstep : ∀ i, A.contains i = true → ∀ L g w, i < L.size → I L g w → ∃ oi d, ops[i]? = some oi ∧ wantedF ops (mask T f0 g) oi = true ∧ oi.dst = some d ∧ dstOk n (some d) = true ∧ memN T d = true ∧
      Yd P oi (mask T f0 g) w fun v w' => (S w' ∨ fullB ops L i = true) ∧ I (L.setIfInBounds i true) (upd g d v) w')
    (hfin : ∀ g w, I L1 g w → WT P n ops Q S k L1 (mask T f0 g) w) : WT P n ops Q S (k + m) L0 f0 w := by
  have := WT_par_all (f0 := f0) (T := T) I hstep hfin m [L0] hc L0 (List.mem_singleton.2 rfl) f0 w h0
  rwa [mask_self] at this
theorem WT_congr {f f' : Nat → Value} {w : World} {k : Nat} {L : Array Bool} (e : f = f') (h : WT P n ops Q S k L f' w) : WT P n ops Q S k L f w := by rw [e]; exact h
theorem mask_head {T : List Nat} {g : Nat → Value} (l : List (Nat × Value)) (h : holdsL (mask T f0 g) l) : mask T f0 g = updL l (mask T f0 (mask T f0 g)) := head_eq (agree.mask T f0 g) l h
/-- What is listed behind one more. -/
theorem put_or {L : Array Bool} {i j : Nat} (h : (L.setIfInBounds i true).getD j false = true) : j = i ∨ L.getD j false = true := by
  rcases getD_put.1 h with ⟨e, _⟩ | h
  · exact .inl e
  · exact .inr h
theorem put_ne {L : Array Bool} {i j : Nat} (hne : j ≠ i) (h : (L.setIfInBounds i true).getD j false = true) : L.getD j false = true := (put_or h).resolve_left hne
end

end Go.Proofs.YtnkaebjaeaecmaaGreatDoor
