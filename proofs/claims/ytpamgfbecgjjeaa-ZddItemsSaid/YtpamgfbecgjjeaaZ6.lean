/-
  Steps of the walks over deeds. No program in it.
-/
import Derived.Test.YtpamgfbecgjjeaaZ5
namespace Go.Proofs.Ytpamgfbecgjjeaa
set_option linter.unusedVariables false
set_option linter.unusedSimpArgs false
open Go Go.RowKit

theorem not_t' {b : Bool} (h : (!b) = true) : b = false := by cases b <;> simp_all
theorem tup_eq {a b : Nat} {c d : Bool} (h : a = b) (k : c = d) : Value.tuple #[.int .i64 (a : Int), .bool c] = .tuple #[.int .i64 (b : Int), .bool d] := by rw [h, k]
theorem dec_nat {a b : Nat} : decide ((a : Int) = (b : Int)) = decide (a = b) := by
  by_cases h : a = b
  · rw [decide_eq_true h, decide_eq_true (by omega)]
  · rw [decide_eq_false h, decide_eq_false (by omega)]
theorem eU_t {f g : Nat} (h : (f : Int) = 0 ∨ (f : Int) = (g : Int)) : Value.tuple #[.int .i64 (g : Int), .bool true] = .tuple #[.int .i64 ((opU.ends f g).1 : Int), .bool (opU.ends f g).2] := by
  have e : opU.ends f g = (g, true) := if_pos (by omega)
  rw [e]
theorem eU_f {f g : Nat} (h : ¬ (f : Int) = 0) (h2 : ¬ (f : Int) = (g : Int)) : Value.tuple #[.int .i64 (f : Int), .bool (decide ((g : Int) = 0))] = .tuple #[.int .i64 ((opU.ends f g).1 : Int), .bool (opU.ends f g).2] := by
  have e : opU.ends f g = (f, decide (g = 0)) := if_neg (by omega)
  rw [e, show decide ((g : Int) = 0) = decide (g = 0) from dec_nat (b := 0)]
theorem eM_t {f g : Nat} (h : (f : Int) = 0 ∨ (g : Int) = 0) : Value.tuple #[.int .i64 0, .bool true] = .tuple #[.int .i64 ((opM.ends f g).1 : Int), .bool (opM.ends f g).2] := by
  have e : opM.ends f g = (0, true) := if_pos (by omega)
  rw [e]; rfl
theorem eM_f {f g : Nat} (h : ¬ (f : Int) = 0) (h2 : ¬ (g : Int) = 0) : Value.tuple #[.int .i64 (f : Int), .bool (decide ((f : Int) = (g : Int)))] = .tuple #[.int .i64 ((opM.ends f g).1 : Int), .bool (opM.ends f g).2] := by
  have e : opM.ends f g = (f, decide (f = g)) := if_neg (by omega)
  rw [e, dec_nat]
theorem eL_t {f g : Nat} (h : (f : Int) = 0 ∨ (f : Int) = (g : Int)) : Value.tuple #[.int .i64 0, .bool true] = .tuple #[.int .i64 ((opL.ends f g).1 : Int), .bool (opL.ends f g).2] := by
  have e : opL.ends f g = (0, true) := if_pos (by omega)
  rw [e]; rfl
theorem eL_f {f g : Nat} (h : ¬ (f : Int) = 0) (h2 : ¬ (f : Int) = (g : Int)) : Value.tuple #[.int .i64 (f : Int), .bool (decide ((g : Int) = 0))] = .tuple #[.int .i64 ((opL.ends f g).1 : Int), .bool (opL.ends f g).2] := by
  have e : opL.ends f g = (f, decide (g = 0)) := if_neg (by omega)
  rw [e, show decide ((g : Int) = 0) = decide (g = 0) from dec_nat (b := 0)]
theorem eJ_t {f g : Nat} (h : (f : Int) = 0 ∨ (g : Int) = 0) : Value.tuple #[.int .i64 0, .bool true] = .tuple #[.int .i64 ((opJ.ends f g).1 : Int), .bool (opJ.ends f g).2] := by
  have e : opJ.ends f g = (0, true) := if_pos (by omega)
  rw [e]; rfl
theorem eJ_1 {f g : Nat} (h : ¬ (f : Int) = 0) (h2 : ¬ (g : Int) = 0) (h3 : (f : Int) = 1) : Value.tuple #[.int .i64 (g : Int), .bool true] = .tuple #[.int .i64 ((opJ.ends f g).1 : Int), .bool (opJ.ends f g).2] := by
  have e : opJ.ends f g = (g, true) := (if_neg (by omega)).trans (if_pos (by omega))
  rw [e]
theorem eJ_f {f g : Nat} (h : ¬ (f : Int) = 0) (h2 : ¬ (g : Int) = 0) (h3 : ¬ (f : Int) = 1) : Value.tuple #[.int .i64 (f : Int), .bool (decide ((g : Int) = 1))] = .tuple #[.int .i64 ((opJ.ends f g).1 : Int), .bool (opJ.ends f g).2] := by
  have e : opJ.ends f g = (f, decide (g = 1)) := (if_neg (by omega)).trans (if_neg (by omega))
  rw [e, show decide ((g : Int) = 1) = decide (g = 1) from dec_nat (b := 1)]

theorem Got.low {ns ns' : List Nd} {R c l l2 : Nat} {S : Nat → Prop} {id : Nat} {er : Int} (g : Got ns ns' R c l S id er) (h : l2 ≤ l) : Got ns ns' R c l2 S id er :=
  ⟨g.pre, g.cost, g.res.imp (fun ⟨a, b, d, e⟩ => ⟨a, b, by omega, e⟩) _root_.id⟩
theorem Got.cheap {ns ns' : List Nd} {R c c2 l : Nat} {S : Nat → Prop} {id : Nat} {er : Int} (g : Got ns ns' R c l S id er) (h : c ≤ c2) : Got ns ns' R c2 l S id er := g.weak h (fun _ => Iff.rfl)
theorem done_met {res : (Nat → Prop) → (Nat → Prop) → Nat → Prop} {ns : List Nd} {dl : List ((Nat × Nat) × Int)} {f g : Nat} (h : Done res ns dl) (hs : (getL dl (f, g)).isSome = true) :
    ∃ id : Nat, (getL dl (f, g)).getD 0 = (id : Int) ∧ id < ns.length + 2 ∧ min (lvl ns f) (lvl ns g) ≤ lvl ns id ∧ ∀ x, x ∈ mems ns id ↔ res (M ns f) (M ns g) x := by
  cases k : getL dl (f, g) with
  | none => rw [k] at hs; cases hs
  | some v =>
    obtain ⟨id, h1, h2, h3, h4⟩ := (h _ (getL_mem k)).id
    exact ⟨id, h1, h2, h3, h4⟩
theorem done_put {res : (Nat → Prop) → (Nat → Prop) → Nat → Prop} {ns ns' : List Nd} {dl : List ((Nat × Nat) × Int)} {f g id l R c : Nat} {er : Int} (h : Done res ns' dl) (hf : f < ns.length + 2) (hg : g < ns.length + 2) (hl : min (lvl ns f) (lvl ns g) = l) (hgot : Got ns ns' R c l (res (M ns f) (M ns g)) id er) (he : er = 0) : Done res ns' (putL dl (f, g) (id : Int)) := fun p hp => by
  rcases mem_putL hp with hp | rfl
  · exact h p hp
  · obtain ⟨v1, v2, v3⟩ := hgot.ok he
    obtain ⟨a1, a2, a3⟩ := hgot.old hf
    obtain ⟨b1, b2, b3⟩ := hgot.old hg
    refine ⟨a1, b1, id, rfl, v1, by rw [a3, b3, hl]; exact v2, ?_⟩
    rw [M_pre hgot.pre hf, M_pre hgot.pre hg]
    exact v3
theorem Done.nil {res : (Nat → Prop) → (Nat → Prop) → Nat → Prop} {ns : List Nd} : Done res ns [] := fun p h => by cases h
theorem nodupN_le : ∀ {l1 l2 : List Nat}, l1.Nodup → (∀ x, x ∈ l1 → x ∈ l2) → l1.length ≤ l2.length
  | [], _, _, _ => Nat.zero_le _
  | x :: xs, l2, hn, hs => by
    obtain ⟨h1, h2⟩ := List.nodup_cons.1 hn
    have hx := hs x (List.mem_cons_self ..)
    have := nodupN_le (l2 := l2.erase x) h2 (fun y hy => (List.mem_erase_of_ne (fun (e : y = x) => h1 (e ▸ hy))).2 (hs y (List.mem_cons_of_mem _ hy)))
    rw [List.length_erase_of_mem hx] at this
    have hp := List.length_pos_of_mem hx
    rw [List.length_cons]; omega
theorem card_join {ns ns' : List Nd} (h : Wf ns') {id a b : Nat} (hid : id < ns'.length + 2) (hs : ∀ x, x ∈ mems ns' id → joinS (M ns a) (M ns b) x) : (mems ns' id).length ≤ (mems ns a).length * (mems ns b).length := by
  have h1 := nodupN_le (l2 := (mems ns a).flatMap fun x => (mems ns b).map fun y => x ||| y) (mems_nodup h id hid) (fun x hx => by
    obtain ⟨p, q, hp, hq, rfl⟩ := hs x hx
    exact List.mem_flatMap.2 ⟨p, hp, List.mem_map.2 ⟨q, hq, rfl⟩⟩)
  have h2 : ∀ (l : List Nat), (l.flatMap fun x => (mems ns b).map fun y => x ||| y).length = l.length * (mems ns b).length := fun l => by
    induction l with
    | nil => simp
    | cons x l ih => rw [List.flatMap_cons, List.length_append, List.length_map, ih, List.length_cons, Nat.add_mul]; omega
  rw [h2] at h1
  exact h1

/-! ### Three joins -/
def pxN (f0 f1 i : Nat) : Nat := [f1, f0, f1].getD i 0
def pyN (g0 g1 i : Nat) : Nat := [g0, g1, g1].getD i 0
def JU (A0 A1 B0 B1 : Nat → Prop) (i : Nat) (x : Nat) : Prop := (1 ≤ i ∧ joinS A1 B0 x) ∨ (2 ≤ i ∧ joinS A0 B1 x) ∨ (3 ≤ i ∧ joinS A1 B1 x)
def cJ (l a0 a1 b0 b1 : Nat) : Nat → Nat
  | 0 => 0
  | 1 => (tri (23 - l) + (23 - l)) * (a1 * b0)
  | 2 => (tri (23 - l) + (23 - l)) * (a1 * b0) + (tri (23 - l) + (23 - l)) * (a0 * b1)
  | _ => (tri (23 - l) + (23 - l)) * (a1 * b0) + (tri (23 - l) + (23 - l)) * (a0 * b1) + (tri (23 - l) + (23 - l)) * (a1 * b1)
theorem cJ_3 (l a0 a1 b0 b1 : Nat) (hl : l < 24) : cJ l a0 a1 b0 b1 3 = opJ.hcst (24 - l) a0 a1 b0 b1 := by
  show _ = (tri (24 - l - 1) + (24 - l - 1)) * (a1 * b0 + a0 * b1 + a1 * b1)
  rw [show 24 - l - 1 = 23 - l by omega, Nat.mul_add, Nat.mul_add]; rfl
theorem JU_0 (A0 A1 B0 B1 : Nat → Prop) (ns : List Nd) (x : Nat) : x ∈ mems ns 0 ↔ JU A0 A1 B0 B1 0 x := by
  rw [mems_0]
  unfold JU
  exact ⟨fun h => (by cases h), fun h => (by omega)⟩
theorem JU_3 (A0 A1 B0 B1 : Nat → Prop) (x : Nat) : JU A0 A1 B0 B1 3 x ↔ opJ.resH A0 A1 B0 B1 x := by
  unfold JU opJ
  simp
theorem JU_s {A0 A1 B0 B1 P Q : Nat → Prop} {i : Nat} (hi : i < 3) (hP : P = [A1, A0, A1].getD i A0) (hQ : Q = [B0, B1, B1].getD i B0) (x : Nat) : (JU A0 A1 B0 B1 i x ∨ joinS P Q x) ↔ JU A0 A1 B0 B1 (i + 1) x := by
  subst hP hQ
  have : i = 0 ∨ i = 1 ∨ i = 2 := by omega
  unfold JU
  rcases this with rfl | rfl | rfl
  · constructor
    · rintro (h | h)
      · omega
      · exact .inl ⟨by omega, h⟩
    · rintro (h | h | h)
      · exact .inr h.2
      · omega
      · omega
  · constructor
    · rintro ((h | h | h) | h)
      · exact .inl ⟨by omega, h.2⟩
      · omega
      · omega
      · exact .inr (.inl ⟨by omega, h⟩)
    · rintro (h | h | h)
      · exact .inl (.inl ⟨by omega, h.2⟩)
      · exact .inr h.2
      · omega
  · constructor
    · rintro ((h | h | h) | h)
      · exact .inl ⟨by omega, h.2⟩
      · exact .inr (.inl ⟨by omega, h.2⟩)
      · omega
      · exact .inr (.inr ⟨by omega, h⟩)
    · rintro (h | h | h)
      · exact .inl (.inl ⟨by omega, h.2⟩)
      · exact .inl (.inr (.inl ⟨by omega, h.2⟩))
      · exact .inr h.2
theorem cJ_s {l a0 a1 b0 b1 i : Nat} (hi : i < 3) : cJ l a0 a1 b0 b1 i + (tri (23 - l) + (23 - l)) * (pxN a0 a1 i * pyN b0 b1 i) = cJ l a0 a1 b0 b1 (i + 1) := by
  have : i = 0 ∨ i = 1 ∨ i = 2 := by omega
  rcases this with rfl | rfl | rfl
  · exact Nat.zero_add _
  · rfl
  · rfl
theorem cJ_le (l a0 a1 b0 b1 : Nat) {i : Nat} (h : i ≤ 3) : cJ l a0 a1 b0 b1 i ≤ cJ l a0 a1 b0 b1 3 := by
  have : i = 0 ∨ i = 1 ∨ i = 2 ∨ i = 3 := by omega
  rcases this with rfl | rfl | rfl | rfl
  · exact Nat.zero_le _
  · show _ ≤ _ + _ + _; rw [Nat.add_assoc]; exact Nat.le_add_right _ _
  · exact Nat.le_add_right _ _
  · exact Nat.le_refl _
theorem cJ_do {ns : List Nd} {l f0 f1 g0 g1 i : Nat} (hi : i < 3) (klx : l < lvl ns (pxN f0 f1 i)) (kly : l < lvl ns (pyN g0 g1 i)) :
    cJ l (mems ns f0).length (mems ns f1).length (mems ns g0).length (mems ns g1).length i + opJ.cst (24 - min (lvl ns (pxN f0 f1 i)) (lvl ns (pyN g0 g1 i))) (mems ns (pxN f0 f1 i)).length (mems ns (pyN g0 g1 i)).length ≤ cJ l (mems ns f0).length (mems ns f1).length (mems ns g0).length (mems ns g1).length 3 := by
  refine Nat.le_trans ?_ (cJ_le _ _ _ _ _ (show i + 1 ≤ 3 by omega))
  rw [← cJ_s hi]
  have hmx : (mems ns (pxN f0 f1 i)).length = pxN (mems ns f0).length (mems ns f1).length i := by
    have : i = 0 ∨ i = 1 ∨ i = 2 := by omega
    rcases this with rfl | rfl | rfl <;> rfl
  have hmy : (mems ns (pyN g0 g1 i)).length = pyN (mems ns g0).length (mems ns g1).length i := by
    have : i = 0 ∨ i = 1 ∨ i = 2 := by omega
    rcases this with rfl | rfl | rfl <;> rfl
  rw [hmx, hmy]
  refine Nat.add_le_add_left ?_ _
  exact Nat.mul_le_mul_right _ (by have := tri_mono (show 24 - min (lvl ns (pxN f0 f1 i)) (lvl ns (pyN g0 g1 i)) ≤ 23 - l by omega); omega)
theorem px_cases {i : Nat} (hi : i < 3) (f0 f1 : Nat) : pxN f0 f1 i = f0 ∨ pxN f0 f1 i = f1 := by
  have : i = 0 ∨ i = 1 ∨ i = 2 := by omega
  rcases this with rfl | rfl | rfl
  · exact .inr rfl
  · exact .inl rfl
  · exact .inr rfl
theorem py_cases {i : Nat} (hi : i < 3) (g0 g1 : Nat) : pyN g0 g1 i = g0 ∨ pyN g0 g1 i = g1 := by
  have : i = 0 ∨ i = 1 ∨ i = 2 := by omega
  rcases this with rfl | rfl | rfl
  · exact .inl rfl
  · exact .inr rfl
  · exact .inr rfl
/-- One of the three joins more. -/
theorem j2_got {ns nsc ns1 ns2 : List Nd} {R l i f0 f1 g0 g1 out id id2 : Nat} {er2 : Int} (h1w : Wf ns1) (hi : i < 3) (hl : l < 24)
    (v0 : f0 < ns.length + 2) (v1 : f1 < ns.length + 2) (v2 : g0 < ns.length + 2) (v3 : g1 < ns.length + 2) (k0 : l < lvl ns f0) (k1 : l < lvl ns f1) (k2 : l < lvl ns g0) (k3 : l < lvl ns g1)
    (g : Got ns nsc R (cJ l (mems ns f0).length (mems ns f1).length (mems ns g0).length (mems ns g1).length i) (l + 1) (JU (M ns f0) (M ns f1) (M ns g0) (M ns g1) i) out 0)
    (gd : Got nsc ns1 R (opJ.cst (24 - min (lvl nsc (pxN f0 f1 i)) (lvl nsc (pyN g0 g1 i))) (mems nsc (pxN f0 f1 i)).length (mems nsc (pyN g0 g1 i)).length) (min (lvl nsc (pxN f0 f1 i)) (lvl nsc (pyN g0 g1 i))) (opJ.res (M nsc (pxN f0 f1 i)) (M nsc (pyN g0 g1 i))) id 0)
    (gu : Got ns1 ns2 R (cstP (24 - min (lvl ns1 out) (lvl ns1 id)) (mems ns1 out).length (mems ns1 id).length) (min (lvl ns1 out) (lvl ns1 id)) (fun x => M ns1 out x ∨ M ns1 id x) id2 er2) :
    Got ns ns2 R (cJ l (mems ns f0).length (mems ns f1).length (mems ns g0).length (mems ns g1).length (i + 1)) (l + 1) (JU (M ns f0) (M ns f1) (M ns g0) (M ns g1) (i + 1)) id2 er2 := by
  obtain ⟨o1, o2, o3⟩ := g.ok rfl
  obtain ⟨d1, d2, d3⟩ := gd.ok rfl
  obtain ⟨q1, q2, q3⟩ := gd.old o1
  have hpx : pxN f0 f1 i < ns.length + 2 := by rcases px_cases hi f0 f1 with e | e <;> rw [e] <;> assumption
  have hpy : pyN g0 g1 i < ns.length + 2 := by rcases py_cases hi g0 g1 with e | e <;> rw [e] <;> assumption
  have hlx : l < lvl ns (pxN f0 f1 i) := by rcases px_cases hi f0 f1 with e | e <;> rw [e] <;> assumption
  have hly : l < lvl ns (pyN g0 g1 i) := by rcases py_cases hi g0 g1 with e | e <;> rw [e] <;> assumption
  obtain ⟨x1, x2, x3⟩ := g.old hpx
  obtain ⟨y1, y2, y3⟩ := g.old hpy
  have hc := card_join (ns := nsc) h1w d1 (fun x hx => (d3 x).1 hx)
  rw [x2, y2] at hc
  rw [x2, y2, x3, y3] at gd
  rw [q3] at gu
  have hmx : ∀ n : List Nd, (mems n (pxN f0 f1 i)).length = pxN (mems n f0).length (mems n f1).length i := fun n => by
    have : i = 0 ∨ i = 1 ∨ i = 2 := by omega
    rcases this with rfl | rfl | rfl <;> rfl
  have hmy : ∀ n : List Nd, (mems n (pyN g0 g1 i)).length = pyN (mems n g0).length (mems n g1).length i := fun n => by
    have : i = 0 ∨ i = 1 ∨ i = 2 := by omega
    rcases this with rfl | rfl | rfl <;> rfl
  rw [hmx, hmy] at hc gd
  refine (((g.then' gd (Nat.le_refl _)).then' gu (Nat.le_refl _)).weak (c := cJ l (mems ns f0).length (mems ns f1).length (mems ns g0).length (mems ns g1).length (i + 1)) ?_ fun x => ?_).low (by rw [x3, y3] at d2; omega)
  · rw [← cJ_s hi, Nat.add_mul]
    have e1 : opJ.cst (24 - min (lvl ns (pxN f0 f1 i)) (lvl ns (pyN g0 g1 i))) (pxN (mems ns f0).length (mems ns f1).length i) (pyN (mems ns g0).length (mems ns g1).length i) ≤ tri (23 - l) * (pxN (mems ns f0).length (mems ns f1).length i * pyN (mems ns g0).length (mems ns g1).length i) := Nat.mul_le_mul_right _ (tri_mono (by omega))
    have e2 : cstP (24 - min (lvl nsc out) (lvl ns1 id)) (mems ns1 out).length (mems ns1 id).length ≤ (23 - l) * (pxN (mems ns f0).length (mems ns f1).length i * pyN (mems ns g0).length (mems ns g1).length i) := by
      rw [x3, y3] at d2
      exact Nat.mul_le_mul (by omega) (Nat.le_trans (Nat.min_le_right _ _) hc)
    omega
  · have ePx : ([M ns f1, M ns f0, M ns f1].getD i (M ns f0)) = M ns (pxN f0 f1 i) := by
      have : i = 0 ∨ i = 1 ∨ i = 2 := by omega
      rcases this with rfl | rfl | rfl <;> rfl
    have ePy : ([M ns g0, M ns g1, M ns g1].getD i (M ns g0)) = M ns (pyN g0 g1 i) := by
      have : i = 0 ∨ i = 1 ∨ i = 2 := by omega
      rcases this with rfl | rfl | rfl <;> rfl
    rw [← JU_s hi rfl rfl, ePx, ePy]
    refine or_congr ?_ ?_
    · show x ∈ mems ns1 out ↔ _
      rw [q2]; exact o3 x
    · rw [← M_pre g.pre hpx, ← M_pre g.pre hpy]
      exact d3 x

end Go.Proofs.Ytpamgfbecgjjeaa
