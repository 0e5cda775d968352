/-
  Plain words for the document's cover: flags of sides, and of what is in both, in one, in one alone. Steps of the walks. No program in it.
-/
import Derived.Test.YtpamgfbecgjjeaaIsop
namespace Go.Proofs.Ytpamgfbecgjjeaa
set_option linter.unusedVariables false
set_option linter.unusedSimpArgs false
open Go Go.RowKit

/-- The flags of a test, the first k points done. -/
def setF (f : Nat → Bool) (k : Nat) : List Bool := (List.range 256).map fun p => decide (p < k) && f p
theorem setF_len (f : Nat → Bool) (k : Nat) : (setF f k).length = 256 := by simp [setF]
theorem setF_zero (f : Nat → Bool) : List.replicate 256 false = setF f 0 := by
  unfold setF
  rw [show (fun p : Nat => decide (p < 0) && f p) = fun _ => false from funext fun p => by simp]
  rw [List.map_const', List.length_range]
theorem setF_put {f : Nat → Bool} {k : Nat} {b : Bool} (hb : b = f k) : (setF f k).set (k : Int).toNat b = setF f (k + 1) := by
  rw [Int.toNat_natCast]
  refine range_map_set _ _ (fun q _ h => ?_) _ (by rw [hb]; simp)
  congr 1
  rw [Bool.eq_iff_iff]; simp; omega
theorem setF_all {f : Nat → Bool} {s : Nat} (h : ∀ p, p < 256 → f p = s.testBit p) : setF f 256 = flagsS s := by
  unfold setF flagsS flagsTo
  refine List.map_congr_left fun p hp => ?_
  have := List.mem_range.1 hp
  simp [this, h p this]
theorem flags_congr {s t : Nat} (h : ∀ p, p < 256 → s.testBit p = t.testBit p) : flagsS s = flagsS t := by
  unfold flagsS flagsTo
  refine List.map_congr_left fun p hp => h p (List.mem_range.1 hp)
theorem firstF_flags {n : Nat} : firstF (2 ^ n) = flagsS (allS n) := by
  unfold firstF flagsS flagsTo
  refine List.map_congr_left fun p _ => by rw [allS_testBit]
theorem flags_get {s k : Nat} (h : k < 256) : (flagsS s).getD (k : Int).toNat false = s.testBit k := by
  rw [Int.toNat_natCast]; exact flagsTo_get h
theorem flags_zero {l : List Cb} {n : Nat} : List.replicate 256 false = flagsS (ptsU l n 0) := by
  rw [ptsU]; decide +kernel
theorem less_f1 {s t k : Nat} (hk : k < 256) (h : (flagsS s).getD (k : Int).toNat false = true) : (!(flagsS t).getD (k : Int).toNat false) = (andNot s t).testBit k := by
  rw [flags_get hk] at h ⊢
  rw [andNot_testBit, h, Bool.true_and]
theorem less_f2 {s t k : Nat} (hk : k < 256) (h : (flagsS s).getD (k : Int).toNat false = false) : false = (andNot s t).testBit k := by
  rw [flags_get hk] at h
  rw [andNot_testBit, h, Bool.false_and]
theorem both_f1 {s t k : Nat} (hk : k < 256) (h : (flagsS s).getD (k : Int).toNat false = true) : (flagsS t).getD (k : Int).toNat false = (s &&& t).testBit k := by
  rw [flags_get hk] at h ⊢
  rw [Nat.testBit_and, h, Bool.true_and]
theorem both_f2 {s t k : Nat} (hk : k < 256) (h : (flagsS s).getD (k : Int).toNat false = false) : false = (s &&& t).testBit k := by
  rw [flags_get hk] at h
  rw [Nat.testBit_and, h, Bool.false_and]
theorem empty_step {s k : Nat} (hk : k < 256) (h : ∀ p, p < k → s.testBit p = false) (h2 : (flagsS s).getD (k : Int).toNat false = false) : ∀ p, p < k + 1 → s.testBit p = false := upTo_succ h (by rwa [flags_get hk] at h2)
theorem empty_t {s k : Nat} (hk : k = 256) (h : ∀ p, p < k → s.testBit p = false) : true = eqS s 0 := by
  subst hk
  exact (eqS_iff.2 fun p hp => by rw [h p hp, Nat.zero_testBit]).symm
theorem empty_f {s k : Nat} (hk : k < 256) (h2 : (flagsS s).getD (k : Int).toNat false = true) : false = eqS s 0 := by
  rw [flags_get hk] at h2
  refine (Bool.eq_false_iff.2 fun he => ?_).symm
  rw [eqS_iff.1 he k hk, Nat.zero_testBit] at h2
  cases h2
theorem either_flags {s t : Nat} : flagsS (andNot (allS 8) (andNot (allS 8) s &&& andNot (allS 8) t)) = flagsS (s ||| t) := flags_congr fun p hp => by
  have h : (allS 8).testBit p = true := by rw [allS_testBit]; simpa using hp
  simp only [andNot_testBit, Nat.testBit_and, Nat.testBit_or, h, Bool.true_and]
  cases s.testBit p <;> cases t.testBit p <;> rfl
theorem may_all {n may : Nat} (h : ∀ p, p < 256 → may.testBit p = true → p < 2 ^ n) : eqS (andNot (allS n) may) 0 = eqS may (allS n) := by
  rw [Bool.eq_iff_iff, eqS_iff, eqS_iff]
  constructor
  · intro k p hp
    have h1 := k p hp
    have h2 := h p hp
    rw [andNot_testBit, Nat.zero_testBit, allS_testBit] at h1
    rw [allS_testBit]
    cases hm : may.testBit p
    · rw [hm] at h1; simpa using h1
    · simp [h2 hm]
  · intro k p hp
    rw [andNot_testBit, Nat.zero_testBit, k p hp]
    cases (allS n).testBit p <;> rfl

/-! ### Sides -/
theorem bit_put {p i : Nat} {one : Bool} (h : ((p / 2 ^ i % 2 : Nat) : Int) = 1 → one = true) (h0 : ((p / 2 ^ i % 2 : Nat) : Int) = 0 → one = false) : p.testBit i = one := by
  have h2 : p / 2 ^ i % 2 < 2 := Nat.mod_lt _ (by decide)
  rw [bit_dec]
  by_cases e : p / 2 ^ i % 2 = 1
  · rw [h (by omega)]; simp [e]
  · rw [h0 (by omega)]; simp [e]
theorem side_b1 {p i : Nat} {one : Bool} (h : ((p / 2 ^ i % 2 : Nat) : Int) = 1) (k : (!one) = false) : p.testBit i = one := bit_put (fun _ => by simpa using k) (fun e => by omega)
theorem side_b0 {p i : Nat} {one : Bool} (h : ((p / 2 ^ i % 2 : Nat) : Int) = 0) (k : one = false) : p.testBit i = one := bit_put (fun e => by omega) (fun _ => k)
theorem xor_add8 : ∀ p, p < 256 → ∀ i, i < 8 → p.testBit i = false → p ^^^ 2 ^ i = p + 2 ^ i := by decide +kernel
theorem xor_sub8 : ∀ p, p < 256 → ∀ i, i < 8 → p.testBit i = true → (p ^^^ 2 ^ i) + 2 ^ i = p := by decide +kernel
theorem bit_one {p i : Nat} (h : ((p / 2 ^ i % 2 : Nat) : Int) = 1) : p.testBit i = true := by
  rw [bit_dec, decide_eq_true_eq]; omega
theorem bit_nil {p i : Nat} (h : ((p / 2 ^ i % 2 : Nat) : Int) = 0) : p.testBit i = false := by
  rw [bit_dec, decide_eq_false_iff_not]; omega
theorem side_q1 {p i : Nat} {one : Bool} (hp : p < 256) (hi : i < 8) (h : ((p / 2 ^ i % 2 : Nat) : Int) = 1) (ho : (!one) = true) : (p : Int) - ((2 ^ i : Nat) : Int) = ((putP p i one : Nat) : Int) := by
  have hb := bit_one h
  have h2 := xor_sub8 p hp i hi hb
  have e : putP p i one = p ^^^ 2 ^ i := if_neg (by rw [hb]; cases one <;> simp_all)
  rw [e]
  omega
theorem side_q2 {p i : Nat} {one : Bool} (hp : p < 256) (hi : i < 8) (h : ((p / 2 ^ i % 2 : Nat) : Int) = 0) (ho : one = true) : (p : Int) + ((2 ^ i : Nat) : Int) = ((putP p i one : Nat) : Int) := by
  have hb := bit_nil h
  have h2 := xor_add8 p hp i hi hb
  have e : putP p i one = p ^^^ 2 ^ i := if_neg (by rw [hb]; cases one <;> simp_all)
  rw [e, h2]
  omega
theorem side_q3 {p i : Nat} {one : Bool} (h : p.testBit i = one) : (p : Int) = ((putP p i one : Nat) : Int) := by rw [putP_eq h]
theorem putP_256 {p i : Nat} {one : Bool} (hp : p < 256) (hi : i < 8) : putP p i one < 256 := (putP_lt (n := 8) hi).2 hp
theorem side_f {s p i : Nat} {one : Bool} (hp : p < 256) (hi : i < 8) : (flagsS s).getD ((putP p i one : Nat) : Int).toNat false = (sideS s i one).testBit p := by
  rw [flags_get (putP_256 hp hi), sideS_bit hi hp]

/-! ### Cubes with a literal -/
theorem lits_put {c : Cb} {i q : Nat} (hi : i < 8) (hq : q ≤ 1) (hv : c.v &&& c.m = c.v) (hb : c.m.testBit i = false) :
    (litsS c.m c.v).set i ((q : Nat) : Int) = litsS (litC i q c).m (litC i q c).v := by
  have hvi : c.v.testBit i = false := by rw [bit_of_right hv, hb, Bool.and_false]
  have hq' : q = 0 ∨ q = 1 := by omega
  have tb : ∀ x y j : Nat, x.testBit j = y.testBit j → x / 2 ^ j % 2 = y / 2 ^ j % 2 := fun x y j h => by
    rw [bit_dec, bit_dec, Bool.eq_iff_iff, decide_eq_true_eq, decide_eq_true_eq] at h
    have h1 : x / 2 ^ j % 2 < 2 := Nat.mod_lt _ (by decide)
    have h2 : y / 2 ^ j % 2 < 2 := Nat.mod_lt _ (by decide)
    omega
  refine range_map_set _ _ (fun j hj hne => ?_) _ ?_
  · unfold lit
    have e1 : (litC i q c).m.testBit j = c.m.testBit j := by rw [litC_m]; simp [hne]
    have e2 : (litC i q c).v.testBit j = c.v.testBit j := by
      rcases hq' with rfl | rfl
      · exact litC_v0 c i j
      · rw [litC_v1]; simp [hne]
    rw [tb _ _ j e1, tb _ _ j e2]
  · unfold lit
    have e1 : (litC i q c).m.testBit i = true := by rw [litC_m]; simp
    rw [bit_dec, decide_eq_true_eq] at e1
    rw [if_neg (by omega)]
    rcases hq' with rfl | rfl
    · have e2 : (litC i 0 c).v.testBit i = false := by rw [litC_v0, hvi]
      rw [bit_dec, decide_eq_false_iff_not] at e2
      have h1 : (litC i 0 c).v / 2 ^ i % 2 < 2 := Nat.mod_lt _ (by decide)
      omega
    · have e2 : (litC i 1 c).v.testBit i = true := by rw [litC_v1]; simp
      rw [bit_dec, decide_eq_true_eq] at e2
      omega
theorem litC_right {c : Cb} {i q : Nat} (hi : i < 8) (hq : q ≤ 1) (hm : c.m < 256) (hv : c.v &&& c.m = c.v) : (litC i q c).m < 256 ∧ (litC i q c).v < 256 ∧ (litC i q c).v &&& (litC i q c).m = (litC i q c).v := by
  have hv2 : c.v < 256 := Nat.lt_of_le_of_lt (by rw [← hv]; exact Nat.and_le_right) hm
  have hq' : q = 0 ∨ q = 1 := by omega
  have hm' : (litC i q c).m < 2 ^ 8 := lt_two.2 fun j hj => by rw [litC_m, (lt_two (n := 8)).1 hm j hj, decide_eq_false (by omega)]; rfl
  have hv' : (litC i q c).v < 2 ^ 8 := lt_two.2 fun j hj => by
    rcases hq' with rfl | rfl
    · rw [litC_v0, (lt_two (n := 8)).1 hv2 j hj]
    · rw [litC_v1, (lt_two (n := 8)).1 hv2 j hj, decide_eq_false (by omega)]; rfl
  refine ⟨hm', hv', Nat.eq_of_testBit_eq fun j => ?_⟩
  rw [Nat.testBit_and, litC_m]
  have hvb := bit_of_right hv j
  rcases hq' with rfl | rfl
  · rw [litC_v0, hvb]; cases c.v.testBit j <;> cases c.m.testBit j <;> simp
  · rw [litC_v1, hvb]; cases c.v.testBit j <;> cases c.m.testBit j <;> simp
theorem with_cube {c : Cb} {i q : Nat} (hi : i < 8) (hq : q ≤ 1) (hm : c.m < 256) (hv : c.v &&& c.m = c.v) (hb : c.m.testBit i = false) :
    maskTo ((litsS c.m c.v).set ((i : Nat) : Int).toNat ((q : Nat) : Int)) ((litsS c.m c.v).set ((i : Nat) : Int).toNat ((q : Nat) : Int)).length = (litC i q c).m ∧
    valTo ((litsS c.m c.v).set ((i : Nat) : Int).toNat ((q : Nat) : Int)) ((litsS c.m c.v).set ((i : Nat) : Int).toNat ((q : Nat) : Int)).length = (litC i q c).v := by
  obtain ⟨h1, h2, h3⟩ := litC_right hi hq hm hv
  rw [Int.toNat_natCast, lits_put hi hq hv hb]
  obtain ⟨g1, g2⟩ := cube_lits h1 h2
  exact ⟨g1, by rw [g2, h3]⟩
theorem with_lits {c : Cb} {i q : Nat} (hi : i < 8) (hq : q ≤ 1) (hv : c.v &&& c.m = c.v) (hb : c.m.testBit i = false) : Lits ((litsS c.m c.v).set ((i : Nat) : Int).toNat ((q : Nat) : Int)) := by
  rw [Int.toNat_natCast, lits_put hi hq hv hb]
  exact lits_litsS _ _

/-! ### What is answered -/
/-- A slice, or an error. -/
theorem own_res {α : Type} {enc : α → List Value} {sz : Nat} {T : TypeId} {ok : Bool} {e1 : Int} {L : List α} {v : Value} {w' : World} {N : Nat} (h : if ok = true then ∃ x, v = .tuple #[x, .int .i64 0] ∧ OwT enc sz T w' N x L else v = .tuple #[.slice none 0 0, .int .i64 e1]) :
    ∃ (x : Value) (er : Int) (l : List α), v = .tuple #[x, .int .i64 er] ∧ OwT enc sz T w' N x l ∧ ((ok = true ∧ er = 0 ∧ l = L) ∨ (ok = false ∧ er = e1 ∧ l = [])) := by
  by_cases ho : ok = true
  · rw [if_pos ho] at h
    obtain ⟨x, h1, h2⟩ := h
    exact ⟨x, 0, _, h1, h2, .inl ⟨ho, rfl, rfl⟩⟩
  · rw [if_neg ho] at h
    exact ⟨_, e1, [], h, OwT.nil, .inr ⟨by simpa using ho, rfl, rfl⟩⟩
def okB (on may : Nat) (n : Int) : Bool := ofB may n && withinB on may
theorem okB_iff {on may : Nat} {n : Int} : okB on may n = true ↔ ofB may n = true ∧ withinB on may = true := by unfold okB; rw [Bool.and_eq_true]
theorem ok_not1 {on may sa : Nat} {n er : Int} (h : (0 ≤ n ∧ n ≤ 8 ∧ sa = allS n.toNat ∧ er = 0) ∨ (¬ (0 ≤ n ∧ n ≤ 8) ∧ er = 1)) (h0 : ¬ er = 0) : ¬ okB on may n = true := fun hk => of_not1 h h0 (okB_iff.1 hk).1
theorem ok_not2 {on may : Nat} {n : Int} (h : (!withinB on may) = true) : ¬ okB on may n = true := fun hk => by
  rw [(okB_iff.1 hk).2] at h; cases h
theorem ok_not3 {on may sa : Nat} {n er : Int} (h : (0 ≤ n ∧ n ≤ 8 ∧ sa = allS n.toNat ∧ er = 0) ∨ (¬ (0 ≤ n ∧ n ≤ 8) ∧ er = 1)) (h0 : ¬ ¬ er = 0) (hw : (!withinB may sa) = true) : ¬ okB on may n = true := fun hk => of_not2 h h0 hw (okB_iff.1 hk).1
theorem ok_yes {on may sa : Nat} {n er : Int} (h : (0 ≤ n ∧ n ≤ 8 ∧ sa = allS n.toNat ∧ er = 0) ∨ (¬ (0 ≤ n ∧ n ≤ 8) ∧ er = 1)) (h0 : ¬ ¬ er = 0) (h1 : (!withinB on may) = false) (hw : (!withinB may sa) = false) : okB on may n = true :=
  okB_iff.2 ⟨of_yes h h0 hw, by simpa using h1⟩
theorem ok_good {on may : Nat} {n : Nat} (h : okB on may (n : Int) = true) : n ≤ 8 ∧ Good n on may 0 := by
  obtain ⟨h1, h2⟩ := okB_iff.1 h
  obtain ⟨h0, h8⟩ := of_bounds h1
  have hw : withinB may (allS n) = true := by
    unfold ofB at h1
    rw [decide_eq_true h0, decide_eq_true h8] at h1
    simpa using h1
  refine ⟨by omega, good_zero (withinB_iff.1 h2) fun p hp hm => ?_⟩
  have := withinB_iff.1 hw p hp hm
  rw [allS_testBit] at this
  simpa using this
abbrev covL (on may : Nat) (n : Int) : List Cb := coverL n.toNat (n.toNat + 1) on may 0
theorem pow3_9 {n : Nat} (h : n ≤ 8) : 3 ^ (n + 1) ≤ 19683 := by
  have : 3 ^ (n + 1) ≤ 3 ^ 9 := Nat.pow_le_pow_right (by decide) (by omega)
  simpa using this
theorem covL_len {on may : Nat} {n : Int} (h : n ≤ 8) : (covL on may n).length ≤ 19683 := Nat.le_trans (coverL_len _ _ _ _) (pow3_9 (by omega))
theorem cov_imp {on may : Nat} {n : Int} (h : okB on may n = true) {c : Cb} (hc : c ∈ covL on may n) : wiB c.m c.v may n = true ∧ c.m < 256 ∧ c.v < 256 ∧ c.v &&& c.m = c.v := by
  obtain ⟨h0, h8⟩ := of_bounds (okB_iff.1 h).1
  obtain ⟨n, rfl⟩ := Int.eq_ofNat_of_zero_le h0
  obtain ⟨h8', hg⟩ := ok_good h
  obtain ⟨k1, k2, k3, k4⟩ := (cover_ok h8' (n + 1) on may 0 hg (by omega)).1 c hc
  have hp := pow_le256 h8'
  have hle : c.v ≤ c.m := by rw [← k2]; exact Nat.and_le_right
  refine ⟨imp_iff.2 ⟨rightB_iff.2 ⟨h0, h8, k1, k2⟩, fun p hp hh => k4 p hp hh⟩, by omega, by omega, k2⟩
theorem insK_old {α : Type} [DecidableEq α] {l : List α} {k : α} (h : k ∈ l) : insK l k = l := if_pos h
theorem insK_new {α : Type} [DecidableEq α] {l : List α} {k : α} (h : k ∉ l) : insK l k = l ++ [k] := if_neg h
theorem err_ne {ok : Bool} {er : Int} {l L : List Cb} (h : (ok = true ∧ er = 0 ∧ l = L) ∨ (ok = false ∧ er = 1 ∧ l = [])) (h0 : ¬ er = 0) : ¬ ok = true ∧ er = 1 := by
  rcases h with ⟨_, h2, _⟩ | ⟨h1, h2, _⟩
  · exact absurd h2 h0
  · exact ⟨by rw [h1]; decide, h2⟩
theorem err_eq {ok : Bool} {er : Int} {l L : List Cb} (h : (ok = true ∧ er = 0 ∧ l = L) ∨ (ok = false ∧ er = 1 ∧ l = [])) (h0 : ¬ ¬ er = 0) : ok = true ∧ l = L := by
  rcases h with ⟨h1, _, h2⟩ | ⟨_, h2, _⟩
  · exact ⟨h1, h2⟩
  · exact absurd (fun e => by rw [h2] at e; cases e) h0

end Go.Proofs.Ytpamgfbecgjjeaa
