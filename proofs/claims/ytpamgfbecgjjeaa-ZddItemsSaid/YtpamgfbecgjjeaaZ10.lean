/-
  Ids and the rows of their members: what each deed comes to when there is room. No program in it.
-/
import Derived.Test.YtpamgfbecgjjeaaZ9
import Derived.Test.YtpamgfbecgjjeaaFrame
namespace Go.Proofs.Ytpamgfbecgjjeaa
set_option linter.unusedVariables false
set_option linter.unusedSimpArgs false
open Go Go.RowKit

structure Is (ns : List Nd) (a : Nat) (F : List Int) : Prop where
  v : a < ns.length + 2
  s : srtM ns a = F
section
variable {ns ns' : List Nd} {a b id R c l : Nat} {A B f g : List Int} {er : Int}
theorem Is.pre (h : Is ns a A) (p : ns <+: ns') : Is ns' a A := by
  have e := h.s
  refine ⟨by have := pre_len p; have := h.v; omega, ?_⟩
  unfold srtM at e ⊢
  rw [mems_pre p h.v]
  exact e
theorem Is.len (h : Is ns a A) (hw : Wf ns) : (mems ns a).length = A.length := by rw [← h.s, srtM_len hw h.v]
theorem Is.cnt (h : Is ns a A) (hw : Wf ns) : cntI ns (a : Int) = (A.length : Int) := by
  rw [← h.len hw]
  exact cntI_nat h.v
theorem Is.inc (h : Is ns a A) : Inc A := by rw [← h.s]; exact inc_srtM _ _
theorem Is.same (h : Is ns a A) (k : Is ns b B) (hw : Wf ns) : decide ((a : Int) = (b : Int)) = decide (A = B) := by rw [same_ids hw h.v k.v, h.s, k.s]
theorem Is.eq (h : Is ns a A) (k : Is ns b B) (hw : Wf ns) (e : A = B) : (a : Int) = (b : Int) := of_decide_eq_true (by rw [h.same k hw]; exact decide_eq_true e)
theorem Is.ofS (hv : id < ns'.length + 2) (hA : Inc A) (h : ∀ x : Int, (∃ y : Nat, y ∈ mems ns' id ∧ x = (y : Int)) ↔ x ∈ A) : Is ns' id A := ⟨hv, inc_ext (inc_srtM _ _) hA fun x => by rw [mem_srtM]; exact h x⟩
theorem Is.item (h : Is ns a A) : ∀ x, x ∈ A → 0 ≤ x := fun x hx => by
  rw [← h.s] at hx
  obtain ⟨y, _, rfl⟩ := mem_srtM.1 hx
  omega
theorem nat_mem (h : Is ns a A) {y : Nat} : ((y : Nat) : Int) ∈ A ↔ M ns a y := by rw [← h.s]; exact nat_in
theorem Fine.of (q : Fine ns ns' c (bS f 0) id) (hf : ofZB f = true) : Is ns' id (ofI f) := ⟨q.v, srt_of hf q.mem⟩
theorem Fine.un (q : Fine ns ns' c (opU.res (M ns a) (M ns b)) id) (ha : Is ns a A) (hb : Is ns b B) : Is ns' id (ofI (A ++ B)) := Is.ofS q.v (inc_ofI _) fun x => by
  rw [mem_ofI, List.mem_append]
  constructor
  · rintro ⟨y, hy, rfl⟩
    rw [nat_mem ha, nat_mem hb]
    exact (q.mem y).1 hy
  · intro h
    obtain ⟨y, rfl⟩ := Int.eq_ofNat_of_zero_le (h.elim (ha.item x) (hb.item x))
    rw [nat_mem ha, nat_mem hb] at h
    exact ⟨y, (q.mem y).2 h, rfl⟩
theorem Fine.me (q : Fine ns ns' c (opM.res (M ns a) (M ns b)) id) (ha : Is ns a A) (hb : Is ns b B) : Is ns' id (pickI A B true) := ⟨q.v, srt_me ha.s hb.s q.mem⟩
theorem Fine.le (q : Fine ns ns' c (opL.res (M ns a) (M ns b)) id) (ha : Is ns a A) (hb : Is ns b B) : Is ns' id (pickI A B false) := ⟨q.v, srt_le ha.s hb.s q.mem⟩
theorem Fine.pa {wi : Bool} {j : Nat} (q : Fine ns ns' c (pS wi j (M ns a)) id) (ha : Is ns a A) : Is ns' id (partI A j wi) := ⟨q.v, srt_pa ha.s q.mem⟩
theorem Fine.ls (q : Fine ns ns' c (lsS (M ns a)) id) (ha : Is ns a A) : Is ns' id (leastTo A A.length) := ⟨q.v, srt_ls ha.s q.mem⟩
def joI (x y : Int) : Int := ((x.toNat ||| y.toNat : Nat) : Int)
def allJ (A B : List Int) : List Int := A.flatMap fun x => B.map (joI x)
def allJT (A B : List Int) (i k : Nat) : List Int := allJ (A.take i) B ++ (B.take k).map (joI (A.getD i 0))
theorem mem_allJ {x : Int} : x ∈ allJ A B ↔ ∃ p, p ∈ A ∧ ∃ q, q ∈ B ∧ x = joI p q := by
  unfold allJ
  rw [List.mem_flatMap]
  refine exists_congr fun p => and_congr_right fun _ => ?_
  rw [List.mem_map]
  exact ⟨fun ⟨q, h1, h2⟩ => ⟨q, h1, h2.symm⟩, fun ⟨q, h1, h2⟩ => ⟨q, h1, h2.symm⟩⟩
theorem Fine.jo (q : Fine ns ns' c (opJ.res (M ns a) (M ns b)) id) (ha : Is ns a A) (hb : Is ns b B) : Is ns' id (ofI (allJ A B)) := Is.ofS q.v (inc_ofI _) fun x => by
  rw [mem_ofI, mem_allJ]
  constructor
  · rintro ⟨y, hy, rfl⟩
    obtain ⟨s, t, hs, ht, rfl⟩ := (q.mem y).1 hy
    exact ⟨(s : Int), (nat_mem ha).2 hs, (t : Int), (nat_mem hb).2 ht, rfl⟩
  · rintro ⟨p, hp, r, hr, rfl⟩
    obtain ⟨s, rfl⟩ := Int.eq_ofNat_of_zero_le (ha.item p hp)
    obtain ⟨t, rfl⟩ := Int.eq_ofNat_of_zero_le (hb.item r hr)
    exact ⟨s ||| t, (q.mem _).2 ⟨s, t, (nat_mem ha).1 hp, (nat_mem hb).1 hr, rfl⟩, rfl⟩
theorem ofI_snoc (l : List Int) (x : Int) : withI (ofI l) x = ofI (l ++ [x]) := ofI_eq (inc_withI (inc_ofI l)) fun y => by rw [mem_withI, mem_ofI, List.mem_append, List.mem_singleton]
theorem allJT_s {i k : Nat} (hk : k < B.length) : withI (ofI (allJT A B i k)) (joI (A.getD i 0) (B.getD k 0)) = ofI (allJT A B i (k + 1)) := by
  rw [ofI_snoc]
  unfold allJT
  rw [take_s hk, List.map_append, List.append_assoc]
  rfl
theorem allJT_r {i : Nat} (hi : i < A.length) : allJT A B i B.length = allJT A B (i + 1) 0 := by
  unfold allJT allJ
  rw [List.take_length, take_s hi, List.flatMap_append, List.take_zero]
  simp
theorem allJT_e : allJT A B A.length 0 = allJ A B := by
  unfold allJT
  rw [List.take_length, List.take_zero]
  simp
theorem allJT_len (i k : Nat) (hi : i ≤ 6) (hk : k ≤ 6) (hA : A.length ≤ 6) (hB : B.length ≤ 6) : (ofI (allJT A B i k)).length ≤ 1000 := by
  have h1 := ofI_len (allJT A B i k)
  have h2 : ∀ n, ∀ L : List Int, L.length ≤ n → (allJ L B).length ≤ 6 * n := by
    intro n
    induction n with
    | zero => intro L hL; rw [List.eq_nil_of_length_eq_zero (Nat.le_zero.1 hL)]; simp [allJ]
    | succ n ih =>
      intro L hL
      cases L with
      | nil => simp [allJ]
      | cons x L =>
        have := ih L (by simpa using hL)
        have e : (allJ (x :: L) B).length = B.length + (allJ L B).length := by simp [allJ]
        rw [e]; omega
  have h3 := h2 6 (A.take i) (by rw [List.length_take]; omega)
  unfold allJT at h1 ⊢
  rw [List.length_append, List.length_map, List.length_take] at h1
  omega
theorem allJ_of (f g : List Int) : ofI (allJ (ofI f) (ofI g)) = ofI (allJ f g) := ofI_eq (inc_ofI _) fun x => by
  rw [mem_ofI, mem_allJ, mem_allJ]
  simp only [mem_ofI]
theorem ofI_app2 (f g : List Int) : ofI (ofI f ++ ofI g) = ofI (f ++ g) := ofI_eq (inc_ofI _) fun x => by
  rw [mem_ofI, List.mem_append, List.mem_append, mem_ofI, mem_ofI]
theorem ofI_inc (h : Inc A) : ofI A = A := (ofI_eq h fun _ => Iff.rfl).symm
theorem app_comm (A B : List Int) : ofI (A ++ B) = ofI (B ++ A) := ofI_eq (inc_ofI _) fun x => by
  rw [mem_ofI, List.mem_append, List.mem_append]
  exact Or.comm
theorem mem_pickI {x : Int} {t : Bool} : x ∈ pickI A B t ↔ x ∈ A ∧ (decide (x ∈ B) = t) := by
  unfold pickI
  rw [List.mem_filter, beq_iff_eq]
theorem pick_both (h : Inc A) : ofI (pickI A B false ++ pickI A B true) = A := (ofI_eq h fun x => by
  rw [List.mem_append, mem_pickI, mem_pickI]
  cases decide (x ∈ B) <;> simp).symm
theorem pick_un : ofI (A ++ pickI B A false) = ofI (A ++ B) := ofI_eq (inc_ofI _) fun x => by
  rw [mem_ofI, List.mem_append, List.mem_append, mem_pickI]
  by_cases h : x ∈ A <;> simp [h]
theorem pickI_len (A B : List Int) (t : Bool) : (pickI A B t).length ≤ A.length := List.length_filter_le _ _
theorem partI_len (A : List Int) (j : Nat) (t : Bool) : (partI A j t).length ≤ A.length := List.length_filterMap_le _ _
theorem leastTo_le (A : List Int) : (leastTo A A.length).length ≤ A.length := leastTo_len _ _
theorem sub_bit {n j i : Nat} (h : n.testBit j = true) (hi : ¬ i = j) : (n - 2 ^ j).testBit i = n.testBit i := by
  have h1 : n / 2 ^ j % 2 = 1 := by simpa [Nat.testBit_eq_decide_div_mod_eq] using h
  have hy := Nat.mod_lt n (Nat.two_pow_pos j)
  obtain ⟨x, hx⟩ : ∃ x, n / 2 ^ j = 2 * x + 1 := ⟨n / 2 ^ j / 2, by omega⟩
  have e1 : n = 2 ^ j * (2 * x + 1) + n % 2 ^ j := by rw [← hx]; exact (Nat.div_add_mod n (2 ^ j)).symm
  have e2 : n - 2 ^ j = 2 ^ j * (2 * x) + n % 2 ^ j := by
    have : 2 ^ j * (2 * x + 1) = 2 ^ j * (2 * x) + 2 ^ j := Nat.mul_succ _ _
    omega
  rw [e2]
  conv => rhs; rw [e1]
  rw [Nat.testBit_two_pow_mul_add _ hy, Nat.testBit_two_pow_mul_add _ hy]
  split
  · rfl
  · obtain ⟨k, hk⟩ : ∃ k, i - j = k + 1 := ⟨i - j - 1, by omega⟩
    rw [hk, Nat.testBit_succ, Nat.testBit_succ]
    congr 1; omega
theorem or_back {n j : Nat} (h : n.testBit j = true) : (n - 2 ^ j) ||| 2 ^ j = n := by
  have hle := bit_sub h
  refine Nat.eq_of_testBit_eq fun i => ?_
  rw [Nat.testBit_or, Nat.testBit_two_pow]
  by_cases e : i = j
  · subst e; simp [h]
  · have h1 : (n - 2 ^ j).testBit i = n.testBit i := sub_bit h e
    rw [h1, decide_eq_false (fun k => e k.symm), Bool.or_false]
theorem part_back {j : Nat} (h : Inc A) (h0 : ∀ x, x ∈ A → 0 ≤ x) : ofI (partI A j false ++ ofI (allJ (partI A j true) (ofI [((2 ^ j : Nat) : Int)]))) = A := (ofI_eq h fun x => by
  rw [List.mem_append, mem_ofI, mem_allJ, mem_partI]
  constructor
  · intro hx
    have hx0 := h0 x hx
    cases hb : x.toNat.testBit j with
    | false => exact .inl ⟨x, hx, .inr ⟨rfl, hb, rfl⟩⟩
    | true =>
      refine .inr ⟨x - ((2 ^ j : Nat) : Int), mem_partI.2 ⟨x, hx, .inl ⟨rfl, hb, rfl⟩⟩, ((2 ^ j : Nat) : Int), mem_ofI.2 (List.mem_singleton.2 rfl), ?_⟩
      have hle := bit_sub hb
      unfold joI
      have e1 : (x - ((2 ^ j : Nat) : Int)).toNat = x.toNat - 2 ^ j := by omega
      rw [e1, Int.toNat_natCast, or_back hb]
      omega
  · rintro (⟨m, hm, h1 | h1⟩ | ⟨p, hp, q, hq, rfl⟩)
    · exact absurd h1.1 (by decide)
    · obtain ⟨_, _, rfl⟩ := h1
      exact hm
    · obtain ⟨m, hm, h1 | h1⟩ := mem_partI.1 hp
      · obtain ⟨_, hb, rfl⟩ := h1
        rw [List.mem_singleton.1 (mem_ofI.1 hq)]
        have hle := bit_sub hb
        have hm0 := h0 m hm
        unfold joI
        have e1 : (m - ((2 ^ j : Nat) : Int)).toNat = m.toNat - 2 ^ j := by omega
        rw [e1, Int.toNat_natCast, or_back hb, Int.toNat_of_nonneg hm0]
        exact hm
      · exact absurd h1.1 (by decide)).symm
theorem room_U (q : Got ns ns' R (opU.cst (24 - min (lvl ns a) (lvl ns b)) (mems ns a).length (mems ns b).length) l (opU.res (M ns a) (M ns b)) id er) (hw : Wf ns) (ha : Is ns a A) (hb : Is ns b B) (n : Nat) (hn : A.length ≤ n ∨ B.length ≤ n) (hR : ns.length + 24 * n < R) : er = 0 ∧ Is ns' id (ofI (A ++ B)) ∧ ns <+: ns' ∧ ns'.length ≤ ns.length + 24 * n := by
  have h := cst_le (24 - min (lvl ns a) (lvl ns b)) (mems ns a).length (mems ns b).length (by omega)
  rw [ha.len hw, hb.len hw] at h q
  have hc : opU.cst (24 - min (lvl ns a) (lvl ns b)) A.length B.length ≤ 24 * n := by
    show cstP _ _ _ ≤ _
    omega
  obtain ⟨h1, h2⟩ := q.fine (by omega)
  exact ⟨h1, h2.un ha hb, h2.pre, by have := h2.cost; omega⟩
theorem room_M (q : Got ns ns' R (opM.cst (24 - min (lvl ns a) (lvl ns b)) (mems ns a).length (mems ns b).length) l (opM.res (M ns a) (M ns b)) id er) (hw : Wf ns) (ha : Is ns a A) (hb : Is ns b B) (n : Nat) (hn : A.length ≤ n ∨ B.length ≤ n) (hR : ns.length + 24 * n < R) : er = 0 ∧ Is ns' id (pickI A B true) ∧ ns <+: ns' ∧ ns'.length ≤ ns.length + 24 * n := by
  have h := cst_le (24 - min (lvl ns a) (lvl ns b)) (mems ns a).length (mems ns b).length (by omega)
  rw [ha.len hw, hb.len hw] at h q
  have hc : opM.cst (24 - min (lvl ns a) (lvl ns b)) A.length B.length ≤ 24 * n := by
    show cstP _ _ _ ≤ _
    omega
  obtain ⟨h1, h2⟩ := q.fine (by omega)
  exact ⟨h1, h2.me ha hb, h2.pre, by have := h2.cost; omega⟩
theorem room_L (q : Got ns ns' R (opL.cst (24 - min (lvl ns a) (lvl ns b)) (mems ns a).length (mems ns b).length) l (opL.res (M ns a) (M ns b)) id er) (hw : Wf ns) (ha : Is ns a A) (hb : Is ns b B) (n : Nat) (hn : A.length ≤ n ∨ B.length ≤ n) (hR : ns.length + 24 * n < R) : er = 0 ∧ Is ns' id (pickI A B false) ∧ ns <+: ns' ∧ ns'.length ≤ ns.length + 24 * n := by
  have h := cst_le (24 - min (lvl ns a) (lvl ns b)) (mems ns a).length (mems ns b).length (by omega)
  rw [ha.len hw, hb.len hw] at h q
  have hc : opL.cst (24 - min (lvl ns a) (lvl ns b)) A.length B.length ≤ 24 * n := by
    show cstP _ _ _ ≤ _
    omega
  obtain ⟨h1, h2⟩ := q.fine (by omega)
  exact ⟨h1, h2.le ha hb, h2.pre, by have := h2.cost; omega⟩
theorem room_J (q : Got ns ns' R (opJ.cst (24 - min (lvl ns a) (lvl ns b)) (mems ns a).length (mems ns b).length) l (opJ.res (M ns a) (M ns b)) id er) (hw : Wf ns) (ha : Is ns a A) (hb : Is ns b B) (m n : Nat) (hA : A.length ≤ m) (hB : B.length ≤ n) (hR : ns.length + 300 * (m * n) < R) : er = 0 ∧ Is ns' id (ofI (allJ A B)) ∧ ns <+: ns' ∧ ns'.length ≤ ns.length + 300 * (m * n) := by
  have hc := cstJ_le (24 - min (lvl ns a) (lvl ns b)) A.length B.length m n (by omega) hA hB
  rw [ha.len hw, hb.len hw] at q
  obtain ⟨h1, h2⟩ := q.fine (by omega)
  exact ⟨h1, h2.jo ha hb, h2.pre, by have := h2.cost; omega⟩
theorem room_P {wi : Bool} {j : Nat} (q : Got ns ns' R ((24 - lvl ns a) * (mems ns a).length) l (pS wi j (M ns a)) id er) (hw : Wf ns) (ha : Is ns a A) (n : Nat) (hn : A.length ≤ n) (hR : ns.length + 24 * n < R) : er = 0 ∧ Is ns' id (partI A j wi) ∧ ns <+: ns' ∧ ns'.length ≤ ns.length + 24 * n := by
  rw [ha.len hw] at q
  have hc : (24 - lvl ns a) * A.length ≤ 24 * n := Nat.mul_le_mul (by omega) hn
  obtain ⟨h1, h2⟩ := q.fine (by omega)
  exact ⟨h1, h2.pa ha, h2.pre, by have := h2.cost; omega⟩
theorem room_S (q : Got ns ns' R (lc (24 - lvl ns a) (mems ns a).length) l (lsS (M ns a)) id er) (hw : Wf ns) (ha : Is ns a A) (n : Nat) (hn : A.length ≤ n) (hR : ns.length + (24 * n + 24 * (n * n)) < R) : er = 0 ∧ Is ns' id (leastTo A A.length) ∧ ns <+: ns' ∧ ns'.length ≤ ns.length + (24 * n + 24 * (n * n)) := by
  rw [ha.len hw] at q
  have hc := lc_le (24 - lvl ns a) A.length n (by omega) hn
  obtain ⟨h1, h2⟩ := q.fine (by omega)
  exact ⟨h1, h2.ls ha, h2.pre, by have := h2.cost; omega⟩
theorem room_O (q : Got ns ns' R (24 * f.length) l (bS f 0) id er) (hf : ofZB f = true) (n : Nat) (hn : f.length ≤ n) (hR : ns.length + 24 * n < R) : er = 0 ∧ Is ns' id (ofI f) ∧ ns <+: ns' ∧ ns'.length ≤ ns.length + 24 * n := by
  obtain ⟨h1, h2⟩ := q.fine (by omega)
  exact ⟨h1, h2.of hf, h2.pre, by have := h2.cost; omega⟩
theorem bnd_is (h : Is ns a A) (hw : Wf ns) : bnd ns (a : Int) ≤ 24 * A.length := by
  unfold bnd
  split
  · rw [Int.toNat_natCast, h.len hw]
    exact Nat.mul_le_mul_right _ (by omega)
  · omega
theorem ofB_mem (h : ofZB f = true) : ∀ m, m ∈ ofI f → 0 ≤ m ∧ m < 16777216 := fun m hm => ofB_iff.1 h m (mem_ofI.1 hm)
end

theorem list_is {T : TypeId} {ns : List Nd} {w' : World} {v : Value} {id : Nat} {F : List Int} (hI : Is ns id F) (hw : Wf ns) (hF : F.length ≤ 100000)
    (h : if (thereZ ns (id : Int) && decide (cntI ns (id : Int) ≤ 100000)) = true then ∃ x, v = .tuple #[x, .int .i64 0] ∧ SlT encI 1 w' x (srtM ns (id : Int).toNat) ∧ TyS T w' x (srtM ns (id : Int).toNat) else ∃ er, v = .tuple #[.slice none 0 0, .int .i64 er] ∧ er ≠ 0 ∧ (thereZ ns (id : Int) = false → er = 1)) :
    ∃ x, v = .tuple #[x, .int .i64 0] ∧ SlT encI 1 w' x F ∧ TyS T w' x F := by
  have hc : (thereZ ns (id : Int) && decide (cntI ns (id : Int) ≤ 100000)) = true := by
    rw [tz_iff.2 (show 0 ≤ (id : Int) ∧ (id : Int) < (ns.length : Int) + 2 by have := hI.v; omega), hI.cnt hw, decide_eq_true (show (F.length : Int) ≤ 100000 by omega)]
    rfl
  rw [if_pos hc, Int.toNat_natCast, hI.s] at h
  exact h
theorem list_any {T : TypeId} {ns : List Nd} {w' : World} {v : Value} {id : Int}
    (h : if (thereZ ns id && decide (cntI ns id ≤ 100000)) = true then ∃ x, v = .tuple #[x, .int .i64 0] ∧ SlT encI 1 w' x (srtM ns id.toNat) ∧ TyS T w' x (srtM ns id.toNat) else ∃ er, v = .tuple #[.slice none 0 0, .int .i64 er] ∧ er ≠ 0 ∧ (thereZ ns id = false → er = 1)) :
    ∃ x er L, v = .tuple #[x, .int .i64 er] ∧ SlT encI 1 w' x L ∧ (thereZ ns id = false → L = [] ∧ er = 1) := by
  split at h
  · rename_i hc
    obtain ⟨x, h1, h2, _⟩ := h
    refine ⟨x, 0, _, h1, h2, fun k => ?_⟩
    rw [k] at hc; cases hc
  · obtain ⟨er, h1, _, h3⟩ := h
    exact ⟨_, er, [], h1, SlT.nil, fun k => ⟨rfl, h3 k⟩⟩
theorem size_0 {ns : List Nd} {id : Int} {k : Nat} (h : thereB ns id = true → 1 ≤ k) (hk : (k : Int) = 0) (h0 : ¬ id = 0) (h1 : ¬ id = 1) : thereZ ns id = false := by
  refine Bool.eq_false_iff.2 fun ht => ?_
  have h2 := tz_iff.1 ht
  have := h (there_iff.2 ⟨by omega, h2.2⟩)
  omega
theorem cnt_0 {ns : List Nd} {id : Int} (h : thereZ ns id = false) : cntI ns id = 0 := by
  have := cnt_none h
  injection this with _ h2
  exact h2.symm

section
variable {ns ns' : List Nd} {a b id R c l n : Nat} {A B f g : List Int} {er : Int}
theorem pe_ok {ok : Bool} {S : Nat → Prop} (q : (ok = true ∧ Got ns ns' R c l S id er) ∨ (ok = false ∧ ns' = ns ∧ id = 0 ∧ er = 1)) (h : ok = true) : Got ns ns' R c l S id er := by
  rcases q with q | q
  · exact q.2
  · rw [h] at q; exact absurd q.1 (by decide)
theorem pe_O (q : (ofZB f = true ∧ Got ns ns' R (24 * f.length) 0 (bS f 0) id er) ∨ (ofZB f = false ∧ ns' = ns ∧ id = 0 ∧ er = 1)) (hR : ns.length + 24 * f.length < R) :
    (ofZB f = true → er = 0 ∧ Is ns' id (ofI f)) ∧ (ofZB f = false → id = 0 ∧ er = 1) ∧ ns <+: ns' ∧ ns'.length ≤ ns.length + 24 * f.length := by
  rcases q with ⟨h, q⟩ | ⟨h, rfl, h2, h3⟩
  · obtain ⟨h1, h2, h3, h4⟩ := room_O q h f.length (Nat.le_refl _) hR
    exact ⟨fun _ => ⟨h1, h2⟩, fun k => by rw [h] at k; (cases k), h3, h4⟩
  · exact ⟨fun k => by rw [h] at k; (cases k), fun _ => ⟨h2, h3⟩, List.prefix_refl _, by omega⟩
theorem pe_P {j : Int} {wi : Bool} (q : (decide (0 ≤ j ∧ j < 24) = true ∧ Got ns ns' R ((24 - lvl ns a) * (mems ns a).length) l (pS wi j.toNat (M ns a)) id er) ∨ (decide (0 ≤ j ∧ j < 24) = false ∧ ns' = ns ∧ id = 0 ∧ er = 1)) (hw : Wf ns) (ha : Is ns a A) (n : Nat) (hn : A.length ≤ n) (hR : ns.length + 24 * n < R) :
    (decide (0 ≤ j ∧ j < 24) = true → er = 0 ∧ Is ns' id (partI A j.toNat wi)) ∧ (decide (0 ≤ j ∧ j < 24) = false → id = 0 ∧ er = 1) ∧ ns <+: ns' ∧ ns'.length ≤ ns.length + 24 * n := by
  rcases q with ⟨h, q⟩ | ⟨h, rfl, h2, h3⟩
  · obtain ⟨h1, h2, h3, h4⟩ := room_P q hw ha n hn hR
    exact ⟨fun _ => ⟨h1, h2⟩, fun k => by rw [h] at k; (cases k), h3, h4⟩
  · exact ⟨fun k => by rw [h] at k; (cases k), fun _ => ⟨h2, h3⟩, List.prefix_refl _, by omega⟩
theorem got_err {S : Nat → Prop} (q : Got ns ns' R c l S id er) (h : ¬ er = 0) : er = 5 ∧ id = 0 := by
  rcases q.res with k | k
  · exact absurd k.1 h
  · exact ⟨k.1, k.2.1⟩
theorem got_ers {S : Nat → Prop} (q : Got ns ns' R c l S id er) : er = 0 ∨ er = 5 := q.res.imp (·.1) (·.1)
theorem got_of (q : Got ns ns' R c l (bS f 0) id er) (hf : ofZB f = true) (h : er = 0) : Is ns' id (ofI f) := ⟨(q.ok h).1, srt_of hf (q.ok h).2.2⟩
theorem got_un (q : Got ns ns' R c l (opU.res (M ns a) (M ns b)) id er) (ha : Is ns a A) (hb : Is ns b B) (h : er = 0) : Is ns' id (ofI (A ++ B)) := Fine.un (c := c) ⟨(q.ok h).1, (q.ok h).2.2, q.pre, q.cost⟩ ha hb
theorem may2_t {k : Nat} {c : Bool} (h : k < g.length) (hm : (c && mayTo g k) = true) : decide (0 ≤ g.getD k 0 ∧ g.getD k 0 < 16777216) = (c && mayTo g (k + 1)) := by
  rw [Bool.and_eq_true_iff] at hm
  rw [mayTo_s h, hm.1, hm.2, Bool.true_and, Bool.true_and]
theorem may2_f {k : Nat} {c : Bool} (h : k < g.length) (hm : (c && mayTo g k) = false) : false = (c && mayTo g (k + 1)) := by
  rw [mayTo_s h, ← Bool.and_assoc, hm, Bool.false_and]
theorem least_sub {X : List Int} {y : Int} (h : y ∈ leastTo X X.length) : y ∈ X := by
  unfold leastTo at h
  obtain ⟨i, hi, rfl⟩ := List.mem_map.1 h
  exact getD_mem (List.mem_range.1 (List.mem_filter.1 hi).1)
def great8 (f g : List Int) : Bool := decide (40 < f.length) || decide (40 < g.length)
theorem g8_1 (h : (f.length : Int) > 40) : Value.bool true = .bool (great8 f g) := by
  unfold great8
  rw [decide_eq_true (show 40 < f.length by omega), Bool.true_or]
theorem g8_2 (h : ¬ (f.length : Int) > 40) : Value.bool (decide ((g.length : Int) > 40)) = .bool (great8 f g) := by
  unfold great8
  rw [decide_eq_false (show ¬ 40 < f.length by omega), Bool.false_or]
  exact congrArg Value.bool (decide_eq_decide.2 (by omega))
theorem g8_no (h : great8 f g = false) : f.length ≤ 40 ∧ g.length ≤ 40 := by
  unfold great8 at h
  rw [Bool.or_eq_false_iff] at h
  have h1 := of_decide_eq_false h.1
  have h2 := of_decide_eq_false h.2
  omega
theorem one_ok {j : Nat} (hj : j < 24) : ofZB [((2 ^ j : Nat) : Int)] = true := ofB_iff.2 fun m hm => by
  rw [List.mem_singleton.1 hm]
  have h1 : 2 ^ j ≤ 8388608 := by have := Nat.pow_le_pow_right (show 0 < 2 by decide) (show j ≤ 23 by omega); simpa using this
  have h2 := Nat.two_pow_pos j
  omega
theorem allJ_le (hA : A.length ≤ 6) (hB : B.length ≤ 6) : (ofI (allJ A B)).length ≤ 1000 := by
  rw [← allJT_e]
  exact allJT_len _ _ hA (by omega) hA hB
def hoB (X m : List Int) (i k : Nat) : Bool := (List.range k).any fun q => decide (joI (X.getD i 0) (m.getD q 0) = X.getD i 0)
theorem hoB_s (X m : List Int) (i k : Nat) : hoB X m i (k + 1) = (hoB X m i k || decide (joI (X.getD i 0) (m.getD k 0) = X.getD i 0)) := by
  unfold hoB
  rw [List.range_succ, List.any_append]
  simp
theorem hoB_t {X m : List Int} {i k : Nat} (h : hoB X m i k = true) : Value.bool true = .bool (hoB X m i (k + 1)) := by rw [hoB_s, h, Bool.true_or]
theorem hoB_f {X m : List Int} {i k : Nat} (h : hoB X m i k = false) : Value.bool (decide (joI (X.getD i 0) (m.getD k 0) = X.getD i 0)) = .bool (hoB X m i (k + 1)) := by rw [hoB_s, h, Bool.false_or]
theorem or_le {x y : Nat} (h : x ||| y = x) : y ≤ x := by
  have : y ≤ x ||| y := Nat.right_le_or
  omega
theorem hoB_all {X : List Int} (hX : Inc X) (h0 : ∀ x, x ∈ X → 0 ≤ x) : ∀ (n i : Nat), i < X.length → (X.getD i 0).toNat ≤ n → hoB X (leastTo X X.length) i (leastTo X X.length).length = true := by
  have key : ∀ (n i : Nat), i < X.length → (X.getD i 0).toNat ≤ n → ∃ z, z ∈ leastTo X X.length ∧ joI (X.getD i 0) z = X.getD i 0 := by
    intro n
    induction n with
    | zero | succ n ih =>
      intro i hi hn
      have hx := h0 _ (getD_mem (l := X) (i := i) (d := 0) hi)
      cases hl : leB X i X.length with
      | true =>
        refine ⟨X.getD i 0, ?_, ?_⟩
        · unfold leastTo
          exact List.mem_map.2 ⟨i, List.mem_filter.2 ⟨List.mem_range.2 hi, hl⟩, rfl⟩
        · unfold joI; rw [Nat.or_self]; exact Int.toNat_of_nonneg hx
      | false =>
        unfold leB at hl
        rw [List.all_eq_false] at hl
        obtain ⟨q, hq, hq2⟩ := hl
        have hq := List.mem_range.1 hq
        rw [Bool.or_eq_true, not_or] at hq2
        have hne : ¬ q = i := fun e => hq2.1 (decide_eq_true e)
        have hor : ((X.getD i 0).toNat ||| (X.getD q 0).toNat : Nat) = (X.getD i 0).toNat := by simpa using hq2.2
        have hle := or_le hor
        have hy := h0 _ (getD_mem (l := X) (i := q) (d := 0) hq)
        have hlt : (X.getD q 0).toNat < (X.getD i 0).toNat := by
          rcases Nat.lt_or_eq_of_le hle with h | h
          · exact h
          · have e : X.getD q 0 = X.getD i 0 := by omega
            rw [List.getD_eq_getElem?_getD, List.getD_eq_getElem?_getD, List.getElem?_eq_getElem hq, List.getElem?_eq_getElem hi] at e
            exact absurd ((List.getElem_inj hX.nodup).1 e) hne
        first
          | omega
          | obtain ⟨z, hz, hz2⟩ := ih q hq (by omega)
            refine ⟨z, hz, ?_⟩
            unfold joI at hz2 ⊢
            have e2 : ((X.getD q 0).toNat ||| z.toNat : Nat) = (X.getD q 0).toNat := by omega
            rw [← hor, Nat.or_assoc, e2, hor]
            omega
  intro n i hi hn
  obtain ⟨z, hz, hz2⟩ := key n i hi hn
  obtain ⟨q, hq, e⟩ := List.getElem_of_mem hz
  unfold hoB
  rw [List.any_eq_true]
  refine ⟨q, List.mem_range.2 hq, decide_eq_true ?_⟩
  rw [show (leastTo X X.length).getD q 0 = z by rw [List.getD_eq_getElem?_getD, List.getElem?_eq_getElem hq]; exact e]
  exact hz2
end

/-! ### A literal of three numbers -/
theorem fill_three (u0 u1 u2 : Value) (z : Array Value) (h0 : u0.cells = #[u0]) (h1 : u1.cells = #[u1]) (h2 : u2.cells = #[u2]) (hz : z.size = 3) : Instr.fill (fun i => some (i * 1, 1)) z [(0, u0), (1, u1), (2, u2)] = some #[u0, u1, u2] := by
  rw [fill_step 1 0 u0 _ z (by rw [h0]; rfl) (by omega), fill_step 1 1 u1 _ _ (by rw [h1]; rfl) (by simp [h0]; omega), fill_step 1 2 u2 _ _ (by rw [h2]; rfl) (by simp [h0, h1]; omega), Instr.fill, h0, h1, h2]
  obtain ⟨l⟩ := z
  match l, hz with
  | [a, b, c], _ => simp
section
variable {P : Program} {f : Nat → Value} {w w' : World} {d : Option Nat} {ty : TypeId} {ps : String} {af : Array Edge} {g : Option (Nat × Bool)} {t e T : TypeId} {by_ N sz b : Nat} {K : Value → World → Prop}
theorem Y_lit3 {x0 x1 x2 : Operand} {u0 u1 u2 : Value} (hx0 : evF f x0 = u0) (hx1 : evF f x1 = u1) (hx2 : evF f x2 = u2) (hT : elemI P t = some (e, 1, by_)) (hz : (zeroI P e).map (fun z => z.cells.size) = some 1) (h0 : u0.cells = #[u0]) (h1 : u1.cells = #[u1]) (h2 : u2.cells = #[u2])
    (hK : ∀ b w', b = w.heap.size → Ext w w' → At w' b #[u0, u1, u2] e → K (.slice (some ⟨b, 0, none⟩) 3 3) w') : Yd P ⟨d, .buildSlice t 3 #[(0, x0), (1, x1), (2, x2)], ty, ps, af, g⟩ f w K := by
  obtain ⟨z, hz, hzs⟩ := Option.map_eq_some_iff.1 hz
  unfold zeroI at hz
  obtain ⟨i, hi, hzz⟩ := Option.bind_eq_some_iff.1 hz
  unfold elemI at hT
  cases hun : P.underlying t with
  | none => simp [hun] at hT
  | some desc =>
    cases desc <;> simp [hun] at hT
    rename_i e'
    obtain ⟨i', hi', rfl, q1, rfl⟩ := hT
    obtain rfl : i' = i := by rw [hi] at hi'; exact (Option.some.inj hi').symm
    refine .val (w' := w.alloc (.cells #[u0, u1, u2] e')) ?_ (hK w.heap.size _ rfl (Ext.alloc w _) (at_alloc w _ _))
    have hf := fill_three u0 u1 u2 ((Array.range (3 * 1)).map (z.cells[· % z.cells.size]!)) h0 h1 h2 (by simp)
    simp only [Nat.mul_one] at hf
    simp [execOp, hx0, hx1, hx2, Instr.buildSlice, run_underlying hun, sizeOf, typeInfo, hi, q1, zeroValue, hzz, newRow, hf]
theorem own_lit3 {enc : Int → List Value} {a0 a1 a2 : Int} (k : At w b #[.int .i64 a0, .int .i64 a1, .int .i64 a2] T) (h0 : enc a0 = [.int .i64 a0]) (h1 : enc a1 = [.int .i64 a1]) (h2 : enc a2 = [.int .i64 a2]) (hs : sz = 1) (hN : N ≤ b) : OwT enc sz T w N (.slice (some ⟨b, 0, none⟩) 3 3) [a0, a1, a2] := by
  subst hs
  exact ⟨by simp [h0, h1, h2], .inr ⟨b, 3, _, rfl, hN, k, Nat.le_refl _, by decide, by simp, by simp [h0, h1, h2]⟩⟩
end

theorem ret_ttttt {P : Program} {f : Nat → Value} {w : World} {t u s r q : Nat} {v v1 v2 v3 v4 : Value} {Post : Value → World → Prop} (h : f t = v) (h1 : f u = v1) (h2 : f s = v2) (h3 : f r = v3) (h4 : f q = v4) (hp : Post (.tuple #[v, v1, v2, v3, v4]) w) : bodyQ P #[.tmp t, .tmp u, .tmp s, .tmp r, .tmp q] Post .ret f w := by
  refine ⟨_, fun tmps fn ht hr => ?_, hp⟩
  rw [← h, ← h1, ← h2, ← h3, ← h4, ← ht t, ← ht u, ← ht s, ← ht r, ← ht q]; simp [results, hr]

theorem r_ext5_0 {P : Program} {f : Nat → Value} {w : World} {d : Option Nat} {ty : TypeId} {ps : String} {af : Array Edge} {g : Option (Nat × Bool)} {x : Operand} {v0 v1 v2 v3 v4 : Value} (h : evF f x = .tuple #[v0, v1, v2, v3, v4]) : (execOp (evF f) ⟨d, .extract x 0, ty, ps, af, g⟩).run P w = .ok (.value v0) w := by simp [execOp, h, Instr.extract]
theorem r_ext5_1 {P : Program} {f : Nat → Value} {w : World} {d : Option Nat} {ty : TypeId} {ps : String} {af : Array Edge} {g : Option (Nat × Bool)} {x : Operand} {v0 v1 v2 v3 v4 : Value} (h : evF f x = .tuple #[v0, v1, v2, v3, v4]) : (execOp (evF f) ⟨d, .extract x 1, ty, ps, af, g⟩).run P w = .ok (.value v1) w := by simp [execOp, h, Instr.extract]
theorem r_ext5_2 {P : Program} {f : Nat → Value} {w : World} {d : Option Nat} {ty : TypeId} {ps : String} {af : Array Edge} {g : Option (Nat × Bool)} {x : Operand} {v0 v1 v2 v3 v4 : Value} (h : evF f x = .tuple #[v0, v1, v2, v3, v4]) : (execOp (evF f) ⟨d, .extract x 2, ty, ps, af, g⟩).run P w = .ok (.value v2) w := by simp [execOp, h, Instr.extract]
theorem r_ext5_3 {P : Program} {f : Nat → Value} {w : World} {d : Option Nat} {ty : TypeId} {ps : String} {af : Array Edge} {g : Option (Nat × Bool)} {x : Operand} {v0 v1 v2 v3 v4 : Value} (h : evF f x = .tuple #[v0, v1, v2, v3, v4]) : (execOp (evF f) ⟨d, .extract x 3, ty, ps, af, g⟩).run P w = .ok (.value v3) w := by simp [execOp, h, Instr.extract]
theorem r_ext5_4 {P : Program} {f : Nat → Value} {w : World} {d : Option Nat} {ty : TypeId} {ps : String} {af : Array Edge} {g : Option (Nat × Bool)} {x : Operand} {v0 v1 v2 v3 v4 : Value} (h : evF f x = .tuple #[v0, v1, v2, v3, v4]) : (execOp (evF f) ⟨d, .extract x 4, ty, ps, af, g⟩).run P w = .ok (.value v4) w := by simp [execOp, h, Instr.extract]

end Go.Proofs.Ytpamgfbecgjjeaa
