/-
  The walks of package cover.
-/
import Derived.Test.YtdbcijijhhbkaaaProg
import Derived.Test.YtdbcijijhhbkaaaWCov
import Derived.Test.YtdbcijijhhbkaaaCover3
namespace Go.Proofs.Ytdbcijijhhbkaaa
set_option linter.unusedVariables false
set_option linter.unusedSimpArgs false
open Go Go.RowKit

theorem tb_fo56_1 : fieldO Try.prog 56 1 = some 1 := by kernel_rfl
theorem tb_sc54 : scalarB Try.prog 54 = true := by kernel_rfl
theorem tb_el54 : elemI Try.prog 54 = some (57, 1, 24) := by kernel_rfl
theorem tb_sc57 : scalarB Try.prog 57 = true := by kernel_rfl
theorem tb_fo56_0 : fieldO Try.prog 56 0 = some 0 := by kernel_rfl
theorem tb_ag56 : aggN Try.prog 56 = some 2 := by kernel_rfl
theorem tb_c48 : callB Try.prog 48 = true := by kernel_rfl
theorem tb_mp112 : isMap Try.prog 112 = some (3, 4) := by kernel_rfl
theorem tb_key3 : KeyOk Try.prog 3 (fun v => ∃ a : Int, v = keyI a) := by
  refine keyOk_of Try.underlying3 ?_ ?_ ?_ ?_
  · rintro w _ _ ⟨a, rfl⟩ ⟨c, rfl⟩
    refine ⟨a == c, ?_, by simp [keyI]⟩
    simp [Op.equal, keyI]
    exact run_equalIn_int w 9999 3 .i64 .i64 a c Try.underlying3
  · rintro _ _ ⟨a, rfl⟩ ⟨c, rfl⟩
    exact .inr ⟨a == c, by simp [Instr.sameNow, keyI], by simp [keyI]⟩
  · rintro w em _ ⟨a, rfl⟩
    have h2 : ∀ k, (Instr.checkKey em (k + 1) 3 (keyI a)).run Try.prog w = .ok () w := fun k => by
      simp [keyI, Instr.checkKey, run_underlying Try.underlying3]
    exact h2 9999
  · rintro _ ⟨a, rfl⟩
    simp [keyI, Instr.sameBits]

theorem tb_el137 : elemI Try.prog 137 = some (5, 1, 1) := by kernel_rfl
theorem tb_zs5 : (zeroI Try.prog 5).map (fun z => z.cells.size) = some 1 := by kernel_rfl
theorem tb_sc65 : scalarB Try.prog 65 = true := by kernel_rfl
theorem tb_c108 : callB Try.prog 108 = true := by kernel_rfl
theorem tb_sc113 : scalarB Try.prog 113 = true := by kernel_rfl
theorem tb_mp113 : isMap Try.prog 113 = some (9, 4) := by kernel_rfl
theorem tb_key9 : KeyOk Try.prog 9 (fun v => ∃ a : List UInt8, v = keyW a) := by
  refine keyOk_of Try.underlying9 ?_ ?_ ?_ ?_
  · rintro w _ _ ⟨a, rfl⟩ ⟨c, rfl⟩
    refine ⟨_, run_equalIn_string w 9999 9 _ _ Try.underlying9, by rw [beq_iff_eq, ByteArray.toList_eq]; simp [keyW]⟩
  · rintro _ _ ⟨a, rfl⟩ ⟨c, rfl⟩
    exact .inr ⟨_, rfl, by rw [keyW_beq]; simp [keyW]⟩
  · rintro w em _ ⟨a, rfl⟩
    have h2 : ∀ k, (Instr.checkKey em (k + 1) 9 (keyW a)).run Try.prog w = .ok () w := fun k => by
      simp [keyW, Instr.checkKey, run_underlying Try.underlying9]
    exact h2 9999
  · rintro _ ⟨a, rfl⟩
    exact (keyW_beq a a).2 rfl

theorem tb_c109 : callB Try.prog 109 = true := by kernel_rfl
theorem tb_zs57 : (zeroI Try.prog 57).map (fun z => z.cells.size) = some 1 := by kernel_rfl
theorem tb_z56 : zeroI Try.prog 56 = some (.agg #[.int .i64 0, .slice none 0 0]) := by kernel_rfl
theorem tb_size3 : (Try.prog.info? 3).map (·.size) = some 1 := by kernel_rfl
theorem tb_size54 : (Try.prog.info? 54).map (·.size) = some 1 := by kernel_rfl
theorem tb_build56_ {f : Nat → Value} {w : World} {d : Option Nat} {ty : TypeId} {ps : String} {af : Array Edge} {g : Option (Nat × Bool)}    :
    (execOp (evF f) ⟨d, .build 56 #[], ty, ps, af, g⟩).run Try.prog w = .ok (.value (.agg #[.int .i64 0, .slice none 0 0])) w := by
  obtain ⟨i0, hi0, hz0⟩ := Option.bind_eq_some_iff.1 (show (Try.prog.info? 56).bind (·.zero) = _ from tb_z56)
  obtain ⟨j3, hj3, hs3⟩ := Option.map_eq_some_iff.1 tb_size3
  obtain ⟨j54, hj54, hs54⟩ := Option.map_eq_some_iff.1 tb_size54
  simp [execOp, Instr.build, zeroValue, typeInfo, sizeOf, hi0, hz0, run_underlying Try.underlying56, Instr.fill, cells_agg, hj3, hs3, hj54, hs54]
theorem tb_z62 : zeroI Try.prog 62 = some (.slice none 0 0) := by kernel_rfl
theorem tb_zs24 : (zeroI Try.prog 24).map (fun z => z.cells.size) = some 4 := by kernel_rfl
theorem tb_build56_0 {f : Nat → Value} {w : World} {d : Option Nat} {ty : TypeId} {ps : String} {af : Array Edge} {g : Option (Nat × Bool)} {x0 : Operand} {c0_0 : Value} (h0 : evF f x0 = c0_0) (k0 : c0_0.cells = #[c0_0]) :
    (execOp (evF f) ⟨d, .build 56 #[(0, x0)], ty, ps, af, g⟩).run Try.prog w = .ok (.value (.agg #[c0_0, .slice none 0 0])) w := by
  obtain ⟨i0, hi0, hz0⟩ := Option.bind_eq_some_iff.1 (show (Try.prog.info? 56).bind (·.zero) = _ from tb_z56)
  obtain ⟨j3, hj3, hs3⟩ := Option.map_eq_some_iff.1 tb_size3
  obtain ⟨j54, hj54, hs54⟩ := Option.map_eq_some_iff.1 tb_size54
  simp [execOp, h0, k0, Instr.build, zeroValue, typeInfo, sizeOf, hi0, hz0, run_underlying Try.underlying56, Instr.fill, cells_agg, hj3, hs3, hj54, hs54]
theorem tb_z113 : zeroI Try.prog 113 = some (.map none) := by kernel_rfl
theorem tb_c83 : callB Try.prog 83 = true := by kernel_rfl
theorem tb_c106 : callB Try.prog 106 = true := by kernel_rfl

theorem C_cover_Right (n : Int) (rv : Value) (vs : List Value) (L : List (List Int)) (w : World) (hrv : SlT encV 1 w rv vs) (hll : LL w vs L) (hLb : L.length ≤ 1000000) (hRb : ∀ i, (L.getD i []).length ≤ 1000000) :
    Fn Try.prog 48 #[.agg #[.int .i64 n, rv]] w fun v w' => v = .bool (rightM n L) := by
 refine Fn_intro (n := 41) Try.func48 rfl rfl (Nat.le_of_ble_eq_true rfl) ?_
 have hB : Below w.heap.size w w := Below.refl _ _
 have hvl := hll.len
 refine WC_seq (fun K1 hK2 => ?_)
 refine WC_region ?_
 refine WL_step (dd := some 1) rfl rfl rfl (Y_box (c := #[_, _]) rfl rfl (fun b0_0 W3 hb4 hE5 hm0_0 => ?_))
 have lo_b0_0 : w.heap.size ≤ b0_0 := hb4 ▸ (Below.size hB)
 clear hb4
 replace hB := below_ext hB hE5 (Nat.le_refl _)
 clear hE5
 refine WL_val (dd := some 2) rfl rfl rfl (r_assign (v := .bool false) rfl) ?_
 refine WL_nil ?_
 refine hK2 _ _ ?_
 clear hK2 K1
 refine WC_seq (fun K6 hK7 => ?_)
 refine WC_seq (fun K8 hK9 => ?_)
 refine WC_region ?_
 refine WL_val (dd := some 8) rfl rfl rfl (r_fieldAddr (b := _) (o := _) rfl tb_fo56_1) ?_
 refine WL_val (dd := some 9) rfl rfl rfl (r_load1 (v := rv) rfl tb_sc54 (At.cell hm0_0 rfl)) ?_
 refine WL_val (dd := some 10) rfl rfl rfl (r_lenS (v := rv) rfl (Below.slT hB hrv) tb_el54) ?_
 refine WL_val (dd := some 11) rfl rfl rfl (r_move (v := .int .i64 0) rfl) ?_
 refine WL_nil ?_
 refine hK9 _ _ ?_
 clear hK9 K8
 refine WC_block ?_
 refine WC_loop (σ := (Nat)) [2, 4, 5, 7, 11, 12, 13, 14, 15, 16, 17, 18, 19, 20, 21, 22, 23, 24, 25, 26, 27, 28, 29, 30, 31, 32] (fun i => [(11, .int .i64 (i : Int))]) (fun i W => (Below w.heap.size w W) ∧ (At W b0_0 _ 56) ∧ (i ≤ L.length) ∧ (∀ q, q < i → rowOk n (L.getD q []) = true) ∧ (True)) (fun i => L.length - i) (0) ⟨rfl, trivial⟩ ⟨hB, hm0_0, (Nat.zero_le _), upTo_zero, trivial⟩ ?_
 clear hB hm0_0
 rintro i g11 W10 ⟨hB, hm0_0, hi, hq, _⟩ J12 hJ13
 refine WC_seq (fun K14 hK15 => ?_)
 refine WC_region ?_
 refine WL_val (dd := some 12) rfl rfl rfl (r_lss rfl rfl) ?_
 refine WL_nil ?_
 refine hK15 _ _ ?_
 clear hK15 K14
 refine WC_seq (fun K16 hK17 => ?_)
 refine WC_cond (b := _) rfl (fun hc0 => ?_) (fun hc0 => ?_)
 ·
  try with_reducible replace hc0 := of_decide_eq_true hc0
  refine WC_skip ?_
  refine hK17 _ _ ?_
  clear hK17 K16
  refine WC_seq (fun K18 hK19 => ?_)
  refine WC_block ?_
  refine WC_seq (fun K20 hK21 => ?_)
  refine WC_region ?_
  refine WL_val (dd := some 13) rfl rfl rfl (r_idxS (v := rv) rfl (Below.slT hB hrv) rfl tb_el54 (by omega) (by first | omega | (simp only [flagsTo_len, litsTo_len, firstF_len, ptF_len, setF_len]; omega))) ?_
  refine WL_val (dd := some 14) rfl rfl rfl (r_load1 (v := (vs.getD i undef)) rfl tb_sc57 (SlT.cell (Below.slT hB hrv) encV_len undef (by omega) (by first | omega | (simp only [flagsTo_len, litsTo_len, firstF_len, ptF_len, setF_len]; omega)) 0 rfl)) ?_
  have hp3_1 : SlT encI 1 w ((vs.getD i undef)) (L.getD i []) := hll.get i (by omega)
  refine WL_val (dd := some 4) rfl rfl rfl (r_assign (v := (vs.getD i undef)) rfl) ?_
  refine WL_nil ?_
  refine hK21 _ _ ?_
  clear hK21 K20
  refine WC_seq (fun K22 hK23 => ?_)
  refine WC_region ?_
  refine WL_val (dd := some 5) rfl rfl rfl (r_assign (v := .int .i64 _) rfl) ?_
  refine WL_nil ?_
  refine hK23 _ _ ?_
  clear hK23 K22
  refine WC_seq (fun K24 hK25 => ?_)
  have hRi := hRb i
  refine WC_region ?_
  refine WL_val (dd := some 15) rfl rfl rfl (r_move (v := (vs.getD i undef)) rfl) ?_
  refine WL_val (dd := some 16) rfl rfl rfl (r_lenS (v := (vs.getD i undef)) rfl (Below.slT hB hp3_1) tb_el57) ?_
  refine WL_val (dd := some 17) rfl rfl rfl (r_move (v := .int .i64 0) rfl) ?_
  refine WL_nil ?_
  refine hK25 _ _ ?_
  clear hK25 K24
  refine WC_block ?_
  refine WC_loop (σ := (Nat)) [2, 5, 7, 17, 18, 19, 20, 21, 22, 23, 24, 25, 26, 27, 28, 29, 30, 31] (fun k => [(17, .int .i64 (k : Int)), (5, .int .i64 (lastOf (L.getD i []) k))]) (fun k W => (Below w.heap.size w W) ∧ (At W b0_0 _ 56) ∧ (k ≤ (L.getD i []).length) ∧ (∀ q, q < k → 0 ≤ (L.getD i []).getD q 0 ∧ (L.getD i []).getD q 0 < n ∧ (0 < q → (L.getD i []).getD (q - 1) 0 < (L.getD i []).getD q 0)) ∧ (True)) (fun k => (L.getD i []).length - k) (0) ⟨rfl, rfl, trivial⟩ ⟨hB, hm0_0, (Nat.zero_le _), upTo_zero, trivial⟩ ?_
  clear hB hm0_0
  rintro k g27 W26 ⟨hB, hm0_0, hk, hq2, _⟩ J28 hJ29
  refine WC_seq (fun K30 hK31 => ?_)
  refine WC_region ?_
  refine WL_val (dd := some 18) rfl rfl rfl (r_lss rfl rfl) ?_
  refine WL_nil ?_
  refine hK31 _ _ ?_
  clear hK31 K30
  refine WC_seq (fun K32 hK33 => ?_)
  refine WC_cond (b := _) rfl (fun hc1 => ?_) (fun hc1 => ?_)
  ·
   try with_reducible replace hc1 := of_decide_eq_true hc1
   refine WC_skip ?_
   refine hK33 _ _ ?_
   clear hK33 K32
   refine WC_seq (fun K34 hK35 => ?_)
   refine WC_block ?_
   refine WC_seq (fun K36 hK37 => ?_)
   refine WC_region ?_
   refine WL_val (dd := some 19) rfl rfl rfl (r_idxS (v := (vs.getD i undef)) rfl (Below.slT hB hp3_1) rfl tb_el57 (by omega) (by first | omega | (simp only [flagsTo_len, litsTo_len, firstF_len, ptF_len, setF_len]; omega))) ?_
   refine WL_val (dd := some 20) rfl rfl rfl (r_load1 (v := .int .i64 _) rfl tb_sc3 (SlT.cell (Below.slT hB hp3_1) encI_len 0 (by omega) (by first | omega | (simp only [flagsTo_len, litsTo_len, firstF_len, ptF_len, setF_len]; omega)) 0 rfl)) ?_
   refine WL_val (dd := some 7) rfl rfl rfl (r_assign (v := .int .i64 _) rfl) ?_
   refine WL_nil ?_
   refine hK37 _ _ ?_
   clear hK37 K36
   refine WC_seq (fun K38 hK39 => ?_)
   refine WC_seq (fun K40 hK41 => ?_)
   refine WC_region ?_
   refine WL_val (dd := some 21) rfl rfl rfl (r_move (v := .int .i64 _) rfl) ?_
   refine WL_val (dd := some 22) rfl rfl rfl (r_move (v := .int .i64 _) rfl) ?_
   refine WL_val (dd := some 23) rfl rfl rfl (r_leq rfl rfl) ?_
   refine WL_split (dd := some 24) rfl rfl rfl (r_move (v := .bool _) rfl) (fun hs8_3 => ?_) (fun hs8_3 => ?_)
   ·
    try with_reducible replace hs8_3 := of_decide_eq_true hs8_3
    refine WL_skip (dd := some 25) rfl rfl rfl ?_
    refine WL_skip (dd := some 26) rfl rfl rfl ?_
    refine WL_skip (dd := some 27) rfl rfl rfl ?_
    refine WL_skip (dd := some 28) rfl rfl rfl ?_
    refine WL_val (dd := some 29) rfl rfl rfl (r_pick_t rfl (v := .bool true) rfl) ?_
    refine WL_nil ?_
    refine hK41 _ _ ?_
    clear hK41 K40
    refine WC_cond_true rfl ?_
    refine WC_seq (fun K42 hK43 => ?_)
    refine WC_region ?_
    refine WL_val (dd := some 2) rfl rfl rfl (r_assign (v := .bool false) rfl) ?_
    refine WL_nil ?_
    refine hK43 _ _ ?_
    clear hK43 K42
    refine WC_ret ?_
    repeat (first | refine thenQ_ret ?_ | refine blockQ_ret ?_)
    try clear hK39 K38
    try clear hK35 K34
    try clear hJ29 J28
    try clear hK19 K18
    try clear hJ13 J12
    try clear hK7 K6
    refine ret_t (v := .bool false) rfl ?_
    refine ⟨hB, ?_⟩
    exact rm_no (i := i) (k := k) (by omega) (by omega) (fun q hq => (hq2 q hq).1) (.inl hs8_3)
   ·
    try with_reducible replace hs8_3 := of_decide_eq_false hs8_3
    refine WL_val (dd := some 25) rfl rfl rfl (r_move (v := .int .i64 _) rfl) ?_
    refine WL_val (dd := some 26) rfl rfl rfl (r_fieldAddr (b := _) (o := _) rfl tb_fo56_0) ?_
    refine WL_val (dd := some 27) rfl rfl rfl (r_load1 (v := .int .i64 _) rfl tb_sc3 (At.cell hm0_0 rfl)) ?_
    refine WL_val (dd := some 28) rfl rfl rfl (r_geq rfl rfl) ?_
    refine WL_val (dd := some 29) rfl rfl rfl (r_pick_f rfl (v := .bool _) rfl) ?_
    refine WL_nil ?_
    refine hK41 _ _ ?_
    clear hK41 K40
    refine WC_cond (b := _) rfl (fun hc2 => ?_) (fun hc2 => ?_)
    ·
     try with_reducible replace hc2 := of_decide_eq_true hc2
     refine WC_seq (fun K44 hK45 => ?_)
     refine WC_region ?_
     refine WL_val (dd := some 2) rfl rfl rfl (r_assign (v := .bool false) rfl) ?_
     refine WL_nil ?_
     refine hK45 _ _ ?_
     clear hK45 K44
     refine WC_ret ?_
     repeat (first | refine thenQ_ret ?_ | refine blockQ_ret ?_)
     try clear hK39 K38
     try clear hK35 K34
     try clear hJ29 J28
     try clear hK19 K18
     try clear hJ13 J12
     try clear hK7 K6
     refine ret_t (v := .bool false) rfl ?_
     refine ⟨hB, ?_⟩
     exact rm_no (i := i) (k := k) (by omega) (by omega) (fun q hq => (hq2 q hq).1) (.inr hc2)
    ·
     try with_reducible replace hc2 := of_decide_eq_false hc2
     refine WC_skip ?_
     refine hK39 _ _ ?_
     clear hK39 K38
     refine WC_region ?_
     refine WL_val (dd := some 30) rfl rfl rfl (r_move (v := .int .i64 _) rfl) ?_
     refine WL_val (dd := some 5) rfl rfl rfl (r_assign (v := .int .i64 _) rfl) ?_
     refine WL_nil ?_
     refine hK35 _ _ ?_
     clear hK35 K34
     refine WC_region ?_
     refine WL_val (dd := some 31) rfl rfl rfl (r_addI rfl rfl (by omega) (by omega)) ?_
     refine WL_val (dd := some 17) rfl rfl rfl (r_move (v := .int .i64 _) rfl) ?_
     refine WL_nil ?_
     refine hJ29 _ _ (k + 1) ?_ ?_ ?_ ?_
     · repeat (first | exact agree.mask _ _ _ | refine agree.updo ?_ rfl _ | refine agree.updL ?_ _ rfl | refine agree.maskS rfl ?_)
     · exact ⟨rfl, rfl, trivial⟩
     · exact ⟨hB, hm0_0, (by omega), (ro_step hq2 hs8_3 hc2), trivial⟩
     · first | omega | (dsimp only; omega)
  ·
   try with_reducible replace hc1 := of_decide_eq_false hc1
   refine WC_exit ?_
   refine hK19 _ _ ?_
   clear hK33 K32
   clear hJ29 J28
   clear hK19 K18
   refine WC_region ?_
   refine WL_val (dd := some 32) rfl rfl rfl (r_addI rfl rfl (by omega) (by omega)) ?_
   refine WL_val (dd := some 11) rfl rfl rfl (r_move (v := .int .i64 _) rfl) ?_
   refine WL_nil ?_
   refine hJ13 _ _ (i + 1) ?_ ?_ ?_ ?_
   · repeat (first | exact agree.mask _ _ _ | refine agree.updo ?_ rfl _ | refine agree.updL ?_ _ rfl | refine agree.maskS rfl ?_)
   · exact ⟨rfl, trivial⟩
   · exact ⟨hB, hm0_0, (by omega), (upTo_succ hq (rowOk_iff.2 (fun q hq => hq2 q (by omega)))), trivial⟩
   · first | omega | (dsimp only; omega)
 ·
  try with_reducible replace hc0 := of_decide_eq_false hc0
  refine WC_exit ?_
  refine hK7 _ _ ?_
  clear hK17 K16
  clear hJ13 J12
  clear hK7 K6
  refine WC_seq (fun K46 hK47 => ?_)
  refine WC_region ?_
  refine WL_val (dd := some 33) rfl rfl rfl (r_fieldAddr (b := _) (o := _) rfl tb_fo56_0) ?_
  refine WL_val (dd := some 34) rfl rfl rfl (r_load1 (v := .int .i64 _) rfl tb_sc3 (At.cell hm0_0 rfl)) ?_
  refine WL_val (dd := some 35) rfl rfl rfl (r_geq rfl rfl) ?_
  refine WL_split (dd := some 36) rfl rfl rfl (r_move (v := .bool _) rfl) (fun hs13_3 => ?_) (fun hs13_3 => ?_)
  ·
   try with_reducible replace hs13_3 := of_decide_eq_true hs13_3
   refine WL_val (dd := some 37) rfl rfl rfl (r_fieldAddr (b := _) (o := _) rfl tb_fo56_0) ?_
   refine WL_val (dd := some 38) rfl rfl rfl (r_load1 (v := .int .i64 _) rfl tb_sc3 (At.cell hm0_0 rfl)) ?_
   refine WL_val (dd := some 39) rfl rfl rfl (r_leq rfl rfl) ?_
   refine WL_val (dd := some 40) rfl rfl rfl (r_pick_t rfl (v := .bool _) rfl) ?_
   refine WL_val (dd := some 2) rfl rfl rfl (r_assign (v := .bool _) rfl) ?_
   refine WL_nil ?_
   refine hK47 _ _ ?_
   clear hK47 K46
   refine WC_ret ?_
   repeat (first | refine thenQ_ret ?_ | refine blockQ_ret ?_)
   refine ret_t (v := .bool _) rfl ?_
   refine ⟨hB, ?_⟩
   obtain rfl : i = L.length := by omega
   exact rm_1 hs13_3 hq
  ·
   try with_reducible replace hs13_3 := of_decide_eq_false hs13_3
   refine WL_skip (dd := some 37) rfl rfl rfl ?_
   refine WL_skip (dd := some 38) rfl rfl rfl ?_
   refine WL_skip (dd := some 39) rfl rfl rfl ?_
   refine WL_val (dd := some 40) rfl rfl rfl (r_pick_f rfl (v := .bool false) rfl) ?_
   refine WL_val (dd := some 2) rfl rfl rfl (r_assign (v := .bool false) rfl) ?_
   refine WL_nil ?_
   refine hK47 _ _ ?_
   clear hK47 K46
   refine WC_ret ?_
   repeat (first | refine thenQ_ret ?_ | refine blockQ_ret ?_)
   refine ret_t (v := .bool false) rfl ?_
   refine ⟨hB, ?_⟩
   obtain rfl : i = L.length := by omega
   exact rm_0 hs13_3

theorem C_cover_Solves (n : Int) (rv : Value) (vs : List Value) (L : List (List Int)) (xc : Value) (cols : List Int) (w : World) (hrv : SlT encV 1 w rv vs) (hll : LL w vs L) (hLb : L.length ≤ 1000000) (hRb : ∀ i, (L.getD i []).length ≤ 1000000) (hc : SlT encI 1 w xc cols) (hcb : cols.length ≤ 1000000) :
    Fn Try.prog 49 #[.agg #[.int .i64 n, rv], xc] w fun v w' => v = .bool (rightM n L && solvesB L cols) := by
 refine Fn_intro (n := 49) Try.func49 rfl rfl (Nat.le_of_ble_eq_true rfl) ?_
 have hB : Below w.heap.size w w := Below.refl _ _
 have hvl := hll.len
 refine WC_seq (fun K1 hK2 => ?_)
 refine WC_region ?_
 refine WL_step (dd := some 2) rfl rfl rfl (Y_box (c := #[_, _]) rfl rfl (fun b0_0 W3 hb4 hE5 hm0_0 => ?_))
 have lo_b0_0 : w.heap.size ≤ b0_0 := hb4 ▸ (Below.size hB)
 clear hb4
 replace hB := below_ext hB hE5 (Nat.le_refl _)
 clear hE5
 refine WL_val (dd := some 4) rfl rfl rfl (r_assign (v := .bool false) rfl) ?_
 refine WL_nil ?_
 refine hK2 _ _ ?_
 clear hK2 K1
 refine WC_seq (fun K6 hK7 => ?_)
 refine WC_seq (fun K8 hK9 => ?_)
 refine WC_region ?_
 refine WL_val (dd := some 13) rfl rfl rfl (r_loadW rfl tb_ag56 rfl hm0_0) ?_
 refine WL_call (dd := some 14) rfl rfl rfl (r_call1 tb_c48 (v0 := .agg #[_, _]) rfl) (C_cover_Right n _ _ L _ (Below.slT hB hrv) (LL.below hB hll) hLb hRb) (fun v1_1 W10 hE11 hP1_1 => ?_)
 have hsz12 := (Below.size hB)
 replace hB := below_ext hB hE11 (Nat.le_refl _)
 replace hm0_0 := hE11.at hm0_0
 clear hE11
 clear hsz12
 obtain rfl := hP1_1
 refine WL_val (dd := some 15) rfl rfl rfl (r_not rfl) ?_
 refine WL_nil ?_
 refine hK9 _ _ ?_
 clear hK9 K8
 refine WC_cond (b := _) rfl (fun hc0 => ?_) (fun hc0 => ?_)
 ·
  try with_reducible replace hc0 := of_decide_eq_true hc0
  refine WC_seq (fun K13 hK14 => ?_)
  refine WC_region ?_
  refine WL_val (dd := some 4) rfl rfl rfl (r_assign (v := .bool false) rfl) ?_
  refine WL_nil ?_
  refine hK14 _ _ ?_
  clear hK14 K13
  refine WC_ret ?_
  repeat (first | refine thenQ_ret ?_ | refine blockQ_ret ?_)
  try clear hK7 K6
  refine ret_t (v := .bool false) rfl ?_
  refine ⟨hB, ?_⟩
  rw [show rightM n L = false from not_t hc0]
  rfl
 ·
  try with_reducible replace hc0 := of_decide_eq_false hc0
  refine WC_skip ?_
  refine hK7 _ _ ?_
  clear hK7 K6
  refine WC_seq (fun K15 hK16 => ?_)
  refine WC_region ?_
  refine WL_step (dd := some 16) rfl rfl rfl (Y_makeMap (enc := keyI) (encV := Value.bool) (fun b3_0 W17 hb18 hE19 hm3_0 => ?_))
  have lo_b3_0 : w.heap.size ≤ b3_0 := hb18 ▸ (Below.size hB)
  clear hb18
  replace hB := below_ext hB hE19 (Nat.le_refl _)
  replace hm0_0 := hE19.at hm0_0
  clear hE19
  replace hm3_0 : MapT keyI Value.bool _ _ (allT []) := hm3_0
  refine WL_val (dd := some 5) rfl rfl rfl (r_assign (v := .map (some b3_0)) rfl) ?_
  refine WL_nil ?_
  refine hK16 _ _ ?_
  clear hK16 K15
  refine WC_seq (fun K20 hK21 => ?_)
  refine WC_seq (fun K22 hK23 => ?_)
  refine WC_region ?_
  refine WL_val (dd := some 17) rfl rfl rfl (r_move (v := xc) rfl) ?_
  refine WL_val (dd := some 18) rfl rfl rfl (r_lenS (v := xc) rfl (Below.slT hB hc) tb_el57) ?_
  refine WL_val (dd := some 19) rfl rfl rfl (r_move (v := .int .i64 0) rfl) ?_
  refine WL_nil ?_
  refine hK23 _ _ ?_
  clear hK23 K22
  refine WC_block ?_
  refine WC_loop (σ := (Nat)) [7, 19, 20, 21, 22, 23, 24, 25] (fun k => [(19, .int .i64 (k : Int))]) (fun k W => (Below w.heap.size w W) ∧ (At W b0_0 _ 56) ∧ (MapT keyI Value.bool W b3_0 (allT (keysTo cols k))) ∧ (k ≤ cols.length) ∧ (True)) (fun k => cols.length - k) (0) ⟨rfl, trivial⟩ ⟨hB, hm0_0, hm3_0, (Nat.zero_le _), trivial⟩ ?_
  clear hB hm0_0 hm3_0
  rintro k g25 W24 ⟨hB, hm0_0, hm3_0, hk, _⟩ J26 hJ27
  refine WC_seq (fun K28 hK29 => ?_)
  refine WC_region ?_
  refine WL_val (dd := some 20) rfl rfl rfl (r_lss rfl rfl) ?_
  refine WL_nil ?_
  refine hK29 _ _ ?_
  clear hK29 K28
  refine WC_seq (fun K30 hK31 => ?_)
  refine WC_cond (b := _) rfl (fun hc1 => ?_) (fun hc1 => ?_)
  ·
   try with_reducible replace hc1 := of_decide_eq_true hc1
   refine WC_skip ?_
   refine hK31 _ _ ?_
   clear hK31 K30
   refine WC_seq (fun K32 hK33 => ?_)
   refine WC_block ?_
   refine WC_seq (fun K34 hK35 => ?_)
   refine WC_region ?_
   refine WL_val (dd := some 21) rfl rfl rfl (r_idxS (v := xc) rfl (Below.slT hB hc) rfl tb_el57 (by omega) (by first | omega | (simp only [flagsTo_len, litsTo_len, firstF_len, ptF_len, setF_len]; omega))) ?_
   refine WL_val (dd := some 22) rfl rfl rfl (r_load1 (v := .int .i64 _) rfl tb_sc3 (SlT.cell (Below.slT hB hc) encI_len 0 (by omega) (by first | omega | (simp only [flagsTo_len, litsTo_len, firstF_len, ptF_len, setF_len]; omega)) 0 rfl)) ?_
   refine WL_val (dd := some 7) rfl rfl rfl (r_assign (v := .int .i64 _) rfl) ?_
   refine WL_nil ?_
   refine hK35 _ _ ?_
   clear hK35 K34
   refine WC_region ?_
   refine WL_val (dd := some 23) rfl rfl rfl (r_move (v := .map (some b3_0)) rfl) ?_
   refine WL_val (dd := some 24) rfl rfl rfl (r_move (v := .int .i64 _) rfl) ?_
   refine WL_step (dd := none) rfl rfl rfl (Y_mapUpdate (enc := keyI) (encV := Value.bool) (k := (cols.getD k 0)) (v := true) rfl rfl rfl tb_mp112 tb_key3 (fun a => ⟨a, rfl⟩) keyI_inj hm3_0 (fun W36 hG37 hm38 => ?_))
   replace hB := below_grown hB hG37 (Nat.le_refl _) (fun j hj => by cases hj; exact lo_b3_0)
   replace hm0_0 := At.grownMap hm0_0 hm3_0 hG37
   clear hG37 hm3_0
   have hm3_0 := hm38
   clear hm38
   rw [allT_put] at hm3_0
   refine WL_nil ?_
   refine hK33 _ _ ?_
   clear hK33 K32
   refine WC_region ?_
   refine WL_val (dd := some 25) rfl rfl rfl (r_addI rfl rfl (by omega) (by omega)) ?_
   refine WL_val (dd := some 19) rfl rfl rfl (r_move (v := .int .i64 _) rfl) ?_
   refine WL_nil ?_
   refine hJ27 _ _ (k + 1) ?_ ?_ ?_ ?_
   · repeat (first | exact agree.mask _ _ _ | refine agree.updo ?_ rfl _ | refine agree.updL ?_ _ rfl | refine agree.maskS rfl ?_)
   · exact ⟨rfl, trivial⟩
   · exact ⟨hB, hm0_0, (by exact hm3_0), (by omega), trivial⟩
   · first | omega | (dsimp only; omega)
  ·
   try with_reducible replace hc1 := of_decide_eq_false hc1
   refine WC_exit ?_
   refine hK21 _ _ ?_
   clear hK31 K30
   clear hJ27 J26
   clear hK21 K20
   refine WC_seq (fun K39 hK40 => ?_)
   refine WC_seq (fun K41 hK42 => ?_)
   obtain rfl : k = cols.length := by omega
   refine WC_region ?_
   refine WL_val (dd := some 26) rfl rfl rfl (r_fieldAddr (b := _) (o := _) rfl tb_fo56_1) ?_
   refine WL_val (dd := some 27) rfl rfl rfl (r_load1 (v := rv) rfl tb_sc54 (At.cell hm0_0 rfl)) ?_
   refine WL_val (dd := some 28) rfl rfl rfl (r_lenS (v := rv) rfl (Below.slT hB hrv) tb_el54) ?_
   refine WL_val (dd := some 29) rfl rfl rfl (r_move (v := .int .i64 0) rfl) ?_
   refine WL_nil ?_
   refine hK42 _ _ ?_
   clear hK42 K41
   refine WC_block ?_
   refine WC_loop (σ := (Nat)) [4, 9, 10, 12, 29, 30, 31, 32, 33, 34, 35, 36, 37, 38, 39, 40, 41, 42, 43, 44, 45, 46, 47, 48] (fun i => [(29, .int .i64 (i : Int))]) (fun i W => (Below w.heap.size w W) ∧ (At W b0_0 _ 56) ∧ (MapT keyI Value.bool W b3_0 _) ∧ (i ≤ L.length) ∧ (∀ q, q < i → ((L.getD q []).any fun c => decide (c ∈ cols)) = true) ∧ (True)) (fun i => L.length - i) (0) ⟨rfl, trivial⟩ ⟨hB, hm0_0, hm3_0, (Nat.zero_le _), upTo_zero, trivial⟩ ?_
   clear hB hm0_0 hm3_0
   rintro i g44 W43 ⟨hB, hm0_0, hm3_0, hi, hq, _⟩ J45 hJ46
   refine WC_seq (fun K47 hK48 => ?_)
   refine WC_region ?_
   refine WL_val (dd := some 30) rfl rfl rfl (r_lss rfl rfl) ?_
   refine WL_nil ?_
   refine hK48 _ _ ?_
   clear hK48 K47
   refine WC_seq (fun K49 hK50 => ?_)
   refine WC_cond (b := _) rfl (fun hc2 => ?_) (fun hc2 => ?_)
   ·
    try with_reducible replace hc2 := of_decide_eq_true hc2
    refine WC_skip ?_
    refine hK50 _ _ ?_
    clear hK50 K49
    refine WC_seq (fun K51 hK52 => ?_)
    refine WC_block ?_
    refine WC_seq (fun K53 hK54 => ?_)
    refine WC_region ?_
    refine WL_val (dd := some 31) rfl rfl rfl (r_idxS (v := rv) rfl (Below.slT hB hrv) rfl tb_el54 (by omega) (by first | omega | (simp only [flagsTo_len, litsTo_len, firstF_len, ptF_len, setF_len]; omega))) ?_
    refine WL_val (dd := some 32) rfl rfl rfl (r_load1 (v := (vs.getD i undef)) rfl tb_sc57 (SlT.cell (Below.slT hB hrv) encV_len undef (by omega) (by first | omega | (simp only [flagsTo_len, litsTo_len, firstF_len, ptF_len, setF_len]; omega)) 0 rfl)) ?_
    have hp11_1 : SlT encI 1 w ((vs.getD i undef)) (L.getD i []) := hll.get i (by omega)
    refine WL_val (dd := some 9) rfl rfl rfl (r_assign (v := (vs.getD i undef)) rfl) ?_
    refine WL_nil ?_
    refine hK54 _ _ ?_
    clear hK54 K53
    refine WC_seq (fun K55 hK56 => ?_)
    refine WC_region ?_
    refine WL_val (dd := some 10) rfl rfl rfl (r_assign (v := .bool false) rfl) ?_
    refine WL_nil ?_
    refine hK56 _ _ ?_
    clear hK56 K55
    refine WC_seq (fun K57 hK58 => ?_)
    refine WC_seq (fun K59 hK60 => ?_)
    have hRi := hRb i
    refine WC_region ?_
    refine WL_val (dd := some 33) rfl rfl rfl (r_move (v := (vs.getD i undef)) rfl) ?_
    refine WL_val (dd := some 34) rfl rfl rfl (r_lenS (v := (vs.getD i undef)) rfl (Below.slT hB hp11_1) tb_el57) ?_
    refine WL_val (dd := some 35) rfl rfl rfl (r_move (v := .int .i64 0) rfl) ?_
    refine WL_nil ?_
    refine hK60 _ _ ?_
    clear hK60 K59
    refine WC_block ?_
    refine WC_loop (σ := (Nat)) [10, 12, 35, 36, 37, 38, 39, 40, 41, 42, 43, 44, 45] (fun j => [(35, .int .i64 (j : Int)), (10, .bool (anyTo (L.getD i []) cols j))]) (fun j W => (Below w.heap.size w W) ∧ (At W b0_0 _ 56) ∧ (MapT keyI Value.bool W b3_0 _) ∧ (j ≤ (L.getD i []).length) ∧ (True)) (fun j => (L.getD i []).length - j) (0) ⟨rfl, congrArg Value.bool (any_zero _ _), trivial⟩ ⟨hB, hm0_0, hm3_0, (Nat.zero_le _), trivial⟩ ?_
    clear hB hm0_0 hm3_0
    rintro j g62 W61 ⟨hB, hm0_0, hm3_0, hj, _⟩ J63 hJ64
    refine WC_seq (fun K65 hK66 => ?_)
    refine WC_region ?_
    refine WL_val (dd := some 36) rfl rfl rfl (r_lss rfl rfl) ?_
    refine WL_nil ?_
    refine hK66 _ _ ?_
    clear hK66 K65
    refine WC_seq (fun K67 hK68 => ?_)
    refine WC_cond (b := _) rfl (fun hc3 => ?_) (fun hc3 => ?_)
    ·
     try with_reducible replace hc3 := of_decide_eq_true hc3
     refine WC_skip ?_
     refine hK68 _ _ ?_
     clear hK68 K67
     refine WC_seq (fun K69 hK70 => ?_)
     refine WC_block ?_
     refine WC_seq (fun K71 hK72 => ?_)
     refine WC_region ?_
     refine WL_val (dd := some 37) rfl rfl rfl (r_idxS (v := (vs.getD i undef)) rfl (Below.slT hB hp11_1) rfl tb_el57 (by omega) (by first | omega | (simp only [flagsTo_len, litsTo_len, firstF_len, ptF_len, setF_len]; omega))) ?_
     refine WL_val (dd := some 38) rfl rfl rfl (r_load1 (v := .int .i64 _) rfl tb_sc3 (SlT.cell (Below.slT hB hp11_1) encI_len 0 (by omega) (by first | omega | (simp only [flagsTo_len, litsTo_len, firstF_len, ptF_len, setF_len]; omega)) 0 rfl)) ?_
     refine WL_val (dd := some 12) rfl rfl rfl (r_assign (v := .int .i64 _) rfl) ?_
     refine WL_nil ?_
     refine hK72 _ _ ?_
     clear hK72 K71
     refine WC_region ?_
     refine WL_val (dd := some 39) rfl rfl rfl (r_move (v := .bool _) rfl) ?_
     refine WL_split (dd := some 40) rfl rfl rfl (r_move (v := .bool _) rfl) (fun hs16_1 => ?_) (fun hs16_1 => ?_)
     ·
      try with_reducible replace hs16_1 := of_decide_eq_true hs16_1
      refine WL_skip (dd := some 41) rfl rfl rfl ?_
      refine WL_skip (dd := some 42) rfl rfl rfl ?_
      refine WL_skip (dd := some 43) rfl rfl rfl ?_
      refine WL_val (dd := some 44) rfl rfl rfl (r_pick_t rfl (v := .bool true) rfl) ?_
      refine WL_val (dd := some 10) rfl rfl rfl (r_assign (v := .bool true) rfl) ?_
      refine WL_nil ?_
      refine hK70 _ _ ?_
      clear hK70 K69
      refine WC_region ?_
      refine WL_val (dd := some 45) rfl rfl rfl (r_addI rfl rfl (by omega) (by omega)) ?_
      refine WL_val (dd := some 35) rfl rfl rfl (r_move (v := .int .i64 _) rfl) ?_
      refine WL_nil ?_
      refine hJ64 _ _ (j + 1) ?_ ?_ ?_ ?_
      · repeat (first | exact agree.mask _ _ _ | refine agree.updo ?_ rfl _ | refine agree.updL ?_ _ rfl | refine agree.maskS rfl ?_)
      · exact ⟨rfl, (by first | exact congrArg Value.bool (any_t (by omega) hs16_1) | exact congrArg Value.bool (any_f (by omega) hs16_1)), trivial⟩
      · exact ⟨hB, hm0_0, hm3_0, (by omega), trivial⟩
      · first | omega | (dsimp only; omega)
     ·
      try with_reducible replace hs16_1 := of_decide_eq_false hs16_1
      refine WL_val (dd := some 41) rfl rfl rfl (r_move (v := .map (some b3_0)) rfl) ?_
      refine WL_val (dd := some 42) rfl rfl rfl (r_move (v := .int .i64 _) rfl) ?_
      refine WL_val (dd := some 43) rfl rfl rfl (r_lookup (enc := keyI) (encV := Value.bool) (v0 := false) (k := ((L.getD i []).getD j 0)) rfl rfl tb_mp112 tb_key3 (fun a => ⟨a, rfl⟩) keyI_inj tb_z4 rfl hm3_0) ?_
      refine WL_val (dd := some 44) rfl rfl rfl (r_pick_f rfl (v := .bool _) rfl) ?_
      refine WL_val (dd := some 10) rfl rfl rfl (r_assign (v := .bool _) rfl) ?_
      refine WL_nil ?_
      refine hK70 _ _ ?_
      clear hK70 K69
      refine WC_region ?_
      refine WL_val (dd := some 45) rfl rfl rfl (r_addI rfl rfl (by omega) (by omega)) ?_
      refine WL_val (dd := some 35) rfl rfl rfl (r_move (v := .int .i64 _) rfl) ?_
      refine WL_nil ?_
      refine hJ64 _ _ (j + 1) ?_ ?_ ?_ ?_
      · repeat (first | exact agree.mask _ _ _ | refine agree.updo ?_ rfl _ | refine agree.updL ?_ _ rfl | refine agree.maskS rfl ?_)
      · exact ⟨rfl, (by first | exact congrArg Value.bool (any_t (by omega) hs16_1) | exact congrArg Value.bool (any_f (by omega) hs16_1)), trivial⟩
      · exact ⟨hB, hm0_0, hm3_0, (by omega), trivial⟩
      · first | omega | (dsimp only; omega)
    ·
     try with_reducible replace hc3 := of_decide_eq_false hc3
     refine WC_exit ?_
     refine hK58 _ _ ?_
     clear hK68 K67
     clear hJ64 J63
     clear hK58 K57
     refine WC_seq (fun K73 hK74 => ?_)
     refine WC_region ?_
     refine WL_val (dd := some 46) rfl rfl rfl (r_move (v := .bool _) rfl) ?_
     refine WL_val (dd := some 47) rfl rfl rfl (r_not rfl) ?_
     refine WL_nil ?_
     refine hK74 _ _ ?_
     clear hK74 K73
     refine WC_cond (b := _) rfl (fun hc4 => ?_) (fun hc4 => ?_)
     ·
      try with_reducible replace hc4 := of_decide_eq_true hc4
      refine WC_seq (fun K75 hK76 => ?_)
      refine WC_region ?_
      refine WL_val (dd := some 4) rfl rfl rfl (r_assign (v := .bool false) rfl) ?_
      refine WL_nil ?_
      refine hK76 _ _ ?_
      clear hK76 K75
      refine WC_ret ?_
      repeat (first | refine thenQ_ret ?_ | refine blockQ_ret ?_)
      try clear hK52 K51
      try clear hJ46 J45
      try clear hK40 K39
      refine ret_t (v := .bool false) rfl ?_
      refine ⟨hB, ?_⟩
      rw [solvesB_no (i := i) (by omega) (any_end (by omega) (not_t hc4)), Bool.and_false]
     ·
      try with_reducible replace hc4 := of_decide_eq_false hc4
      refine WC_skip ?_
      refine hK52 _ _ ?_
      clear hK52 K51
      refine WC_region ?_
      refine WL_val (dd := some 48) rfl rfl rfl (r_addI rfl rfl (by omega) (by omega)) ?_
      refine WL_val (dd := some 29) rfl rfl rfl (r_move (v := .int .i64 _) rfl) ?_
      refine WL_nil ?_
      refine hJ46 _ _ (i + 1) ?_ ?_ ?_ ?_
      · repeat (first | exact agree.mask _ _ _ | refine agree.updo ?_ rfl _ | refine agree.updL ?_ _ rfl | refine agree.maskS rfl ?_)
      · exact ⟨rfl, trivial⟩
      · exact ⟨hB, hm0_0, hm3_0, (by omega), (upTo_succ hq (any_end (by omega) (not_f hc4))), trivial⟩
      · first | omega | (dsimp only; omega)
   ·
    try with_reducible replace hc2 := of_decide_eq_false hc2
    refine WC_exit ?_
    refine hK40 _ _ ?_
    clear hK50 K49
    clear hJ46 J45
    clear hK40 K39
    refine WC_seq (fun K77 hK78 => ?_)
    refine WC_region ?_
    refine WL_val (dd := some 4) rfl rfl rfl (r_assign (v := .bool true) rfl) ?_
    refine WL_nil ?_
    refine hK78 _ _ ?_
    clear hK78 K77
    refine WC_ret ?_
    repeat (first | refine thenQ_ret ?_ | refine blockQ_ret ?_)
    refine ret_t (v := .bool true) rfl ?_
    refine ⟨hB, ?_⟩
    obtain rfl : i = L.length := by omega
    rw [show rightM n L = true from not_f hc0, solvesB_all hq]
    rfl

theorem C_cover_ahead (xa xb : Value) (a b : List Int) (w : World) (ha : SlT encI 1 w xa a) (hb : SlT encI 1 w xb b) (hal : a.length ≤ 1000000) (hbl : b.length ≤ 1000000) :
    Fn Try.prog 109 #[xa, xb] w fun v w' => v = .bool (aheadB a b) := by
 refine Fn_intro (n := 40) Try.func109 rfl rfl (Nat.le_of_ble_eq_true rfl) ?_
 have hB : Below w.heap.size w w := Below.refl _ _
 refine WC_seq (fun K1 hK2 => ?_)
 refine WC_region ?_
 refine WL_val (dd := some 4) rfl rfl rfl (r_assign (v := .bool false) rfl) ?_
 refine WL_nil ?_
 refine hK2 _ _ ?_
 clear hK2 K1
 refine WC_seq (fun K3 hK4 => ?_)
 refine WC_seq (fun K5 hK6 => ?_)
 refine WC_region ?_
 refine WL_val (dd := some 6) rfl rfl rfl (r_move (v := xa) rfl) ?_
 refine WL_val (dd := some 7) rfl rfl rfl (r_lenS (v := xa) rfl (Below.slT hB ha) tb_el57) ?_
 refine WL_val (dd := some 8) rfl rfl rfl (r_move (v := xb) rfl) ?_
 refine WL_val (dd := some 9) rfl rfl rfl (r_lenS (v := xb) rfl (Below.slT hB hb) tb_el57) ?_
 refine WL_val (dd := some 10) rfl rfl rfl (r_neq rfl rfl) ?_
 refine WL_nil ?_
 refine hK6 _ _ ?_
 clear hK6 K5
 refine WC_cond (b := _) rfl (fun hc0 => ?_) (fun hc0 => ?_)
 ·
  try with_reducible replace hc0 := of_decide_eq_true hc0
  refine WC_seq (fun K7 hK8 => ?_)
  refine WC_region ?_
  refine WL_val (dd := some 11) rfl rfl rfl (r_move (v := xa) rfl) ?_
  refine WL_val (dd := some 12) rfl rfl rfl (r_lenS (v := xa) rfl (Below.slT hB ha) tb_el57) ?_
  refine WL_val (dd := some 13) rfl rfl rfl (r_move (v := xb) rfl) ?_
  refine WL_val (dd := some 14) rfl rfl rfl (r_lenS (v := xb) rfl (Below.slT hB hb) tb_el57) ?_
  refine WL_val (dd := some 15) rfl rfl rfl (r_lss rfl rfl) ?_
  refine WL_val (dd := some 4) rfl rfl rfl (r_assign (v := .bool _) rfl) ?_
  refine WL_nil ?_
  refine hK8 _ _ ?_
  clear hK8 K7
  refine WC_ret ?_
  repeat (first | refine thenQ_ret ?_ | refine blockQ_ret ?_)
  try clear hK4 K3
  refine ret_t (v := .bool _) rfl ?_
  refine ⟨hB, ?_⟩
  exact ah_r0 hc0
 ·
  try with_reducible replace hc0 := of_decide_eq_false hc0
  refine WC_skip ?_
  refine hK4 _ _ ?_
  clear hK4 K3
  refine WC_seq (fun K9 hK10 => ?_)
  refine WC_seq (fun K11 hK12 => ?_)
  refine WC_region ?_
  refine WL_val (dd := some 16) rfl rfl rfl (r_move (v := xa) rfl) ?_
  refine WL_val (dd := some 17) rfl rfl rfl (r_lenS (v := xa) rfl (Below.slT hB ha) tb_el57) ?_
  refine WL_val (dd := some 18) rfl rfl rfl (r_move (v := .int .i64 0) rfl) ?_
  refine WL_nil ?_
  refine hK12 _ _ ?_
  clear hK12 K11
  refine WC_block ?_
  refine WC_loop (σ := (Nat)) [4, 5, 18, 19, 20, 21, 22, 23, 24, 25, 26, 27, 28, 29, 30, 31, 32, 33, 34, 35, 36, 37, 38, 39] (fun k => [(18, .int .i64 (k : Int))]) (fun k W => (Below w.heap.size w W) ∧ (k ≤ a.length) ∧ (∀ q, q < k → a.getD q 0 = b.getD q 0) ∧ (True)) (fun k => a.length - k) (0) ⟨rfl, trivial⟩ ⟨hB, (Nat.zero_le _), upTo_zero, trivial⟩ ?_
  clear hB
  rintro k g14 W13 ⟨hB, hk, hq, _⟩ J15 hJ16
  refine WC_seq (fun K17 hK18 => ?_)
  refine WC_region ?_
  refine WL_val (dd := some 19) rfl rfl rfl (r_lss rfl rfl) ?_
  refine WL_nil ?_
  refine hK18 _ _ ?_
  clear hK18 K17
  refine WC_seq (fun K19 hK20 => ?_)
  refine WC_cond (b := _) rfl (fun hc1 => ?_) (fun hc1 => ?_)
  ·
   try with_reducible replace hc1 := of_decide_eq_true hc1
   refine WC_skip ?_
   refine hK20 _ _ ?_
   clear hK20 K19
   refine WC_seq (fun K21 hK22 => ?_)
   refine WC_block ?_
   refine WC_seq (fun K23 hK24 => ?_)
   refine WC_region ?_
   refine WL_val (dd := some 20) rfl rfl rfl (r_move (v := .int .i64 _) rfl) ?_
   refine WL_val (dd := some 5) rfl rfl rfl (r_assign (v := .int .i64 _) rfl) ?_
   refine WL_nil ?_
   refine hK24 _ _ ?_
   clear hK24 K23
   refine WC_seq (fun K25 hK26 => ?_)
   refine WC_draw Ext tb_mix (fun W27 hE28 => ?_)
   replace hB := below_ext hB hE28 (Nat.le_refl _)
   have hS := Ext.refl W27
   refine WT_take (dd := some 21) 0 rfl (by kernel_rfl) (by kernel_rfl) (by kernel_rfl) rfl rfl rfl (fun _wq _hq => r_move (v := xa) rfl) hS ?_
   refine WT_take (dd := some 22) 1 rfl (by kernel_rfl) (by kernel_rfl) (by kernel_rfl) rfl rfl rfl (fun _wq _hq => r_move (v := .int .i64 _) rfl) hS ?_
   refine WT_take (dd := some 23) 2 rfl (by kernel_rfl) (by kernel_rfl) (by kernel_rfl) rfl rfl rfl (fun _wq hq => r_idxS (v := xa) rfl (hq.slT (Below.slT hB ha)) rfl tb_el57 (by omega) (by first | omega | (simp only [flagsTo_len, litsTo_len, firstF_len, ptF_len, setF_len]; omega))) hS ?_
   refine WT_take (dd := some 24) 3 rfl (by kernel_rfl) (by kernel_rfl) (by kernel_rfl) rfl rfl rfl (fun _wq hq => r_load1 (v := .int .i64 _) rfl tb_sc3 (SlT.cell (hq.slT (Below.slT hB ha)) encI_len 0 (by omega) (by first | omega | (simp only [flagsTo_len, litsTo_len, firstF_len, ptF_len, setF_len]; omega)) 0 rfl)) hS ?_
   refine WT_take (dd := some 25) 4 rfl (by kernel_rfl) (by kernel_rfl) (by kernel_rfl) rfl rfl rfl (fun _wq _hq => r_move (v := xb) rfl) hS ?_
   refine WT_take (dd := some 26) 5 rfl (by kernel_rfl) (by kernel_rfl) (by kernel_rfl) rfl rfl rfl (fun _wq _hq => r_move (v := .int .i64 _) rfl) hS ?_
   refine WT_take (dd := some 27) 6 rfl (by kernel_rfl) (by kernel_rfl) (by kernel_rfl) rfl rfl rfl (fun _wq hq => r_idxS (v := xb) rfl (hq.slT (Below.slT hB hb)) rfl tb_el57 (by omega) (by first | omega | (simp only [flagsTo_len, litsTo_len, firstF_len, ptF_len, setF_len]; omega))) hS ?_
   refine WT_take (dd := some 28) 7 rfl (by kernel_rfl) (by kernel_rfl) (by kernel_rfl) rfl rfl rfl (fun _wq hq => r_load1 (v := .int .i64 _) rfl tb_sc3 (SlT.cell (hq.slT (Below.slT hB hb)) encI_len 0 (by omega) (by first | omega | (simp only [flagsTo_len, litsTo_len, firstF_len, ptF_len, setF_len]; omega)) 0 rfl)) hS ?_
   refine WT_take (dd := some 29) 8 rfl (by kernel_rfl) (by kernel_rfl) (by kernel_rfl) rfl rfl rfl (fun _wq _hq => r_neq rfl rfl) hS ?_
   refine WT_done (by kernel_rfl) ?_
   refine hK26 _ _ ?_
   clear hK26 K25
   refine WC_cond (b := _) rfl (fun hc2 => ?_) (fun hc2 => ?_)
   ·
    try with_reducible replace hc2 := of_decide_eq_true hc2
    refine WC_seq (fun K29 hK30 => ?_)
    refine WC_draw Ext tb_mix (fun W31 hE32 => ?_)
    replace hB := below_ext hB hE32 (Nat.le_refl _)
    have hS := Ext.refl W31
    refine WT_take (dd := some 30) 0 rfl (by kernel_rfl) (by kernel_rfl) (by kernel_rfl) rfl rfl rfl (fun _wq _hq => r_move (v := xa) rfl) hS ?_
    refine WT_take (dd := some 31) 1 rfl (by kernel_rfl) (by kernel_rfl) (by kernel_rfl) rfl rfl rfl (fun _wq _hq => r_move (v := .int .i64 _) rfl) hS ?_
    refine WT_take (dd := some 32) 2 rfl (by kernel_rfl) (by kernel_rfl) (by kernel_rfl) rfl rfl rfl (fun _wq hq => r_idxS (v := xa) rfl (hq.slT (Below.slT hB ha)) rfl tb_el57 (by omega) (by first | omega | (simp only [flagsTo_len, litsTo_len, firstF_len, ptF_len, setF_len]; omega))) hS ?_
    refine WT_take (dd := some 33) 3 rfl (by kernel_rfl) (by kernel_rfl) (by kernel_rfl) rfl rfl rfl (fun _wq hq => r_load1 (v := .int .i64 _) rfl tb_sc3 (SlT.cell (hq.slT (Below.slT hB ha)) encI_len 0 (by omega) (by first | omega | (simp only [flagsTo_len, litsTo_len, firstF_len, ptF_len, setF_len]; omega)) 0 rfl)) hS ?_
    refine WT_take (dd := some 34) 4 rfl (by kernel_rfl) (by kernel_rfl) (by kernel_rfl) rfl rfl rfl (fun _wq _hq => r_move (v := xb) rfl) hS ?_
    refine WT_take (dd := some 35) 5 rfl (by kernel_rfl) (by kernel_rfl) (by kernel_rfl) rfl rfl rfl (fun _wq _hq => r_move (v := .int .i64 _) rfl) hS ?_
    refine WT_take (dd := some 36) 6 rfl (by kernel_rfl) (by kernel_rfl) (by kernel_rfl) rfl rfl rfl (fun _wq hq => r_idxS (v := xb) rfl (hq.slT (Below.slT hB hb)) rfl tb_el57 (by omega) (by first | omega | (simp only [flagsTo_len, litsTo_len, firstF_len, ptF_len, setF_len]; omega))) hS ?_
    refine WT_take (dd := some 37) 7 rfl (by kernel_rfl) (by kernel_rfl) (by kernel_rfl) rfl rfl rfl (fun _wq hq => r_load1 (v := .int .i64 _) rfl tb_sc3 (SlT.cell (hq.slT (Below.slT hB hb)) encI_len 0 (by omega) (by first | omega | (simp only [flagsTo_len, litsTo_len, firstF_len, ptF_len, setF_len]; omega)) 0 rfl)) hS ?_
    refine WT_take (dd := some 38) 8 rfl (by kernel_rfl) (by kernel_rfl) (by kernel_rfl) rfl rfl rfl (fun _wq _hq => r_lss rfl rfl) hS ?_
    refine WT_take (dd := some 4) 9 rfl (by kernel_rfl) (by kernel_rfl) (by kernel_rfl) rfl rfl rfl (fun _wq _hq => r_assign (v := .bool _) rfl) hS ?_
    refine WT_done (by kernel_rfl) ?_
    refine hK30 _ _ ?_
    clear hK30 K29
    refine WC_ret ?_
    repeat (first | refine thenQ_ret ?_ | refine blockQ_ret ?_)
    try clear hK22 K21
    try clear hJ16 J15
    try clear hK10 K9
    refine ret_t (v := .bool _) rfl ?_
    refine ⟨hB, ?_⟩
    exact ah_r1 (k := k) (by omega) (by omega) hq hc2
   ·
    try with_reducible replace hc2 := of_decide_eq_false hc2
    refine WC_skip ?_
    refine hK22 _ _ ?_
    clear hK22 K21
    refine WC_region ?_
    refine WL_val (dd := some 39) rfl rfl rfl (r_addI rfl rfl (by omega) (by omega)) ?_
    refine WL_val (dd := some 18) rfl rfl rfl (r_move (v := .int .i64 _) rfl) ?_
    refine WL_nil ?_
    refine hJ16 _ _ (k + 1) ?_ ?_ ?_ ?_
    · repeat (first | exact agree.mask _ _ _ | refine agree.updo ?_ rfl _ | refine agree.updL ?_ _ rfl | refine agree.maskS rfl ?_)
    · exact ⟨rfl, trivial⟩
    · exact ⟨hB, (by omega), (upTo_succ hq (Decidable.of_not_not hc2)), trivial⟩
    · first | omega | (dsimp only; omega)
  ·
   try with_reducible replace hc1 := of_decide_eq_false hc1
   refine WC_exit ?_
   refine hK10 _ _ ?_
   clear hK20 K19
   clear hJ16 J15
   clear hK10 K9
   refine WC_seq (fun K33 hK34 => ?_)
   refine WC_region ?_
   refine WL_val (dd := some 4) rfl rfl rfl (r_assign (v := .bool false) rfl) ?_
   refine WL_nil ?_
   refine hK34 _ _ ?_
   clear hK34 K33
   refine WC_ret ?_
   repeat (first | refine thenQ_ret ?_ | refine blockQ_ret ?_)
   refine ret_t (v := .bool false) rfl ?_
   refine ⟨hB, ?_⟩
   exact ah_r2 (k := k) (by omega) (by omega) hq

theorem C_cover_word (xa : Value) (a : List Int) (w : World) (ha : SlT encI 1 w xa a) (hal : a.length ≤ 4000) (hsm : ∀ x, x ∈ a → 0 ≤ x ∧ x < 65536) :
    Fn Try.prog 108 #[xa] w fun v w' => v = keyW (wordL a) := by
 refine Fn_intro (n := 23) Try.func108 rfl rfl (Nat.le_of_ble_eq_true rfl) ?_
 have hB : Below w.heap.size w w := Below.refl _ _
 refine WC_seq (fun K1 hK2 => ?_)
 refine WC_region ?_
 refine WL_val (dd := some 2) rfl rfl rfl (r_assign (v := .string _) rfl) ?_
 refine WL_nil ?_
 refine hK2 _ _ ?_
 clear hK2 K1
 refine WC_seq (fun K3 hK4 => ?_)
 refine WC_region ?_
 refine WL_val (dd := some 3) rfl rfl rfl (r_assign (v := .slice none 0 0) rfl) ?_
 refine WL_nil ?_
 refine hK4 _ _ ?_
 clear hK4 K3
 refine WC_seq (fun K5 hK6 => ?_)
 refine WC_seq (fun K7 hK8 => ?_)
 refine WC_region ?_
 refine WL_val (dd := some 6) rfl rfl rfl (r_move (v := xa) rfl) ?_
 refine WL_val (dd := some 7) rfl rfl rfl (r_lenS (v := xa) rfl (Below.slT hB ha) tb_el57) ?_
 refine WL_val (dd := some 8) rfl rfl rfl (r_move (v := .int .i64 0) rfl) ?_
 refine WL_nil ?_
 refine hK8 _ _ ?_
 clear hK8 K7
 refine WC_block ?_
 refine WC_loop (σ := (Nat) × (Value)) [3, 5, 8, 9, 10, 11, 12, 13, 14, 15, 16, 17, 18, 19, 20] (fun (k, v0) => [(8, .int .i64 (k : Int)), (3, v0)]) (fun sg W => match sg with | (k, v0) => (Below w.heap.size w W) ∧ (OwT encY 1 5 W w.heap.size v0 (wordI (a.take k))) ∧ (k ≤ a.length) ∧ (True)) (fun (k, v0) => a.length - k) ((0, .slice none 0 0)) ⟨rfl, rfl, trivial⟩ ⟨hB, OwT.nil, (Nat.zero_le _), trivial⟩ ?_
 clear hB
 rintro ⟨k, v0⟩ g10 W9 ⟨hB, ho, hk, _⟩ J11 hJ12
 refine WC_seq (fun K13 hK14 => ?_)
 refine WC_region ?_
 refine WL_val (dd := some 9) rfl rfl rfl (r_lss rfl rfl) ?_
 refine WL_nil ?_
 refine hK14 _ _ ?_
 clear hK14 K13
 refine WC_seq (fun K15 hK16 => ?_)
 refine WC_cond (b := _) rfl (fun hc0 => ?_) (fun hc0 => ?_)
 ·
  try with_reducible replace hc0 := of_decide_eq_true hc0
  refine WC_skip ?_
  refine hK16 _ _ ?_
  clear hK16 K15
  refine WC_seq (fun K17 hK18 => ?_)
  refine WC_block ?_
  refine WC_seq (fun K19 hK20 => ?_)
  refine WC_region ?_
  refine WL_val (dd := some 10) rfl rfl rfl (r_idxS (v := xa) rfl (Below.slT hB ha) rfl tb_el57 (by omega) (by first | omega | (simp only [flagsTo_len, litsTo_len, firstF_len, ptF_len, setF_len]; omega))) ?_
  refine WL_val (dd := some 11) rfl rfl rfl (r_load1 (v := .int .i64 _) rfl tb_sc3 (SlT.cell (Below.slT hB ha) encI_len 0 (by omega) (by first | omega | (simp only [flagsTo_len, litsTo_len, firstF_len, ptF_len, setF_len]; omega)) 0 rfl)) ?_
  refine WL_val (dd := some 5) rfl rfl rfl (r_assign (v := .int .i64 _) rfl) ?_
  refine WL_nil ?_
  refine hK20 _ _ ?_
  clear hK20 K19
  have hx0 := (hsm (a.getD k 0) (getD_mem (by omega))).1
  have hwl : (wordI (a.take k)).length ≤ 8000 := by rw [wordI_len, List.length_take]; omega
  refine WC_region ?_
  refine WL_val (dd := some 12) rfl rfl rfl (r_move (v := v0) rfl) ?_
  refine WL_val (dd := some 13) rfl rfl rfl (r_move (v := .int .i64 _) rfl) ?_
  refine WL_val (dd := some 14) rfl rfl rfl (r_shr8 rfl rfl hx0) ?_
  refine WL_val (dd := some 15) rfl rfl rfl (r_byte rfl Try.underlying3 Try.underlying5) ?_
  refine WL_val (dd := some 16) rfl rfl rfl (r_move (v := .int .i64 _) rfl) ?_
  refine WL_val (dd := some 17) rfl rfl rfl (r_byte rfl Try.underlying3 Try.underlying5) ?_
  refine WL_step (dd := some 18) rfl rfl rfl (Y_lit2 (u0 := .int .u8 _) (u1 := .int .u8 _) rfl rfl tb_el137 tb_zs5 rfl rfl (by decide) (by decide) (fun b5_6 W21 hb22 hE23 hm5_6 => ?_))
  have lo_b5_6 : w.heap.size ≤ b5_6 := hb22 ▸ (Below.size hB)
  have olt_ho := OwT.lt2 ho
  have hap24 : Apart v0 (.slice (some ⟨b5_6, 0, none⟩) 2 2) := fun j h1 h2 => by cases h2; exact absurd (olt_ho _ h1) (by rw [hb22]; exact Nat.lt_irrefl _)
  clear hb22
  replace hB := below_ext hB hE23 (Nat.le_refl _)
  replace ho := hE23.ow ho
  clear hE23
  have ho5_6 := own_lit2 (enc := encY) (sz := 1) (a0 := _) (a1 := _) hm5_6 rfl rfl rfl rfl lo_b5_6
  clear hm5_6
  refine WL_step (dd := some 19) rfl rfl rfl (Y_appendA (v := v0) (v2 := .slice (some ⟨b5_6, 0, none⟩) 2 2) rfl rfl tb_el137 tb_zs5 (by decide) ho ho5_6.sl (enc_one_encY) (by have := Below.size hB; omega) (by simp; omega) (by simp; omega) (fun v5_7 W25 hG26 ho5_7 hob27 => ?_))
  have hap28 := Apart.app hap24 hob27 ho5_6
  replace ho5_7 := OwT.app (enc := encY) rfl rfl rfl rfl ho5_7
  replace hB := below_grown hB hG26 (Nat.le_refl _) (fun j hj => (OwT.lt ho j hj))
  replace ho5_6 := OwT.grownAp ho5_6 hap24 hG26
  clear hG26
  clear ho
  refine WL_val (dd := some 3) rfl rfl rfl (r_assign (v := v5_7) rfl) ?_
  refine WL_nil ?_
  refine hK18 _ _ ?_
  clear hK18 K17
  refine WC_region ?_
  refine WL_val (dd := some 20) rfl rfl rfl (r_addI rfl rfl (by omega) (by omega)) ?_
  refine WL_val (dd := some 8) rfl rfl rfl (r_move (v := .int .i64 _) rfl) ?_
  refine WL_nil ?_
  refine hJ12 _ _ ((k + 1, v5_7)) ?_ ?_ ?_ ?_
  · repeat (first | exact agree.mask _ _ _ | refine agree.updo ?_ rfl _ | refine agree.updL ?_ _ rfl | refine agree.maskS rfl ?_)
  · exact ⟨rfl, rfl, trivial⟩
  · exact ⟨hB, (by rw [← wordI_snoc a k (by omega)]; exact ho5_7), (by omega), trivial⟩
  · show a.length - (k + 1) < a.length - k; omega
 ·
  try with_reducible replace hc0 := of_decide_eq_false hc0
  refine WC_exit ?_
  refine hK6 _ _ ?_
  clear hK16 K15
  clear hJ12 J11
  clear hK6 K5
  refine WC_seq (fun K29 hK30 => ?_)
  obtain rfl : k = a.length := by omega
  rw [List.take_length] at ho
  refine WC_region ?_
  refine WL_val (dd := some 21) rfl rfl rfl (r_move (v := v0) rfl) ?_
  refine WL_val (dd := some 22) rfl rfl rfl (r_bytesStr (v := v0) rfl ho.sl Try.underlying137 Try.underlying5 Try.underlying9) ?_
  refine WL_val (dd := some 2) rfl rfl rfl (r_assign (v := keyW _) rfl) ?_
  refine WL_nil ?_
  refine hK30 _ _ ?_
  clear hK30 K29
  refine WC_ret ?_
  repeat (first | refine thenQ_ret ?_ | refine blockQ_ret ?_)
  refine ret_t (v := keyW _) rfl ?_
  refine ⟨hB, ?_⟩
  rfl

theorem C_ask (N o : Nat) (p n : Int) (l : List Rw) (ks : List (List Int)) (bl bp bmet bm bq b4 bs : Nat) (xl xp rv xq s1 s2 : Value) (vs : List Value) (lq : List Int) (w : World) (hN0 : N ≤ w.heap.size) (ho : o < 8) (hp : 0 ≤ p ∧ p.toNat < 2 ^ n.toNat) (hl4 : l.length ≤ 4000) (hlr : RowB l) (hrr : ∀ k, k < l.length → rightB (l.getD k ⟨⟨0, 0⟩, 0⟩).c.m (l.getD k ⟨⟨0, 0⟩, 0⟩).c.v n = true) (hnd : ks.Nodup) (hkr : ∀ x, x ∈ ks → RowOf l x) (hkl : ks.length ≤ 2000) (hl : SlT encR 3 w xl l) (hbl : At w bl #[xl] 65) (hbp : At w bp #[xp] 62) (hpo : OwT encS 4 24 w N xp (ptsF l n l.length)) (hbm : At w bmet #[.map (some bq)] 113) (hq : MapT keyW Value.bool w bq (allT ((ks).map wordL))) (hb4 : At w b4 #[.int .i64 0, .slice none 0 0] 56) (hbs : At w bs #[.int .i64 n, s1, s2] 64) (hxq : OwT encI 1 3 w N xq lq) (hmm : At w bm #[.int .i64 (l.length : Int), rv] 56) (hrv : OwT encV 1 57 w N rv vs) (hLO : LO 3 N w vs (sortM ks)) (lom : N ≤ bm) (loq : N ≤ bq) (hne : b4 ≠ bm) :
    FnG Try.prog 106 #[.int .i64 (o : Int), .int .i64 p, .pointer (some ⟨bl, 0, none⟩), .pointer (some ⟨bp, 0, none⟩), .pointer (some ⟨bmet, 0, none⟩), .pointer (some ⟨bm, 0, none⟩)] w fun v w' => Below N w w' ∧ At w' bl #[xl] 65 ∧ At w' bp #[xp] 62 ∧ OwT encS 4 24 w' N xp (ptsF l n l.length) ∧ At w' bmet #[.map (some bq)] 113 ∧ MapT keyW Value.bool w' bq (allT ((insK ks (rowC l o p.toNat)).map wordL)) ∧ At w' b4 #[.int .i64 0, .slice none 0 0] 56 ∧ At w' bs #[.int .i64 n, s1, s2] 64 ∧ OwT encI 1 3 w' N xq lq ∧ ∃ rv' vs', At w' bm #[.int .i64 (l.length : Int), rv'] 56 ∧ OwT encV 1 57 w' N rv' vs' ∧ LO 3 N w' vs' (sortM (insK ks (rowC l o p.toNat))) := by
 refine FnG_intro (n := 77) Try.func106 rfl rfl (Nat.le_of_ble_eq_true rfl) ?_
 have hB : Below N w w := Below.refl _ _
 have hpl := ptsF_len (l := l) (n := n) (Nat.le_refl _)
 have hkl2 := sortM_len ks
 have hvl := hLO.len
 refine WC_seq (fun K1 hK2 => ?_)
 have hBo3 := hB
 replace hB := Below.refl w.heap.size w
 refine WC_region ?_
 refine WL_val (dd := some 8) rfl rfl rfl (r_assign (v := .slice none 0 0) rfl) ?_
 refine WL_nil ?_
 refine hK2 _ _ ?_
 clear hK2 K1
 refine WC_seq (fun K4 hK5 => ?_)
 refine WC_seq (fun K6 hK7 => ?_)
 refine WC_region ?_
 refine WL_val (dd := some 13) rfl rfl rfl (r_load1 (v := xl) rfl tb_sc65 (At.cell (Below.atI hB hbl) rfl)) ?_
 refine WL_val (dd := some 14) rfl rfl rfl (r_lenS (v := xl) rfl (Below.slT hB hl) tb_el65) ?_
 refine WL_val (dd := some 15) rfl rfl rfl (r_move (v := .int .i64 0) rfl) ?_
 refine WL_nil ?_
 refine hK7 _ _ ?_
 clear hK7 K6
 refine WC_block ?_
 refine WC_loop (σ := (Nat) × (Value)) [8, 9, 10, 15, 16, 17, 18, 19, 20, 21, 22, 23, 24, 25, 26, 27, 28, 29, 30, 31, 32, 33, 34, 35, 36, 37, 38] (fun (k, v0) => [(15, .int .i64 (k : Int)), (8, v0)]) (fun sg W => match sg with | (k, v0) => (Below w.heap.size w W) ∧ (OwT encI 1 3 W w.heap.size v0 (rowTo l o p.toNat k)) ∧ (k ≤ l.length) ∧ (True)) (fun (k, v0) => l.length - k) ((0, .slice none 0 0)) ⟨rfl, rfl, trivial⟩ ⟨hB, OwT.nil, (Nat.zero_le _), trivial⟩ ?_
 clear hB
 rintro ⟨k, v0⟩ g9 W8 ⟨hB, ho, hk, _⟩ J10 hJ11
 refine WC_seq (fun K12 hK13 => ?_)
 refine WC_region ?_
 refine WL_val (dd := some 16) rfl rfl rfl (r_lss rfl rfl) ?_
 refine WL_nil ?_
 refine hK13 _ _ ?_
 clear hK13 K12
 refine WC_seq (fun K14 hK15 => ?_)
 refine WC_cond (b := _) rfl (fun hc0 => ?_) (fun hc0 => ?_)
 ·
  try with_reducible replace hc0 := of_decide_eq_true hc0
  refine WC_skip ?_
  refine hK15 _ _ ?_
  clear hK15 K14
  refine WC_seq (fun K16 hK17 => ?_)
  refine WC_block ?_
  refine WC_seq (fun K18 hK19 => ?_)
  refine WC_region ?_
  refine WL_val (dd := some 17) rfl rfl rfl (r_move (v := .int .i64 _) rfl) ?_
  refine WL_val (dd := some 18) rfl rfl rfl (r_idxS (v := xl) rfl (Below.slT hB hl) rfl tb_el65 (by omega) (by first | omega | (simp only [flagsTo_len, litsTo_len, firstF_len, ptF_len, setF_len]; omega))) ?_
  refine WL_val (dd := some 19) rfl rfl rfl (r_load3 rfl tb_ag79 (SlT.cell (Below.slT hB hl) encR_len ⟨⟨0, 0⟩, 0⟩ (by omega) (by first | omega | (simp only [flagsTo_len, litsTo_len, firstF_len, ptF_len, setF_len]; omega)) 0 rfl) (SlT.cell (Below.slT hB hl) encR_len ⟨⟨0, 0⟩, 0⟩ (by omega) (by first | omega | (simp only [flagsTo_len, litsTo_len, firstF_len, ptF_len, setF_len]; omega)) 1 rfl) (SlT.cell (Below.slT hB hl) encR_len ⟨⟨0, 0⟩, 0⟩ (by omega) (by first | omega | (simp only [flagsTo_len, litsTo_len, firstF_len, ptF_len, setF_len]; omega)) 2 rfl)) ?_
  refine WL_step (dd := some 10) rfl rfl rfl (Y_alloc tb_z79 rfl (fun b3_3 W20 hb21 hE22 hm3_3 => ?_))
  have lo_b3_3 : w.heap.size ≤ b3_3 := hb21 ▸ (Below.size hB)
  clear hb21
  replace hB := below_ext hB hE22 (Nat.le_refl _)
  replace ho := hE22.ow ho
  clear hE22
  refine WL_val (dd := some 9) rfl rfl rfl (r_assign (v := .int .i64 _) rfl) ?_
  refine WL_step (dd := none) rfl rfl rfl (Y_storeW rfl rfl tb_ag79 rfl hm3_3 rfl (by rfl) (fun W23 hG24 hm25 => ?_))
  replace hB := below_grown hB hG24 (Nat.le_refl _) (fun j hj => by cases hj; exact lo_b3_3)
  replace ho := OwT.grownAt ho hm3_3 hG24 (by decide)
  clear hG24 hm3_3
  have hm3_3 := hm25
  clear hm25
  refine WL_nil ?_
  refine hK19 _ _ ?_
  clear hK19 K18
  refine WC_seq (fun K26 hK27 => ?_)
  obtain ⟨hb1, hb2, hb3⟩ := hlr.get (k := k) (by omega)
  refine WC_region ?_
  refine WL_val (dd := some 20) rfl rfl rfl (r_fieldAddr (b := _) (o := _) rfl tb_fo79_1) ?_
  refine WL_val (dd := some 21) rfl rfl rfl (r_load1 (v := .int .u8 _) rfl tb_sc5 (At.cell hm3_3 rfl)) ?_
  refine WL_val (dd := some 22) rfl rfl rfl (r_move (v := .int .i64 _) rfl) ?_
  refine WL_val (dd := some 23) rfl rfl rfl (r_shr rfl rfl (by omega) (by simp only [IntKind.bits]; omega)) ?_
  refine WL_val (dd := some 24) rfl rfl rfl (r_and (n := 1) rfl rfl rfl (by show (l.getD k ⟨⟨0, 0⟩, 0⟩).o / 2 ^ ((o : Nat) : Int).toNat < 256; exact Nat.lt_of_le_of_lt (Nat.div_le_self _ _) hb3) (by decide)) ?_
  refine WL_val (dd := some 25) rfl rfl rfl (r_eql rfl rfl) ?_
  refine WL_split (dd := some 26) rfl rfl rfl (r_move (v := .bool _) rfl) (fun hs4_6 => ?_) (fun hs4_6 => ?_)
  ·
   try with_reducible replace hs4_6 := of_decide_eq_true hs4_6
   refine WL_val (dd := some 27) rfl rfl rfl (r_load1 (v := xp) rfl tb_sc62 (At.cell (Below.atI hB hbp) rfl)) ?_
   refine WL_val (dd := some 28) rfl rfl rfl (r_move (v := .int .i64 _) rfl) ?_
   refine WL_val (dd := some 29) rfl rfl rfl (r_idxS (v := xp) rfl ((Below.ow hB hpo)).sl rfl tb_el62 (by omega) (by first | omega | (simp only [flagsTo_len, litsTo_len, firstF_len, ptF_len, setF_len]; omega))) ?_
   refine WL_val (dd := some 30) rfl rfl rfl (r_load4 rfl tb_ag24 (SlT.cell ((Below.ow hB hpo)).sl encS_len 0 (by omega) (by first | omega | (simp only [flagsTo_len, litsTo_len, firstF_len, ptF_len, setF_len]; omega)) 0 rfl) (SlT.cell ((Below.ow hB hpo)).sl encS_len 0 (by omega) (by first | omega | (simp only [flagsTo_len, litsTo_len, firstF_len, ptF_len, setF_len]; omega)) 1 rfl) (SlT.cell ((Below.ow hB hpo)).sl encS_len 0 (by omega) (by first | omega | (simp only [flagsTo_len, litsTo_len, firstF_len, ptF_len, setF_len]; omega)) 2 rfl) (SlT.cell ((Below.ow hB hpo)).sl encS_len 0 (by omega) (by first | omega | (simp only [flagsTo_len, litsTo_len, firstF_len, ptF_len, setF_len]; omega)) 3 rfl)) ?_
   refine WL_val (dd := some 31) rfl rfl rfl (r_move (v := .int .i64 _) rfl) ?_
   refine WL_call (dd := some 32) rfl rfl rfl (r_call2 tb_c107 (v0 := .agg #[_, _, _, _]) rfl (v1 := .int .i64 _) rfl) (C_set_Has _ _ _) (fun v4_12 W28 hE29 hP4_12 => ?_)
   have hsz30 := (Below.size hB)
   replace hB := below_ext hB hE29 (Nat.le_refl _)
   replace ho := hE29.ow ho
   replace hm3_3 := hE29.at hm3_3
   clear hE29
   clear hsz30
   obtain rfl := hP4_12
   refine WL_val (dd := some 33) rfl rfl rfl (r_pick_t rfl (v := .bool _) rfl) ?_
   refine WL_nil ?_
   refine hK27 _ _ ?_
   clear hK27 K26
   refine WC_cond (b := _) rfl (fun hc1 => ?_) (fun hc1 => ?_)
   ·
    try with_reducible replace hc1 := of_decide_eq_true hc1
    have hrl := rowTo_len l o p.toNat k
    refine WC_region ?_
    refine WL_val (dd := some 34) rfl rfl rfl (r_move (v := v0) rfl) ?_
    refine WL_val (dd := some 35) rfl rfl rfl (r_move (v := .int .i64 _) rfl) ?_
    refine WL_step (dd := some 36) rfl rfl rfl (Y_lit1 (u := .int .i64 _) rfl tb_el57 tb_zs3 rfl (by decide) (by decide) (fun b5_2 W31 hb32 hE33 hm5_2 => ?_))
    have lo_b5_2 : w.heap.size ≤ b5_2 := hb32 ▸ (Below.size hB)
    have no_v0_b5_2 := OwT.neB (b := b5_2) ho (Nat.le_of_eq hb32.symm)
    clear hb32
    replace hB := below_ext hB hE33 (Nat.le_refl _)
    replace ho := hE33.ow ho
    replace hm3_3 := hE33.at hm3_3
    clear hE33
    refine WL_step (dd := some 37) rfl rfl rfl (Y_append (v := v0) (v2 := .slice (some ⟨b5_2, 0, none⟩) 1 1) rfl rfl tb_el57 tb_zs3 (by decide) ho (sl_lit1 hm5_2 rfl) rfl (by have := Below.size hB; omega) (by first | omega | (simp; omega) | (simp only [flagsTo_len, litsTo_len, firstF_len, ptF_len, setF_len]; omega)) (by first | omega | (simp; omega) | (simp only [flagsTo_len, litsTo_len, firstF_len, ptF_len, setF_len]; omega)) (fun v5_3 W34 hG35 ho5_3 => ?_))
    replace ho5_3 := OwT.snoc (enc := encI) (x := _) rfl rfl rfl rfl ho5_3
    clear hm5_2
    replace hB := below_grown hB hG35 (Nat.le_refl _) (fun j hj => (OwT.lt ho j hj))
    replace hm3_3 := At.grownOw hm3_3 ho hG35 (by decide)
    clear hG35
    clear ho
    refine WL_val (dd := some 8) rfl rfl rfl (r_assign (v := v5_3) rfl) ?_
    refine WL_nil ?_
    refine hK17 _ _ ?_
    clear hK17 K16
    refine WC_region ?_
    refine WL_val (dd := some 38) rfl rfl rfl (r_addI rfl rfl (by omega) (by omega)) ?_
    refine WL_val (dd := some 15) rfl rfl rfl (r_move (v := .int .i64 _) rfl) ?_
    refine WL_nil ?_
    refine hJ11 _ _ ((k + 1, v5_3)) ?_ ?_ ?_ ?_
    · repeat (first | exact agree.mask _ _ _ | refine agree.updo ?_ rfl _ | refine agree.updL ?_ _ rfl | refine agree.maskS rfl ?_)
    · exact ⟨rfl, rfl, trivial⟩
    · exact ⟨hB, (by first | (rw [← ask_t (k := k) (o := o) (by omega) (hrr k (by omega)) hp hs4_6 hc1]; exact ho5_3) | (rw [← ask_f1 (k := k) (o := o) (by omega) (hrr k (by omega)) hp hs4_6 hc1]; exact ho5_3) | (rw [← ask_f2 (k := k) (o := o) hs4_6]; exact ho5_3)), (by omega), trivial⟩
    · show l.length - (k + 1) < l.length - k; omega
   ·
    try with_reducible replace hc1 := of_decide_eq_false hc1
    refine WC_skip ?_
    refine hK17 _ _ ?_
    clear hK17 K16
    refine WC_region ?_
    refine WL_val (dd := some 38) rfl rfl rfl (r_addI rfl rfl (by omega) (by omega)) ?_
    refine WL_val (dd := some 15) rfl rfl rfl (r_move (v := .int .i64 _) rfl) ?_
    refine WL_nil ?_
    refine hJ11 _ _ ((k + 1, v0)) ?_ ?_ ?_ ?_
    · repeat (first | exact agree.mask _ _ _ | refine agree.updo ?_ rfl _ | refine agree.updL ?_ _ rfl | refine agree.maskS rfl ?_)
    · exact ⟨rfl, rfl, trivial⟩
    · exact ⟨hB, (by first | (rw [← ask_t (k := k) (o := o) (by omega) (hrr k (by omega)) hp hs4_6 hc1]; exact ho) | (rw [← ask_f1 (k := k) (o := o) (by omega) (hrr k (by omega)) hp hs4_6 hc1]; exact ho) | (rw [← ask_f2 (k := k) (o := o) hs4_6]; exact ho)), (by omega), trivial⟩
    · show l.length - (k + 1) < l.length - k; omega
  ·
   try with_reducible replace hs4_6 := of_decide_eq_false hs4_6
   refine WL_skip (dd := some 27) rfl rfl rfl ?_
   refine WL_skip (dd := some 28) rfl rfl rfl ?_
   refine WL_skip (dd := some 29) rfl rfl rfl ?_
   refine WL_skip (dd := some 30) rfl rfl rfl ?_
   refine WL_skip (dd := some 31) rfl rfl rfl ?_
   refine WL_skip (dd := some 32) rfl rfl rfl ?_
   refine WL_val (dd := some 33) rfl rfl rfl (r_pick_f rfl (v := .bool false) rfl) ?_
   refine WL_nil ?_
   refine hK27 _ _ ?_
   clear hK27 K26
   refine WC_cond_false rfl ?_
   refine WC_skip ?_
   refine hK17 _ _ ?_
   clear hK17 K16
   refine WC_region ?_
   refine WL_val (dd := some 38) rfl rfl rfl (r_addI rfl rfl (by omega) (by omega)) ?_
   refine WL_val (dd := some 15) rfl rfl rfl (r_move (v := .int .i64 _) rfl) ?_
   refine WL_nil ?_
   refine hJ11 _ _ ((k + 1, v0)) ?_ ?_ ?_ ?_
   · repeat (first | exact agree.mask _ _ _ | refine agree.updo ?_ rfl _ | refine agree.updL ?_ _ rfl | refine agree.maskS rfl ?_)
   · exact ⟨rfl, rfl, trivial⟩
   · exact ⟨hB, (by first | (rw [← ask_t (k := k) (o := o) (by omega) (hrr k (by omega)) hp hs4_6 hc1]; exact ho) | (rw [← ask_f1 (k := k) (o := o) (by omega) (hrr k (by omega)) hp hs4_6 hc1]; exact ho) | (rw [← ask_f2 (k := k) (o := o) hs4_6]; exact ho)), (by omega), trivial⟩
   · show l.length - (k + 1) < l.length - k; omega
 ·
  try with_reducible replace hc0 := of_decide_eq_false hc0
  refine WC_exit ?_
  refine hK5 _ _ ?_
  clear hK15 K14
  clear hJ11 J10
  clear hK5 K4
  refine WC_seq (fun K37 hK38 => ?_)
  obtain rfl : k = l.length := by omega
  have hro : RowOf l (rowC l o p.toNat) := ⟨o, p.toNat, rfl⟩
  have hrl := rowTo_len l o p.toNat l.length
  refine WC_region ?_
  refine WL_val (dd := some 39) rfl rfl rfl (r_move (v := v0) rfl) ?_
  refine WL_call (dd := some 40) rfl rfl rfl (r_call1 tb_c108 (v0 := v0) rfl) (C_cover_word _ (rowTo l o p.toNat l.length) _ ho.sl (by omega) (hro.small hl4)) (fun v7_1 W39 hE40 hP7_1 => ?_)
  have hsz41 := (Below.size hB)
  replace hB := below_ext hB hE40 (Nat.le_refl _)
  replace ho := hE40.ow ho
  clear hE40
  clear hsz41
  obtain rfl := hP7_1
  refine WL_val (dd := some 11) rfl rfl rfl (r_assign (v := .string _) rfl) ?_
  refine WL_nil ?_
  refine hK38 _ _ ?_
  clear hK38 K37
  refine WC_seq (fun K42 hK43 => ?_)
  refine WC_seq (fun K44 hK45 => ?_)
  refine WC_region ?_
  refine WL_val (dd := some 41) rfl rfl rfl (r_load1 (v := .map (some bq)) rfl tb_sc113 (At.cell (Below.atI hB hbm) rfl)) ?_
  refine WL_val (dd := some 42) rfl rfl rfl (r_move (v := .string _) rfl) ?_
  refine WL_val (dd := some 43) rfl rfl rfl (r_lookup (enc := keyW) (encV := Value.bool) (v0 := false) (k := (wordL (rowC l o p.toNat))) rfl rfl tb_mp113 tb_key9 (fun a => ⟨a, rfl⟩) keyW_inj tb_z4 rfl (Below.mapI hB hq)) ?_
  refine WL_nil ?_
  refine hK45 _ _ ?_
  clear hK45 K44
  refine WC_cond (b := _) rfl (fun hc2 => ?_) (fun hc2 => ?_)
  ·
   try with_reducible replace hc2 := of_decide_eq_true hc2
   refine WC_ret ?_
   clear hl
   replace hbl := Below.atI hB hbl
   replace hbp := Below.atI hB hbp
   replace hpo := Below.ow hB hpo
   replace hbm := Below.atI hB hbm
   replace hq := Below.mapI hB hq
   replace hb4 := Below.atI hB hb4
   replace hbs := Below.atI hB hbs
   replace hxq := Below.ow hB hxq
   replace hmm := Below.atI hB hmm
   replace hrv := Below.ow hB hrv
   replace hLO := LO.below hB hLO
   have hzs := Nat.le_trans hN0 (Below.size hBo3)
   replace ho := OwT.mono ho hzs
   replace hB := Below.trans hBo3 (Below.mono hB hzs)
   clear hBo3 hzs
   repeat (first | refine thenQ_ret ?_ | refine blockQ_ret ?_)
   try clear hK43 K42
   refine ret_  ?_
   have hin : rowC l o p.toNat ∈ ks := (word_mem hl4 hkr hro).1 (allT_in hc2)
   rw [insK_same hin]
   exact ⟨hB, hbl, hbp, hpo, hbm, hq, hb4, hbs, hxq, rv, vs, hmm, hrv, hLO⟩
  ·
   try with_reducible replace hc2 := of_decide_eq_false hc2
   refine WC_skip ?_
   refine hK43 _ _ ?_
   clear hK43 K42
   refine WC_seq (fun K46 hK47 => ?_)
   clear hl
   replace hbl := Below.atI hB hbl
   replace hbp := Below.atI hB hbp
   replace hpo := Below.ow hB hpo
   replace hbm := Below.atI hB hbm
   replace hq := Below.mapI hB hq
   replace hb4 := Below.atI hB hb4
   replace hbs := Below.atI hB hbs
   replace hxq := Below.ow hB hxq
   replace hmm := Below.atI hB hmm
   replace hrv := Below.ow hB hrv
   replace hLO := LO.below hB hLO
   have hzs := Nat.le_trans hN0 (Below.size hBo3)
   replace ho := OwT.mono ho hzs
   replace hB := Below.trans hBo3 (Below.mono hB hzs)
   clear hBo3 hzs
   have hnr : rowC l o p.toNat ∉ ks := fun h => allT_out hc2 ((word_mem hl4 hkr hro).2 h)
   refine WC_region ?_
   refine WL_val (dd := some 44) rfl rfl rfl (r_load1 (v := .map (some bq)) rfl tb_sc113 (At.cell hbm rfl)) ?_
   refine WL_val (dd := some 45) rfl rfl rfl (r_move (v := .string _) rfl) ?_
   refine WL_step (dd := none) rfl rfl rfl (Y_mapUpdate (enc := keyW) (encV := Value.bool) (k := (wordL (rowC l o p.toNat))) (v := true) rfl rfl rfl tb_mp113 tb_key9 (fun a => ⟨a, rfl⟩) keyW_inj hq (fun W48 hG49 hm50 => ?_))
   replace hbl := At.grownMap hbl hq hG49
   replace hbp := At.grownMap hbp hq hG49
   replace hpo := OwT.grownMap hpo hq hG49
   replace hbm := At.grownMap hbm hq hG49
   replace hb4 := At.grownMap hb4 hq hG49
   replace hbs := At.grownMap hbs hq hG49
   replace hxq := OwT.grownMap hxq hq hG49
   replace hmm := At.grownMap hmm hq hG49
   replace hrv := OwT.grownMap hrv hq hG49
   replace hLO := LO.grownMap hLO hq hG49
   replace hB := below_grown hB hG49 hN0 (fun j hj => by cases hj; exact loq)
   replace ho := OwT.grownMap ho hq hG49
   clear hG49 hq
   have hq := hm50
   clear hm50
   rw [allT_put, word_ins hl4 hkr hro] at hq
   refine WL_nil ?_
   refine hK47 _ _ ?_
   clear hK47 K46
   refine WC_seq (fun K51 hK52 => ?_)
   refine WC_region ?_
   refine WL_val (dd := some 46) rfl rfl rfl (r_fieldAddr (b := _) (o := _) rfl tb_fo56_1) ?_
   refine WL_val (dd := some 47) rfl rfl rfl (r_load1 (v := rv) rfl tb_sc54 (At.cell hmm rfl)) ?_
   refine WL_val (dd := some 48) rfl rfl rfl (r_lenS (v := rv) rfl hrv.sl tb_el54) ?_
   refine WL_val (dd := some 12) rfl rfl rfl (r_assign (v := .int .i64 _) rfl) ?_
   refine WL_nil ?_
   refine hK52 _ _ ?_
   clear hK52 K51
   refine WC_seq (fun K53 hK54 => ?_)
   refine WC_block ?_
   refine WC_loop (σ := (Nat)) [12, 49, 50, 51, 52, 53, 54, 55, 56, 57, 58, 59, 60, 61, 62] (fun i => [(12, .int .i64 (i : Int))]) (fun i W => (At W bl _ 65) ∧ (At W bp _ 62) ∧ (OwT encS 4 24 W N xp _) ∧ (At W bmet _ 113) ∧ (MapT keyW Value.bool W bq _) ∧ (At W b4 _ 56) ∧ (At W bs _ 64) ∧ (OwT encI 1 3 W N xq _) ∧ (At W bm _ 56) ∧ (OwT encV 1 57 W N rv _) ∧ (LO 3 N W vs (sortM ks)) ∧ (Below N w W) ∧ (OwT encI 1 3 W N v0 _) ∧ (i ≤ (sortM ks).length) ∧ (∀ q, i ≤ q → q < (sortM ks).length → aheadB (rowC l o p.toNat) ((sortM ks).getD q []) = true) ∧ (True)) (fun i => i) ((sortM ks).length) ⟨congrArg (fun q : Nat => Value.int .i64 (q : Int)) hvl, trivial⟩ ⟨hbl, hbp, hpo, hbm, hq, hb4, hbs, hxq, hmm, hrv, hLO, hB, ho, (Nat.le_refl _), (fun q h1 h2 => by omega), trivial⟩ ?_
   clear hbl hbp hpo hbm hq hb4 hbs hxq hmm hrv hLO hB ho
   rintro i g56 W55 ⟨hbl, hbp, hpo, hbm, hq, hb4, hbs, hxq, hmm, hrv, hLO, hB, ho, hi, hq2, _⟩ J57 hJ58
   refine WC_seq (fun K59 hK60 => ?_)
   refine WC_seq (fun K61 hK62 => ?_)
   have hsl := sort_len hkr (i - 1)
   refine WC_region ?_
   refine WL_val (dd := some 49) rfl rfl rfl (r_move (v := .int .i64 _) rfl) ?_
   refine WL_val (dd := some 50) rfl rfl rfl (r_gtr rfl rfl) ?_
   refine WL_split (dd := some 51) rfl rfl rfl (r_move (v := .bool _) rfl) (fun hs11_2 => ?_) (fun hs11_2 => ?_)
   ·
    try with_reducible replace hs11_2 := of_decide_eq_true hs11_2
    refine WL_val (dd := some 52) rfl rfl rfl (r_move (v := v0) rfl) ?_
    refine WL_val (dd := some 53) rfl rfl rfl (r_fieldAddr (b := _) (o := _) rfl tb_fo56_1) ?_
    refine WL_val (dd := some 54) rfl rfl rfl (r_load1 (v := rv) rfl tb_sc54 (At.cell hmm rfl)) ?_
    refine WL_val (dd := some 55) rfl rfl rfl (r_move (v := .int .i64 _) rfl) ?_
    refine WL_val (dd := some 56) rfl rfl rfl (r_subI rfl rfl (by omega) (by omega)) ?_
    refine WL_val (dd := some 57) rfl rfl rfl (r_idxS (v := rv) rfl hrv.sl rfl tb_el54 (by omega) (by first | omega | (simp only [flagsTo_len, litsTo_len, firstF_len, ptF_len, setF_len]; omega))) ?_
    refine WL_val (dd := some 58) rfl rfl rfl (r_load1 (v := (vs.getD ((i : Int) - 1).toNat undef)) rfl tb_sc57 (SlT.cell hrv.sl encV_len undef (by omega) (by first | omega | (simp only [flagsTo_len, litsTo_len, firstF_len, ptF_len, setF_len]; omega)) 0 rfl)) ?_
    have hp11_9 : SlT encI 1 W55 ((vs.getD ((i : Int) - 1).toNat undef)) ((sortM ks).getD (i - 1) []) := (by rw [show ((i : Int) - 1).toNat = i - 1 by omega]; exact (LO.ll hLO).get (i - 1) (by omega))
    refine WL_call (dd := some 59) rfl rfl rfl (r_call2 tb_c109 (v0 := v0) rfl (v1 := (vs.getD ((i : Int) - 1).toNat undef)) rfl) (C_cover_ahead _ _ _ _ _ ho.sl hp11_9 (by first | assumption | omega) (by first | assumption | omega)) (fun v11_10 W63 hE64 hP11_10 => ?_)
    have hsz65 := (Nat.le_trans hN0 (Below.size hB))
    replace hbl := hE64.at hbl
    replace hbp := hE64.at hbp
    replace hpo := hE64.ow hpo
    replace hbm := hE64.at hbm
    replace hq := hE64.mapT hq
    replace hb4 := hE64.at hb4
    replace hbs := hE64.at hbs
    replace hxq := hE64.ow hxq
    replace hmm := hE64.at hmm
    replace hrv := hE64.ow hrv
    replace hLO := LO.ext hE64 hLO
    replace hB := below_ext hB hE64 hN0
    replace ho := hE64.ow ho
    replace hp11_9 := hE64.slT hp11_9
    clear hE64
    clear hsz65
    obtain rfl := hP11_10
    refine WL_val (dd := some 60) rfl rfl rfl (r_pick_t rfl (v := .bool _) rfl) ?_
    refine WL_nil ?_
    refine hK62 _ _ ?_
    clear hK62 K61
    refine WC_cond (b := _) rfl (fun hc3 => ?_) (fun hc3 => ?_)
    ·
     try with_reducible replace hc3 := of_decide_eq_true hc3
     refine WC_skip ?_
     refine hK60 _ _ ?_
     clear hK60 K59
     refine WC_block ?_
     refine WC_region ?_
     refine WL_val (dd := some 61) rfl rfl rfl (r_move (v := .int .i64 _) rfl) ?_
     refine WL_val (dd := some 62) rfl rfl rfl (r_subI rfl rfl (by omega) (by omega)) ?_
     refine WL_val (dd := some 12) rfl rfl rfl (r_assign (v := .int .i64 _) rfl) ?_
     refine WL_nil ?_
     refine hJ58 _ _ (i - 1) ?_ ?_ ?_ ?_
     · repeat (first | exact agree.mask _ _ _ | refine agree.updo ?_ rfl _ | refine agree.updL ?_ _ rfl | refine agree.maskS rfl ?_)
     · exact ⟨congrArg (Value.int .i64) (by omega : (i : Int) - 1 = ((i - 1 : Nat) : Int)), trivial⟩
     · exact ⟨hbl, hbp, hpo, hbm, hq, hb4, hbs, hxq, hmm, hrv, hLO, hB, ho, (by omega), (fun q h1 h2 => if e : q = i - 1 then by rw [e]; exact hc3 else hq2 q (by omega) h2), trivial⟩
     · first | omega | (dsimp only; omega)
    ·
     try with_reducible replace hc3 := of_decide_eq_false hc3
     refine WC_exit ?_
     refine hK54 _ _ ?_
     clear hK60 K59
     clear hJ58 J57
     clear hK54 K53
     have hput := put_at (i := i) hnd hnr hi hq2 (fun h0 => by first | omega | exact hc3)
     have hC : vs.length ≤ slC rv := (Sl.eqv hrv.sl).2.1
     have hone := LO.one hLO
     refine WC_draw Ext tb_mix (fun W66 hE67 => ?_)
     replace hbl := hE67.at hbl
     replace hbp := hE67.at hbp
     replace hpo := hE67.ow hpo
     replace hbm := hE67.at hbm
     replace hq := hE67.mapT hq
     replace hb4 := hE67.at hb4
     replace hbs := hE67.at hbs
     replace hxq := hE67.ow hxq
     replace hmm := hE67.at hmm
     replace hrv := hE67.ow hrv
     replace hLO := LO.ext hE67 hLO
     replace hB := below_ext hB hE67 hN0
     replace ho := hE67.ow ho
     replace hp11_9 := hE67.slT hp11_9
     have hS := Ext.refl W66
     refine WT_take (dd := some 63) 0 rfl (by kernel_rfl) (by kernel_rfl) (by kernel_rfl) rfl rfl rfl (fun _wq _hq => r_fieldAddr (b := _) (o := _) rfl tb_fo56_1) hS ?_
     refine WT_take (dd := some 64) 1 rfl (by kernel_rfl) (by kernel_rfl) (by kernel_rfl) rfl rfl rfl (fun _wq hq => r_load1 (v := rv) rfl tb_sc54 (At.cell (hq.at hmm) rfl)) hS ?_
     refine WT_take (dd := some 65) 2 rfl (by kernel_rfl) (by kernel_rfl) (by kernel_rfl) rfl rfl rfl (fun _wq _hq => r_move (v := .int .i64 _) rfl) hS ?_
     refine WT_take (dd := some 66) 3 rfl (by kernel_rfl) (by kernel_rfl) (by kernel_rfl) rfl rfl rfl (fun _wq _hq => r_move (v := .int .i64 _) rfl) hS ?_
     refine WT_take (dd := some 67) 4 rfl (by kernel_rfl) (by kernel_rfl) (by kernel_rfl) rfl rfl rfl (fun _wq hq => r_slice03 (v := rv) rfl ((hq.ow hrv)).sl tb_el54 rfl rfl (by omega) (by omega) (by omega)) hS ?_
     have hp13_4 : SlT encV 1 W66 (slOf 1 rv 0 i i) ((vs.drop 0).take (i - 0)) := SlT.part encV_len hrv.sl (by omega) (by omega) (by omega) (by omega)
     refine WT_take (dd := some 68) 5 rfl (by kernel_rfl) (by kernel_rfl) (by kernel_rfl) rfl rfl rfl (fun _wq _hq => r_move (v := v0) rfl) hS ?_
     refine WT_take (dd := some 70) 7 rfl (by kernel_rfl) (by kernel_rfl) (by kernel_rfl) rfl rfl rfl (fun _wq _hq => r_fieldAddr (b := _) (o := _) rfl tb_fo56_1) hS ?_
     refine WT_take (dd := some 71) 8 rfl (by kernel_rfl) (by kernel_rfl) (by kernel_rfl) rfl rfl rfl (fun _wq hq => r_load1 (v := rv) rfl tb_sc54 (At.cell (hq.at hmm) rfl)) hS ?_
     refine WT_take (dd := some 72) 9 rfl (by kernel_rfl) (by kernel_rfl) (by kernel_rfl) rfl rfl rfl (fun _wq _hq => r_move (v := .int .i64 _) rfl) hS ?_
     refine WT_take (dd := some 73) 10 rfl (by kernel_rfl) (by kernel_rfl) (by kernel_rfl) rfl rfl rfl (fun _wq hq => r_sliceLo (v := rv) rfl ((hq.ow hrv)).sl tb_el54 rfl (by omega) (by omega)) hS ?_
     have hp13_10 : SlT encV 1 W66 (slOf 1 rv i vs.length (slC rv)) ((vs.drop i).take (vs.length - i)) := SlT.part encV_len hrv.sl (by omega) (by omega) (by omega) (by omega)
     refine WT_one (dd := some 69) 6 (by kernel_rfl) rfl rfl rfl rfl (Y_lit1 (u := v0) rfl tb_el54 tb_zs57 (by rw [SlT.cells ho.sl]; rfl) (by decide) (by decide) (fun b13_6 W68 hb69 hE70 hm13_6 => ⟨.inl (hS.trans hE70), ?_⟩))
     have lo_b13_6 : N ≤ b13_6 := hb69 ▸ (Nat.le_trans hN0 (Below.size hB))
     have los_b13_6 := Nat.le_trans (Ext.size hS) (Nat.le_of_eq hb69.symm)
     have no_rv_b13_6 := OwT.neB (b := b13_6) hrv (Nat.le_of_eq hb69.symm)
     have far71 := SlT.far (b := b13_6) hp13_4 (Nat.le_of_eq hb69.symm)
     have far72 := SlT.far (b := b13_6) hp13_10 (Nat.le_of_eq hb69.symm)
     clear hb69
     have sv73_hbl := hbl
     have sv73_hbp := hbp
     have sv73_hpo := hpo
     have sv73_hbm := hbm
     have sv73_hq := hq
     have sv73_hb4 := hb4
     have sv73_hbs := hbs
     have sv73_hxq := hxq
     have sv73_hmm := hmm
     have sv73_hrv := hrv
     have sv73_hB := hB
     have sv73_ho := ho
     have sv73_hp11_9 := hp11_9
     have sv73_hp13_4 := hp13_4
     have sv73_hp13_10 := hp13_10
     replace hbl := hE70.at hbl
     replace hbp := hE70.at hbp
     replace hpo := hE70.ow hpo
     replace hbm := hE70.at hbm
     replace hq := hE70.mapT hq
     replace hb4 := hE70.at hb4
     replace hbs := hE70.at hbs
     replace hxq := hE70.ow hxq
     replace hmm := hE70.at hmm
     replace hrv := hE70.ow hrv
     replace hLO := LO.ext hE70 hLO
     replace hB := below_ext hB hE70 hN0
     replace ho := hE70.ow ho
     replace hp11_9 := hE70.slT hp11_9
     replace hp13_4 := hE70.slT hp13_4
     replace hp13_10 := hE70.slT hp13_10
     replace hS := hS.trans hE70
     clear hE70
     rw [SlT.cells ho.sl] at hm13_6
     have ho74 := own_lit1 (enc := encV) (a := v0) hm13_6 rfl rfl lo_b13_6
     clear hm13_6
     refine WT_one (dd := some 74) 11 (by kernel_rfl) rfl rfl rfl rfl (Y_append (v := .slice (some ⟨b13_6, 0, none⟩) 1 1) (v2 := slOf 1 rv i vs.length (slC rv)) rfl rfl tb_el54 tb_zs57 (by decide) ho74 hp13_10 ((one_part hone)) (by have := Below.size hB; omega) (by simp; omega) (by simp; omega) (fun v13_11 W75 hG76 ho13_11 => ⟨.inl (below_grown hS hG76 (Nat.le_refl _) (fun j hj => by have e : b13_6 = j := Option.some.inj hj; rw [← e]; exact los_b13_6)), ?_⟩))
     replace hS : Ext _ _ := below_grown hS hG76 (Nat.le_refl _) (fun j hj => by have e : b13_6 = j := Option.some.inj hj; rw [← e]; exact los_b13_6)
     replace ho13_11 := OwT.app (enc := encV) rfl rfl rfl rfl ho13_11
     replace hbl := At.grownOw hbl ho74 hG76 (by decide)
     replace hbp := At.grownOw hbp ho74 hG76 (by decide)
     replace hpo := OwT.grownOw hpo ho74 hG76 (by decide)
     replace hbm := At.grownOw hbm ho74 hG76 (by decide)
     replace hq := MapT.grownOw hq ho74 hG76
     replace hb4 := At.grownOw hb4 ho74 hG76 (by decide)
     replace hbs := At.grownOw hbs ho74 hG76 (by decide)
     replace hxq := OwT.grownOw hxq ho74 hG76 (by decide)
     replace hmm := At.grownOw hmm ho74 hG76 (by decide)
     replace hLO := LO.grownOw hLO ho74 hG76 (by decide)
     replace hB := below_grown hB hG76 hN0 (fun j hj => (OwT.lt ho74 j hj))
     replace ho := OwT.grownOw ho ho74 hG76 (by decide)
     replace hp13_4 := SlT.grownFar hp13_4 far71 hG76
     replace hp13_10 := SlT.grownFar hp13_10 far72 hG76
     clear hrv
     clear hp11_9
     clear hG76
     clear ho74
     refine WT_one (dd := some 75) 12 (by kernel_rfl) rfl rfl rfl rfl (Y_appendFull (N := N) (v := slOf 1 rv 0 i i) (v2 := v13_11) rfl rfl tb_el54 tb_zs57 hp13_4 (slOf_full (by simp; omega)) ho13_11.sl (by simp) (Nat.le_trans hN0 (Below.size hB)) (by simp; omega) (by simp; omega) (fun v13_12 W78 hE79 ho13_12 => ⟨.inl (hS.trans hE79), ?_⟩))
     replace ho13_12 := OwT.app (enc := encV) rfl rfl rfl rfl ho13_12
     replace hbl := hE79.at hbl
     replace hbp := hE79.at hbp
     replace hpo := hE79.ow hpo
     replace hbm := hE79.at hbm
     replace hq := hE79.mapT hq
     replace hb4 := hE79.at hb4
     replace hbs := hE79.at hbs
     replace hxq := hE79.ow hxq
     replace hmm := hE79.at hmm
     replace hLO := LO.ext hE79 hLO
     replace hB := below_ext hB hE79 hN0
     replace ho := hE79.ow ho
     replace hp13_4 := hE79.slT hp13_4
     replace hp13_10 := hE79.slT hp13_10
     replace ho13_11 := hE79.ow ho13_11
     replace hS := hS.trans hE79
     clear hE79
     refine WT_take (dd := some 76) 13 rfl (by kernel_rfl) (by kernel_rfl) (by kernel_rfl) rfl rfl rfl (fun _wq _hq => r_fieldAddr (b := _) (o := _) rfl tb_fo56_1) hS ?_
     refine WT_one (dd := none) 14 (by kernel_rfl) rfl rfl rfl rfl (Y_store1 (v := v13_12) rfl rfl tb_sc54 (SlT.one ho13_12.sl) hmm (by simp) (fun W80 hG81 hm82 => ⟨.inr (by kernel_rfl), ?_⟩))
     replace hbl := At.grownAt hbl hmm hG81 (by decide)
     replace hbp := At.grownAt hbp hmm hG81 (by decide)
     replace hpo := OwT.grownAt hpo hmm hG81 (by decide)
     replace hbm := At.grownAt hbm hmm hG81 (by decide)
     replace hq := MapT.grownAt hq hmm hG81
     replace hb4 := At.grownNe hb4 hne hG81
     replace hbs := At.grownAt hbs hmm hG81 (by decide)
     replace hxq := OwT.grownAt hxq hmm hG81 (by decide)
     replace hLO := LO.grownAt hLO hmm hG81 (by decide)
     replace hB := below_grown hB hG81 hN0 (fun j hj => by cases hj; exact lom)
     replace ho := OwT.grownAt ho hmm hG81 (by decide)
     replace ho13_11 := OwT.grownAt ho13_11 hmm hG81 (by decide)
     replace ho13_12 := OwT.grownAt ho13_12 hmm hG81 (by decide)
     clear hp13_4
     clear hp13_10
     clear hG81 hmm
     have hmm := hm82
     clear hm82
     replace hmm : At _ _ #[_, _] _ := hmm
     refine WT_done (by kernel_rfl) ?_
     try clear sv73_hbl sv73_hbp sv73_hpo sv73_hbm sv73_hq sv73_hb4 sv73_hbs sv73_hxq sv73_hrv sv73_hB sv73_ho sv73_hp11_9 sv73_hp13_4 sv73_hp13_10
     repeat (first | refine thenQ_exit ?_ | refine blockQ_exit ?_)
     refine norm_of_ret ?_
     repeat (first | refine thenQ_ret ?_ | refine blockQ_ret ?_)
     refine ret_  ?_
     rw [← hput]
     rw [List.drop_zero, Nat.sub_zero, drop_all] at ho13_12
     exact ⟨hB, hbl, hbp, hpo, hbm, hq, hb4, hbs, hxq, _, _, hmm, ho13_12, LO.put (i := i) hLO ho hi⟩
   ·
    try with_reducible replace hs11_2 := of_decide_eq_false hs11_2
    refine WL_skip (dd := some 52) rfl rfl rfl ?_
    refine WL_skip (dd := some 53) rfl rfl rfl ?_
    refine WL_skip (dd := some 54) rfl rfl rfl ?_
    refine WL_skip (dd := some 55) rfl rfl rfl ?_
    refine WL_skip (dd := some 56) rfl rfl rfl ?_
    refine WL_skip (dd := some 57) rfl rfl rfl ?_
    refine WL_skip (dd := some 58) rfl rfl rfl ?_
    refine WL_skip (dd := some 59) rfl rfl rfl ?_
    refine WL_val (dd := some 60) rfl rfl rfl (r_pick_f rfl (v := .bool false) rfl) ?_
    refine WL_nil ?_
    refine hK62 _ _ ?_
    clear hK62 K61
    refine WC_cond_false rfl ?_
    refine WC_exit ?_
    refine hK54 _ _ ?_
    clear hK60 K59
    clear hJ58 J57
    clear hK54 K53
    have hput := put_at (i := i) hnd hnr hi hq2 (fun h0 => by first | omega | exact hc3)
    have hC : vs.length ≤ slC rv := (Sl.eqv hrv.sl).2.1
    have hone := LO.one hLO
    refine WC_draw Ext tb_mix (fun W83 hE84 => ?_)
    replace hbl := hE84.at hbl
    replace hbp := hE84.at hbp
    replace hpo := hE84.ow hpo
    replace hbm := hE84.at hbm
    replace hq := hE84.mapT hq
    replace hb4 := hE84.at hb4
    replace hbs := hE84.at hbs
    replace hxq := hE84.ow hxq
    replace hmm := hE84.at hmm
    replace hrv := hE84.ow hrv
    replace hLO := LO.ext hE84 hLO
    replace hB := below_ext hB hE84 hN0
    replace ho := hE84.ow ho
    have hS := Ext.refl W83
    refine WT_take (dd := some 63) 0 rfl (by kernel_rfl) (by kernel_rfl) (by kernel_rfl) rfl rfl rfl (fun _wq _hq => r_fieldAddr (b := _) (o := _) rfl tb_fo56_1) hS ?_
    refine WT_take (dd := some 64) 1 rfl (by kernel_rfl) (by kernel_rfl) (by kernel_rfl) rfl rfl rfl (fun _wq hq => r_load1 (v := rv) rfl tb_sc54 (At.cell (hq.at hmm) rfl)) hS ?_
    refine WT_take (dd := some 65) 2 rfl (by kernel_rfl) (by kernel_rfl) (by kernel_rfl) rfl rfl rfl (fun _wq _hq => r_move (v := .int .i64 _) rfl) hS ?_
    refine WT_take (dd := some 66) 3 rfl (by kernel_rfl) (by kernel_rfl) (by kernel_rfl) rfl rfl rfl (fun _wq _hq => r_move (v := .int .i64 _) rfl) hS ?_
    refine WT_take (dd := some 67) 4 rfl (by kernel_rfl) (by kernel_rfl) (by kernel_rfl) rfl rfl rfl (fun _wq hq => r_slice03 (v := rv) rfl ((hq.ow hrv)).sl tb_el54 rfl rfl (by omega) (by omega) (by omega)) hS ?_
    have hp13_4 : SlT encV 1 W83 (slOf 1 rv 0 i i) ((vs.drop 0).take (i - 0)) := SlT.part encV_len hrv.sl (by omega) (by omega) (by omega) (by omega)
    refine WT_take (dd := some 68) 5 rfl (by kernel_rfl) (by kernel_rfl) (by kernel_rfl) rfl rfl rfl (fun _wq _hq => r_move (v := v0) rfl) hS ?_
    refine WT_take (dd := some 70) 7 rfl (by kernel_rfl) (by kernel_rfl) (by kernel_rfl) rfl rfl rfl (fun _wq _hq => r_fieldAddr (b := _) (o := _) rfl tb_fo56_1) hS ?_
    refine WT_take (dd := some 71) 8 rfl (by kernel_rfl) (by kernel_rfl) (by kernel_rfl) rfl rfl rfl (fun _wq hq => r_load1 (v := rv) rfl tb_sc54 (At.cell (hq.at hmm) rfl)) hS ?_
    refine WT_take (dd := some 72) 9 rfl (by kernel_rfl) (by kernel_rfl) (by kernel_rfl) rfl rfl rfl (fun _wq _hq => r_move (v := .int .i64 _) rfl) hS ?_
    refine WT_take (dd := some 73) 10 rfl (by kernel_rfl) (by kernel_rfl) (by kernel_rfl) rfl rfl rfl (fun _wq hq => r_sliceLo (v := rv) rfl ((hq.ow hrv)).sl tb_el54 rfl (by omega) (by omega)) hS ?_
    have hp13_10 : SlT encV 1 W83 (slOf 1 rv i vs.length (slC rv)) ((vs.drop i).take (vs.length - i)) := SlT.part encV_len hrv.sl (by omega) (by omega) (by omega) (by omega)
    refine WT_one (dd := some 69) 6 (by kernel_rfl) rfl rfl rfl rfl (Y_lit1 (u := v0) rfl tb_el54 tb_zs57 (by rw [SlT.cells ho.sl]; rfl) (by decide) (by decide) (fun b13_6 W85 hb86 hE87 hm13_6 => ⟨.inl (hS.trans hE87), ?_⟩))
    have lo_b13_6 : N ≤ b13_6 := hb86 ▸ (Nat.le_trans hN0 (Below.size hB))
    have los_b13_6 := Nat.le_trans (Ext.size hS) (Nat.le_of_eq hb86.symm)
    have no_rv_b13_6 := OwT.neB (b := b13_6) hrv (Nat.le_of_eq hb86.symm)
    have far88 := SlT.far (b := b13_6) hp13_4 (Nat.le_of_eq hb86.symm)
    have far89 := SlT.far (b := b13_6) hp13_10 (Nat.le_of_eq hb86.symm)
    clear hb86
    have sv90_hbl := hbl
    have sv90_hbp := hbp
    have sv90_hpo := hpo
    have sv90_hbm := hbm
    have sv90_hq := hq
    have sv90_hb4 := hb4
    have sv90_hbs := hbs
    have sv90_hxq := hxq
    have sv90_hmm := hmm
    have sv90_hrv := hrv
    have sv90_hB := hB
    have sv90_ho := ho
    have sv90_hp13_4 := hp13_4
    have sv90_hp13_10 := hp13_10
    replace hbl := hE87.at hbl
    replace hbp := hE87.at hbp
    replace hpo := hE87.ow hpo
    replace hbm := hE87.at hbm
    replace hq := hE87.mapT hq
    replace hb4 := hE87.at hb4
    replace hbs := hE87.at hbs
    replace hxq := hE87.ow hxq
    replace hmm := hE87.at hmm
    replace hrv := hE87.ow hrv
    replace hLO := LO.ext hE87 hLO
    replace hB := below_ext hB hE87 hN0
    replace ho := hE87.ow ho
    replace hp13_4 := hE87.slT hp13_4
    replace hp13_10 := hE87.slT hp13_10
    replace hS := hS.trans hE87
    clear hE87
    rw [SlT.cells ho.sl] at hm13_6
    have ho91 := own_lit1 (enc := encV) (a := v0) hm13_6 rfl rfl lo_b13_6
    clear hm13_6
    refine WT_one (dd := some 74) 11 (by kernel_rfl) rfl rfl rfl rfl (Y_append (v := .slice (some ⟨b13_6, 0, none⟩) 1 1) (v2 := slOf 1 rv i vs.length (slC rv)) rfl rfl tb_el54 tb_zs57 (by decide) ho91 hp13_10 ((one_part hone)) (by have := Below.size hB; omega) (by simp; omega) (by simp; omega) (fun v13_11 W92 hG93 ho13_11 => ⟨.inl (below_grown hS hG93 (Nat.le_refl _) (fun j hj => by have e : b13_6 = j := Option.some.inj hj; rw [← e]; exact los_b13_6)), ?_⟩))
    replace hS : Ext _ _ := below_grown hS hG93 (Nat.le_refl _) (fun j hj => by have e : b13_6 = j := Option.some.inj hj; rw [← e]; exact los_b13_6)
    replace ho13_11 := OwT.app (enc := encV) rfl rfl rfl rfl ho13_11
    replace hbl := At.grownOw hbl ho91 hG93 (by decide)
    replace hbp := At.grownOw hbp ho91 hG93 (by decide)
    replace hpo := OwT.grownOw hpo ho91 hG93 (by decide)
    replace hbm := At.grownOw hbm ho91 hG93 (by decide)
    replace hq := MapT.grownOw hq ho91 hG93
    replace hb4 := At.grownOw hb4 ho91 hG93 (by decide)
    replace hbs := At.grownOw hbs ho91 hG93 (by decide)
    replace hxq := OwT.grownOw hxq ho91 hG93 (by decide)
    replace hmm := At.grownOw hmm ho91 hG93 (by decide)
    replace hLO := LO.grownOw hLO ho91 hG93 (by decide)
    replace hB := below_grown hB hG93 hN0 (fun j hj => (OwT.lt ho91 j hj))
    replace ho := OwT.grownOw ho ho91 hG93 (by decide)
    replace hp13_4 := SlT.grownFar hp13_4 far88 hG93
    replace hp13_10 := SlT.grownFar hp13_10 far89 hG93
    clear hrv
    clear hG93
    clear ho91
    refine WT_one (dd := some 75) 12 (by kernel_rfl) rfl rfl rfl rfl (Y_appendFull (N := N) (v := slOf 1 rv 0 i i) (v2 := v13_11) rfl rfl tb_el54 tb_zs57 hp13_4 (slOf_full (by simp; omega)) ho13_11.sl (by simp) (Nat.le_trans hN0 (Below.size hB)) (by simp; omega) (by simp; omega) (fun v13_12 W95 hE96 ho13_12 => ⟨.inl (hS.trans hE96), ?_⟩))
    replace ho13_12 := OwT.app (enc := encV) rfl rfl rfl rfl ho13_12
    replace hbl := hE96.at hbl
    replace hbp := hE96.at hbp
    replace hpo := hE96.ow hpo
    replace hbm := hE96.at hbm
    replace hq := hE96.mapT hq
    replace hb4 := hE96.at hb4
    replace hbs := hE96.at hbs
    replace hxq := hE96.ow hxq
    replace hmm := hE96.at hmm
    replace hLO := LO.ext hE96 hLO
    replace hB := below_ext hB hE96 hN0
    replace ho := hE96.ow ho
    replace hp13_4 := hE96.slT hp13_4
    replace hp13_10 := hE96.slT hp13_10
    replace ho13_11 := hE96.ow ho13_11
    replace hS := hS.trans hE96
    clear hE96
    refine WT_take (dd := some 76) 13 rfl (by kernel_rfl) (by kernel_rfl) (by kernel_rfl) rfl rfl rfl (fun _wq _hq => r_fieldAddr (b := _) (o := _) rfl tb_fo56_1) hS ?_
    refine WT_one (dd := none) 14 (by kernel_rfl) rfl rfl rfl rfl (Y_store1 (v := v13_12) rfl rfl tb_sc54 (SlT.one ho13_12.sl) hmm (by simp) (fun W97 hG98 hm99 => ⟨.inr (by kernel_rfl), ?_⟩))
    replace hbl := At.grownAt hbl hmm hG98 (by decide)
    replace hbp := At.grownAt hbp hmm hG98 (by decide)
    replace hpo := OwT.grownAt hpo hmm hG98 (by decide)
    replace hbm := At.grownAt hbm hmm hG98 (by decide)
    replace hq := MapT.grownAt hq hmm hG98
    replace hb4 := At.grownNe hb4 hne hG98
    replace hbs := At.grownAt hbs hmm hG98 (by decide)
    replace hxq := OwT.grownAt hxq hmm hG98 (by decide)
    replace hLO := LO.grownAt hLO hmm hG98 (by decide)
    replace hB := below_grown hB hG98 hN0 (fun j hj => by cases hj; exact lom)
    replace ho := OwT.grownAt ho hmm hG98 (by decide)
    replace ho13_11 := OwT.grownAt ho13_11 hmm hG98 (by decide)
    replace ho13_12 := OwT.grownAt ho13_12 hmm hG98 (by decide)
    clear hp13_4
    clear hp13_10
    clear hG98 hmm
    have hmm := hm99
    clear hm99
    replace hmm : At _ _ #[_, _] _ := hmm
    refine WT_done (by kernel_rfl) ?_
    try clear sv90_hbl sv90_hbp sv90_hpo sv90_hbm sv90_hq sv90_hb4 sv90_hbs sv90_hxq sv90_hrv sv90_hB sv90_ho sv90_hp13_4 sv90_hp13_10
    repeat (first | refine thenQ_exit ?_ | refine blockQ_exit ?_)
    refine norm_of_ret ?_
    repeat (first | refine thenQ_ret ?_ | refine blockQ_ret ?_)
    refine ret_  ?_
    rw [← hput]
    rw [List.drop_zero, Nat.sub_zero, drop_all] at ho13_12
    exact ⟨hB, hbl, hbp, hpo, hbm, hq, hb4, hbs, hxq, _, _, hmm, ho13_12, LO.put (i := i) hLO ho hi⟩

theorem C_cover_Make (S : Sp) (onV mayV : Value) (xa : Value) (l : List Rw) (w : World) (hon : SlT encS 4 w onV S.on) (hmay : SlT encS 4 w mayV S.may) (hl : SlT encR 3 w xa l) (hlb : l.length ≤ 1000000) (hlr : RowB l) :
    Fn Try.prog 52 #[.agg #[.int .i64 S.n, onV, mayV], xa] w fun v w' => if mayM S l = 0 then ∃ rv vs, v = .tuple #[.agg #[.int .i64 (l.length : Int), rv], .int .i64 0] ∧ OwT encV 1 57 w' w.heap.size rv vs ∧ LO 3 w.heap.size w' vs (rowsA S l) else v = .tuple #[.agg #[.int .i64 0, .slice none 0 0], .int .i64 (mayM S l)] := by
 refine Fn_intro (n := 76) Try.func52 rfl rfl (Nat.le_of_ble_eq_true rfl) ?_
 have hB : Below w.heap.size w w := Below.refl _ _
 refine WC_seq (fun K1 hK2 => ?_)
 refine WC_region ?_
 refine WL_step (dd := some 2) rfl rfl rfl (Y_box (c := #[_, _, _]) rfl rfl (fun b0_0 W3 hb4 hE5 hm0_0 => ?_))
 have lo_b0_0 : w.heap.size ≤ b0_0 := hb4 ▸ (Below.size hB)
 clear hb4
 replace hB := below_ext hB hE5 (Nat.le_refl _)
 clear hE5
 refine WL_step (dd := some 3) rfl rfl rfl (Y_box (v := xa) (c := #[xa]) rfl (SlT.cells (Below.slT hB hl)) (fun b0_1 W6 hb7 hE8 hm0_1 => ?_))
 have lo_b0_1 : w.heap.size ≤ b0_1 := hb7 ▸ (Below.size hB)
 clear hb7
 replace hB := below_ext hB hE8 (Nat.le_refl _)
 replace hm0_0 := hE8.at hm0_0
 clear hE8
 refine WL_step (dd := some 4) rfl rfl rfl (Y_alloc tb_z56 rfl (fun b0_2 W9 hb10 hE11 hm0_2 => ?_))
 have lo_b0_2 : w.heap.size ≤ b0_2 := hb10 ▸ (Below.size hB)
 clear hb10
 replace hB := below_ext hB hE11 (Nat.le_refl _)
 replace hm0_0 := hE11.at hm0_0
 replace hm0_1 := hE11.at hm0_1
 clear hE11
 refine WL_val (dd := some 5) rfl rfl rfl (r_assign (v := .int .i64 0) rfl) ?_
 refine WL_nil ?_
 refine hK2 _ _ ?_
 clear hK2 K1
 refine WC_seq (fun K12 hK13 => ?_)
 refine WC_seq (fun K14 hK15 => ?_)
 refine WC_region ?_
 refine WL_val (dd := some 18) rfl rfl rfl (r_loadW rfl tb_ag64 rfl hm0_0) ?_
 refine WL_call (dd := some 19) rfl rfl rfl (r_call1 tb_c105 (v0 := .agg #[_, _, _]) rfl) (C_spec_Right S _ _  _ (Below.slT hB hon) (Below.slT hB hmay) ) (fun v1_1 W16 hE17 hP1_1 => ?_)
 have hsz18 := (Below.size hB)
 replace hB := below_ext hB hE17 (Nat.le_refl _)
 replace hm0_0 := hE17.at hm0_0
 replace hm0_1 := hE17.at hm0_1
 replace hm0_2 := hE17.at hm0_2
 clear hE17
 clear hsz18
 obtain rfl := hP1_1
 refine WL_val (dd := some 20) rfl rfl rfl (r_not rfl) ?_
 refine WL_nil ?_
 refine hK15 _ _ ?_
 clear hK15 K14
 refine WC_cond (b := _) rfl (fun hc0 => ?_) (fun hc0 => ?_)
 ·
  try with_reducible replace hc0 := of_decide_eq_true hc0
  refine WC_seq (fun K19 hK20 => ?_)
  refine WC_region ?_
  refine WL_val (dd := some 21) rfl rfl rfl (tb_build56_ ) ?_
  refine WL_step (dd := none) rfl rfl rfl (Y_storeW rfl rfl tb_ag56 rfl hm0_2 rfl (by rfl) (fun W21 hG22 hm23 => ?_))
  replace hB := below_grown hB hG22 (Nat.le_refl _) (fun j hj => by cases hj; exact lo_b0_2)
  replace hm0_0 := At.grownAt hm0_0 hm0_2 hG22 (by decide)
  replace hm0_1 := At.grownAt hm0_1 hm0_2 hG22 (by decide)
  clear hG22 hm0_2
  have hm0_2 := hm23
  clear hm23
  refine WL_val (dd := some 5) rfl rfl rfl (r_assign (v := .int .i64 1) rfl) ?_
  refine WL_nil ?_
  refine hK20 _ _ ?_
  clear hK20 K19
  refine WC_ret ?_
  repeat (first | refine thenQ_ret ?_ | refine blockQ_ret ?_)
  try clear hK13 K12
  refine ret_ct rfl tb_ag56 hm0_2 rfl (v1 := .int .i64 1) rfl ?_
  refine ⟨hB, ?_⟩
  rw [may_1 (by rw [not_t hc0]; decide), if_neg (by decide)]
 ·
  try with_reducible replace hc0 := of_decide_eq_false hc0
  refine WC_skip ?_
  refine hK13 _ _ ?_
  clear hK13 K12
  refine WC_seq (fun K24 hK25 => ?_)
  have hr : rightS S = true := not_f hc0
  obtain ⟨h0, h8, h1, h5, h6, _⟩ := rightS_iff.1 hr
  refine WC_region ?_
  refine WL_step (dd := some 6) rfl rfl rfl (Y_alloc tb_z62 rfl (fun b3_0 W26 hb27 hE28 hm3_0 => ?_))
  have lo_b3_0 : w.heap.size ≤ b3_0 := hb27 ▸ (Below.size hB)
  clear hb27
  replace hB := below_ext hB hE28 (Nat.le_refl _)
  replace hm0_0 := hE28.at hm0_0
  replace hm0_1 := hE28.at hm0_1
  replace hm0_2 := hE28.at hm0_2
  clear hE28
  refine WL_nil ?_
  refine hK25 _ _ ?_
  clear hK25 K24
  refine WC_seq (fun K29 hK30 => ?_)
  refine WC_seq (fun K31 hK32 => ?_)
  refine WC_region ?_
  refine WL_val (dd := some 22) rfl rfl rfl (r_load1 (v := xa) rfl tb_sc65 (At.cell hm0_1 rfl)) ?_
  refine WL_val (dd := some 23) rfl rfl rfl (r_lenS (v := xa) rfl (Below.slT hB hl) tb_el65) ?_
  refine WL_val (dd := some 24) rfl rfl rfl (r_move (v := .int .i64 0) rfl) ?_
  refine WL_nil ?_
  refine hK32 _ _ ?_
  clear hK32 K31
  refine WC_block ?_
  refine WC_loop (σ := (Nat) × (Value)) [5, 8, 9, 10, 24, 25, 26, 27, 28, 29, 30, 31, 32, 33, 34, 35, 36, 37, 38, 39, 40, 41, 42, 43, 44] (fun (k, vp) => [(24, .int .i64 (k : Int))]) (fun sg W => match sg with | (k, vp) => (Below w.heap.size w W) ∧ (At W b0_0 _ 64) ∧ (At W b0_1 _ 65) ∧ (At W b0_2 _ 56) ∧ (At W b3_0 #[vp] 62) ∧ (OwT encS 4 24 W w.heap.size vp (ptsF l S.n k)) ∧ (k ≤ l.length) ∧ (∀ q, q < k → rightB (l.getD q ⟨⟨0, 0⟩, 0⟩).c.m (l.getD q ⟨⟨0, 0⟩, 0⟩).c.v S.n = true) ∧ (True)) (fun (k, vp) => l.length - k) ((0, .slice none 0 0)) ⟨rfl, trivial⟩ ⟨hB, hm0_0, hm0_1, hm0_2, hm3_0, OwT.nil, (Nat.zero_le _), upTo_zero, trivial⟩ ?_
  clear hB hm0_0 hm0_1 hm0_2 hm3_0
  rintro ⟨k, vp⟩ g34 W33 ⟨hB, hm0_0, hm0_1, hm0_2, hm3_0, hpo, hk, hq, _⟩ J35 hJ36
  refine WC_seq (fun K37 hK38 => ?_)
  refine WC_region ?_
  refine WL_val (dd := some 25) rfl rfl rfl (r_lss rfl rfl) ?_
  refine WL_nil ?_
  refine hK38 _ _ ?_
  clear hK38 K37
  refine WC_seq (fun K39 hK40 => ?_)
  refine WC_cond (b := _) rfl (fun hc1 => ?_) (fun hc1 => ?_)
  ·
   try with_reducible replace hc1 := of_decide_eq_true hc1
   refine WC_skip ?_
   refine hK40 _ _ ?_
   clear hK40 K39
   refine WC_seq (fun K41 hK42 => ?_)
   refine WC_block ?_
   refine WC_seq (fun K43 hK44 => ?_)
   refine WC_region ?_
   refine WL_val (dd := some 26) rfl rfl rfl (r_idxS (v := xa) rfl (Below.slT hB hl) rfl tb_el65 (by omega) (by first | omega | (simp only [flagsTo_len, litsTo_len, firstF_len, ptF_len, setF_len]; omega))) ?_
   refine WL_val (dd := some 27) rfl rfl rfl (r_load3 rfl tb_ag79 (SlT.cell (Below.slT hB hl) encR_len ⟨⟨0, 0⟩, 0⟩ (by omega) (by first | omega | (simp only [flagsTo_len, litsTo_len, firstF_len, ptF_len, setF_len]; omega)) 0 rfl) (SlT.cell (Below.slT hB hl) encR_len ⟨⟨0, 0⟩, 0⟩ (by omega) (by first | omega | (simp only [flagsTo_len, litsTo_len, firstF_len, ptF_len, setF_len]; omega)) 1 rfl) (SlT.cell (Below.slT hB hl) encR_len ⟨⟨0, 0⟩, 0⟩ (by omega) (by first | omega | (simp only [flagsTo_len, litsTo_len, firstF_len, ptF_len, setF_len]; omega)) 2 rfl)) ?_
   refine WL_step (dd := some 8) rfl rfl rfl (Y_alloc tb_z79 rfl (fun b6_2 W45 hb46 hE47 hm6_2 => ?_))
   have lo_b6_2 : w.heap.size ≤ b6_2 := hb46 ▸ (Below.size hB)
   clear hb46
   replace hB := below_ext hB hE47 (Nat.le_refl _)
   replace hm0_0 := hE47.at hm0_0
   replace hm0_1 := hE47.at hm0_1
   replace hm0_2 := hE47.at hm0_2
   replace hm3_0 := hE47.at hm3_0
   replace hpo := hE47.ow hpo
   clear hE47
   refine WL_step (dd := none) rfl rfl rfl (Y_storeW rfl rfl tb_ag79 rfl hm6_2 rfl (by rfl) (fun W48 hG49 hm50 => ?_))
   replace hB := below_grown hB hG49 (Nat.le_refl _) (fun j hj => by cases hj; exact lo_b6_2)
   replace hm0_0 := At.grownAt hm0_0 hm6_2 hG49 (by decide)
   replace hm0_1 := At.grownAt hm0_1 hm6_2 hG49 (by decide)
   replace hm0_2 := At.grownAt hm0_2 hm6_2 hG49 (by decide)
   replace hm3_0 := At.grownAt hm3_0 hm6_2 hG49 (by decide)
   replace hpo := OwT.grownAt hpo hm6_2 hG49 (by decide)
   clear hG49 hm6_2
   have hm6_2 := hm50
   clear hm50
   refine WL_nil ?_
   refine hK44 _ _ ?_
   clear hK44 K43
   refine WC_seq (fun K51 hK52 => ?_)
   obtain ⟨hb1, hb2, hb3⟩ := hlr.get (k := k) (by omega)
   refine WC_region ?_
   refine WL_val (dd := some 29) rfl rfl rfl (r_fieldAddr (b := _) (o := _) rfl tb_fo79_0) ?_
   refine WL_val (dd := some 30) rfl rfl rfl (r_load2 rfl tb_ag34 (At.cell hm6_2 rfl) (At.cell hm6_2 rfl)) ?_
   refine WL_val (dd := some 31) rfl rfl rfl (r_fieldAddr (b := _) (o := _) rfl tb_fo64_0) ?_
   refine WL_val (dd := some 32) rfl rfl rfl (r_load1 (v := .int .i64 _) rfl tb_sc3 (At.cell hm0_0 rfl)) ?_
   refine WL_call (dd := some 33) rfl rfl rfl (r_call2 tb_c29 (v0 := .agg #[_, _]) rfl (v1 := .int .i64 _) rfl) (C_cube_Points _ _ _ _ hb1 hb2) (fun v7_4 W53 hE54 hP7_4 => ?_)
   have hsz55 := (Below.size hB)
   replace hB := below_ext hB hE54 (Nat.le_refl _)
   replace hm0_0 := hE54.at hm0_0
   replace hm0_1 := hE54.at hm0_1
   replace hm0_2 := hE54.at hm0_2
   replace hm3_0 := hE54.at hm3_0
   replace hpo := hE54.ow hpo
   replace hm6_2 := hE54.at hm6_2
   clear hE54
   obtain ⟨sa, er, rfl, hhP7_4⟩ := pts_cases hP7_4
   clear hsz55
   refine WL_val (dd := some 28) rfl rfl rfl (r_move (v := .tuple #[.agg #[_, _, _, _], .int .i64 _]) rfl) ?_
   refine WL_val (dd := some 34) rfl rfl rfl (r_ext2_0 (h := rfl)) ?_
   refine WL_val (dd := some 35) rfl rfl rfl (r_ext2_1 (h := rfl)) ?_
   refine WL_step (dd := some 9) rfl rfl rfl (Y_alloc tb_z24 rfl (fun b7_8 W56 hb57 hE58 hm7_8 => ?_))
   have lo_b7_8 : w.heap.size ≤ b7_8 := hb57 ▸ (Below.size hB)
   have no_vp_b7_8 := OwT.neB (b := b7_8) hpo (Nat.le_of_eq hb57.symm)
   clear hb57
   replace hB := below_ext hB hE58 (Nat.le_refl _)
   replace hm0_0 := hE58.at hm0_0
   replace hm0_1 := hE58.at hm0_1
   replace hm0_2 := hE58.at hm0_2
   replace hm3_0 := hE58.at hm3_0
   replace hpo := hE58.ow hpo
   replace hm6_2 := hE58.at hm6_2
   clear hE58
   replace hm7_8 : At W56 b7_8 #[wv 0 0, wv 0 1, wv 0 2, wv 0 3] 24 := hm7_8
   refine WL_step (dd := none) rfl rfl rfl (Y_storeW rfl rfl tb_ag24 rfl hm7_8 rfl (by rfl) (fun W59 hG60 hm61 => ?_))
   replace hB := below_grown hB hG60 (Nat.le_refl _) (fun j hj => by cases hj; exact lo_b7_8)
   replace hm0_0 := At.grownAt hm0_0 hm7_8 hG60 (by decide)
   replace hm0_1 := At.grownAt hm0_1 hm7_8 hG60 (by decide)
   replace hm0_2 := At.grownAt hm0_2 hm7_8 hG60 (by decide)
   replace hm3_0 := At.grownAt hm3_0 hm7_8 hG60 (by decide)
   replace hpo := OwT.grownAtNe hpo no_vp_b7_8 hG60
   replace hm6_2 := At.grownAt hm6_2 hm7_8 hG60 (by decide)
   clear hG60 hm7_8
   have hm7_8 := hm61
   clear hm61
   refine WL_val (dd := some 10) rfl rfl rfl (r_assign (v := .int .i64 _) rfl) ?_
   refine WL_nil ?_
   refine hK52 _ _ ?_
   clear hK52 K51
   refine WC_seq (fun K62 hK63 => ?_)
   refine WC_seq (fun K64 hK65 => ?_)
   refine WC_region ?_
   refine WL_val (dd := some 36) rfl rfl rfl (r_move (v := .int .i64 _) rfl) ?_
   refine WL_val (dd := some 37) rfl rfl rfl (r_neq rfl rfl) ?_
   refine WL_nil ?_
   refine hK65 _ _ ?_
   clear hK65 K64
   refine WC_cond (b := _) rfl (fun hc2 => ?_) (fun hc2 => ?_)
   ·
    try with_reducible replace hc2 := of_decide_eq_true hc2
    refine WC_seq (fun K66 hK67 => ?_)
    refine WC_region ?_
    refine WL_val (dd := some 38) rfl rfl rfl (tb_build56_ ) ?_
    refine WL_val (dd := some 39) rfl rfl rfl (r_move (v := .int .i64 _) rfl) ?_
    refine WL_step (dd := none) rfl rfl rfl (Y_storeW rfl rfl tb_ag56 rfl hm0_2 rfl (by rfl) (fun W68 hG69 hm70 => ?_))
    replace hB := below_grown hB hG69 (Nat.le_refl _) (fun j hj => by cases hj; exact lo_b0_2)
    replace hm0_0 := At.grownAt hm0_0 hm0_2 hG69 (by decide)
    replace hm0_1 := At.grownAt hm0_1 hm0_2 hG69 (by decide)
    replace hm3_0 := At.grownAt hm3_0 hm0_2 hG69 (by decide)
    replace hpo := OwT.grownAt hpo hm0_2 hG69 (by decide)
    replace hm6_2 := At.grownAt hm6_2 hm0_2 hG69 (by decide)
    replace hm7_8 := At.grownAt hm7_8 hm0_2 hG69 (by decide)
    clear hG69 hm0_2
    have hm0_2 := hm70
    clear hm70
    refine WL_val (dd := some 5) rfl rfl rfl (r_assign (v := .int .i64 _) rfl) ?_
    refine WL_nil ?_
    refine hK67 _ _ ?_
    clear hK67 K66
    refine WC_ret ?_
    repeat (first | refine thenQ_ret ?_ | refine blockQ_ret ?_)
    try clear hK63 K62
    try clear hK42 K41
    try clear hJ36 J35
    try clear hK30 K29
    refine ret_ct rfl tb_ag56 hm0_2 rfl (v1 := .int .i64 _) rfl ?_
    refine ⟨hB, ?_⟩
    obtain ⟨hrr, her⟩ := hhP7_4.resolve_left (fun h => hc2 h.2.2)
    rw [may_2 (k := k) (by omega) (fun q => by have := hrr.symm.trans q; cases this), if_neg (by decide), her]
   ·
    try with_reducible replace hc2 := of_decide_eq_false hc2
    refine WC_skip ?_
    refine hK63 _ _ ?_
    clear hK63 K62
    obtain ⟨hrr, hsa, _⟩ := hhP7_4.resolve_right (fun h => hc2 (fun e => by rw [h.2] at e; cases e))
    subst hsa
    have hpl := ptsF_len (l := l) (n := S.n) (k := k) (by omega)
    refine WC_region ?_
    refine WL_val (dd := some 40) rfl rfl rfl (r_load1 (v := vp) rfl tb_sc62 (At.cell hm3_0 rfl)) ?_
    refine WL_val (dd := some 41) rfl rfl rfl (r_loadW rfl tb_ag24 rfl hm7_8) ?_
    refine WL_step (dd := some 42) rfl rfl rfl (Y_lit1 (u := .agg #[_, _, _, _]) rfl tb_el62 tb_zs24 rfl (by decide) (by decide) (fun b10_2 W71 hb72 hE73 hm10_2 => ?_))
    have lo_b10_2 : w.heap.size ≤ b10_2 := hb72 ▸ (Below.size hB)
    have no_vp_b10_2 := OwT.neB (b := b10_2) hpo (Nat.le_of_eq hb72.symm)
    have ne_b7_8_b10_2 : b7_8 ≠ b10_2 := Nat.ne_of_lt (hb72 ▸ hm7_8.lt)
    clear hb72
    replace hB := below_ext hB hE73 (Nat.le_refl _)
    replace hm0_0 := hE73.at hm0_0
    replace hm0_1 := hE73.at hm0_1
    replace hm0_2 := hE73.at hm0_2
    replace hm3_0 := hE73.at hm3_0
    replace hpo := hE73.ow hpo
    replace hm6_2 := hE73.at hm6_2
    replace hm7_8 := hE73.at hm7_8
    clear hE73
    refine WL_step (dd := some 43) rfl rfl rfl (Y_append (v := vp) (v2 := .slice (some ⟨b10_2, 0, none⟩) 1 1) rfl rfl tb_el62 tb_zs24 (by decide) hpo (sl_lit1 hm10_2 rfl) rfl (by have := Below.size hB; omega) (by first | omega | (simp; omega) | (simp only [flagsTo_len, litsTo_len, firstF_len, ptF_len, setF_len]; omega)) (by first | omega | (simp; omega) | (simp only [flagsTo_len, litsTo_len, firstF_len, ptF_len, setF_len]; omega)) (fun v10_3 W74 hG75 ho10_3 => ?_))
    replace ho10_3 := OwT.snoc (enc := encS) (x := (ptsS (l.getD k ⟨⟨0, 0⟩, 0⟩).c.m (l.getD k ⟨⟨0, 0⟩, 0⟩).c.v S.n.toNat)) rfl rfl rfl rfl ho10_3
    clear hm10_2
    replace hB := below_grown hB hG75 (Nat.le_refl _) (fun j hj => (OwT.lt hpo j hj))
    replace hm0_0 := At.grownOw hm0_0 hpo hG75 (by decide)
    replace hm0_1 := At.grownOw hm0_1 hpo hG75 (by decide)
    replace hm0_2 := At.grownOw hm0_2 hpo hG75 (by decide)
    replace hm3_0 := At.grownOw hm3_0 hpo hG75 (by decide)
    replace hm6_2 := At.grownOw hm6_2 hpo hG75 (by decide)
    replace hm7_8 := At.grownOwNe hm7_8 no_vp_b7_8 hG75
    clear hG75
    clear hpo
    refine WL_step (dd := none) rfl rfl rfl (Y_store1 (v := v10_3) rfl rfl tb_sc62 (SlT.one ho10_3.sl) hm3_0 (by simp) (fun W77 hG78 hm79 => ?_))
    replace hB := below_grown hB hG78 (Nat.le_refl _) (fun j hj => by cases hj; exact lo_b3_0)
    replace hm0_0 := At.grownAt hm0_0 hm3_0 hG78 (by decide)
    replace hm0_1 := At.grownAt hm0_1 hm3_0 hG78 (by decide)
    replace hm0_2 := At.grownAt hm0_2 hm3_0 hG78 (by decide)
    replace hm6_2 := At.grownAt hm6_2 hm3_0 hG78 (by decide)
    replace hm7_8 := At.grownAt hm7_8 hm3_0 hG78 (by decide)
    replace ho10_3 := OwT.grownAt ho10_3 hm3_0 hG78 (by decide)
    clear hG78 hm3_0
    have hm3_0 := hm79
    clear hm79
    replace hm3_0 : At _ _ #[_] _ := hm3_0
    refine WL_nil ?_
    refine hK42 _ _ ?_
    clear hK42 K41
    refine WC_region ?_
    refine WL_val (dd := some 44) rfl rfl rfl (r_addI rfl rfl (by omega) (by omega)) ?_
    refine WL_val (dd := some 24) rfl rfl rfl (r_move (v := .int .i64 _) rfl) ?_
    refine WL_nil ?_
    refine hJ36 _ _ ((k + 1, v10_3)) ?_ ?_ ?_ ?_
    · repeat (first | exact agree.mask _ _ _ | refine agree.updo ?_ rfl _ | refine agree.updL ?_ _ rfl | refine agree.maskS rfl ?_)
    · exact ⟨rfl, trivial⟩
    · exact ⟨hB, hm0_0, hm0_1, hm0_2, hm3_0, (by rw [← ptsF_snoc (by omega)]; exact ho10_3), (by omega), (upTo_succ hq hrr), trivial⟩
    · show l.length - (k + 1) < l.length - k; omega
  ·
   try with_reducible replace hc1 := of_decide_eq_false hc1
   refine WC_exit ?_
   refine hK30 _ _ ?_
   clear hK40 K39
   clear hJ36 J35
   clear hK30 K29
   refine WC_seq (fun K80 hK81 => ?_)
   refine WC_seq (fun K82 hK83 => ?_)
   obtain rfl : k = l.length := by omega
   refine WC_region ?_
   refine WL_val (dd := some 45) rfl rfl rfl (r_load1 (v := xa) rfl tb_sc65 (At.cell hm0_1 rfl)) ?_
   refine WL_val (dd := some 46) rfl rfl rfl (r_lenS (v := xa) rfl (Below.slT hB hl) tb_el65) ?_
   refine WL_val (dd := some 47) rfl rfl rfl (r_gtr rfl rfl) ?_
   refine WL_nil ?_
   refine hK83 _ _ ?_
   clear hK83 K82
   refine WC_cond (b := _) rfl (fun hc3 => ?_) (fun hc3 => ?_)
   ·
    try with_reducible replace hc3 := of_decide_eq_true hc3
    refine WC_seq (fun K84 hK85 => ?_)
    refine WC_region ?_
    refine WL_val (dd := some 48) rfl rfl rfl (tb_build56_ ) ?_
    refine WL_step (dd := none) rfl rfl rfl (Y_storeW rfl rfl tb_ag56 rfl hm0_2 rfl (by rfl) (fun W86 hG87 hm88 => ?_))
    replace hB := below_grown hB hG87 (Nat.le_refl _) (fun j hj => by cases hj; exact lo_b0_2)
    replace hm0_0 := At.grownAt hm0_0 hm0_2 hG87 (by decide)
    replace hm0_1 := At.grownAt hm0_1 hm0_2 hG87 (by decide)
    replace hm3_0 := At.grownAt hm3_0 hm0_2 hG87 (by decide)
    replace hpo := OwT.grownAt hpo hm0_2 hG87 (by decide)
    clear hG87 hm0_2
    have hm0_2 := hm88
    clear hm88
    refine WL_val (dd := some 5) rfl rfl rfl (r_assign (v := .int .i64 3) rfl) ?_
    refine WL_nil ?_
    refine hK85 _ _ ?_
    clear hK85 K84
    refine WC_ret ?_
    repeat (first | refine thenQ_ret ?_ | refine blockQ_ret ?_)
    try clear hK81 K80
    refine ret_ct rfl tb_ag56 hm0_2 rfl (v1 := .int .i64 3) rfl ?_
    refine ⟨hB, ?_⟩
    rw [may_3 hr hq (by omega), if_neg (by decide)]
   ·
    try with_reducible replace hc3 := of_decide_eq_false hc3
    refine WC_skip ?_
    refine hK81 _ _ ?_
    clear hK81 K80
    refine WC_seq (fun K89 hK90 => ?_)
    refine WC_region ?_
    refine WL_val (dd := some 49) rfl rfl rfl (r_load1 (v := xa) rfl tb_sc65 (At.cell hm0_1 rfl)) ?_
    refine WL_val (dd := some 50) rfl rfl rfl (r_lenS (v := xa) rfl (Below.slT hB hl) tb_el65) ?_
    refine WL_val (dd := some 51) rfl rfl rfl (tb_build56_0 (h0 := rfl) (k0 := rfl) (c0_0 := .int .i64 _)) ?_
    refine WL_step (dd := some 11) rfl rfl rfl (Y_alloc tb_z56 rfl (fun b14_3 W91 hb92 hE93 hm14_3 => ?_))
    have lo_b14_3 : w.heap.size ≤ b14_3 := hb92 ▸ (Below.size hB)
    have ne_b0_2_b14_3 : b0_2 ≠ b14_3 := Nat.ne_of_lt (hb92 ▸ hm0_2.lt)
    clear hb92
    replace hB := below_ext hB hE93 (Nat.le_refl _)
    replace hm0_0 := hE93.at hm0_0
    replace hm0_1 := hE93.at hm0_1
    replace hm0_2 := hE93.at hm0_2
    replace hm3_0 := hE93.at hm3_0
    replace hpo := hE93.ow hpo
    clear hE93
    refine WL_step (dd := none) rfl rfl rfl (Y_storeW rfl rfl tb_ag56 rfl hm14_3 rfl (by rfl) (fun W94 hG95 hm96 => ?_))
    replace hB := below_grown hB hG95 (Nat.le_refl _) (fun j hj => by cases hj; exact lo_b14_3)
    replace hm0_0 := At.grownAt hm0_0 hm14_3 hG95 (by decide)
    replace hm0_1 := At.grownAt hm0_1 hm14_3 hG95 (by decide)
    replace hm0_2 := At.grownNe hm0_2 ne_b0_2_b14_3 hG95
    replace hm3_0 := At.grownAt hm3_0 hm14_3 hG95 (by decide)
    replace hpo := OwT.grownAt hpo hm14_3 hG95 (by decide)
    clear hG95 hm14_3
    have hm14_3 := hm96
    clear hm96
    refine WL_nil ?_
    refine hK90 _ _ ?_
    clear hK90 K89
    refine WC_seq (fun K97 hK98 => ?_)
    refine WC_region ?_
    refine WL_step (dd := some 52) rfl rfl rfl (Y_makeMap (enc := keyW) (encV := Value.bool) (fun b15_0 W99 hb100 hE101 hm15_0 => ?_))
    have lo_b15_0 : w.heap.size ≤ b15_0 := hb100 ▸ (Below.size hB)
    clear hb100
    replace hB := below_ext hB hE101 (Nat.le_refl _)
    replace hm0_0 := hE101.at hm0_0
    replace hm0_1 := hE101.at hm0_1
    replace hm0_2 := hE101.at hm0_2
    replace hm3_0 := hE101.at hm3_0
    replace hpo := hE101.ow hpo
    replace hm14_3 := hE101.at hm14_3
    clear hE101
    replace hm15_0 : MapT keyW Value.bool _ _ (allT (([] : List (List Int)).map wordL)) := hm15_0
    refine WL_step (dd := some 12) rfl rfl rfl (Y_alloc tb_z113 rfl (fun b15_1 W102 hb103 hE104 hm15_1 => ?_))
    have lo_b15_1 : w.heap.size ≤ b15_1 := hb103 ▸ (Below.size hB)
    clear hb103
    replace hB := below_ext hB hE104 (Nat.le_refl _)
    replace hm0_0 := hE104.at hm0_0
    replace hm0_1 := hE104.at hm0_1
    replace hm0_2 := hE104.at hm0_2
    replace hm3_0 := hE104.at hm3_0
    replace hpo := hE104.ow hpo
    replace hm14_3 := hE104.at hm14_3
    replace hm15_0 := hE104.mapT hm15_0
    clear hE104
    refine WL_step (dd := none) rfl rfl rfl (Y_store1 (v := .map (some b15_0)) rfl rfl tb_sc113 rfl hm15_1 (by exact Nat.zero_lt_one) (fun W105 hG106 hm107 => ?_))
    replace hB := below_grown hB hG106 (Nat.le_refl _) (fun j hj => by cases hj; exact lo_b15_1)
    replace hm0_0 := At.grownAt hm0_0 hm15_1 hG106 (by decide)
    replace hm0_1 := At.grownAt hm0_1 hm15_1 hG106 (by decide)
    replace hm0_2 := At.grownAt hm0_2 hm15_1 hG106 (by decide)
    replace hm3_0 := At.grownAt hm3_0 hm15_1 hG106 (by decide)
    replace hpo := OwT.grownAt hpo hm15_1 hG106 (by decide)
    replace hm14_3 := At.grownAt hm14_3 hm15_1 hG106 (by decide)
    replace hm15_0 := MapT.grownAt hm15_0 hm15_1 hG106
    clear hG106 hm15_1
    have hm15_1 := hm107
    clear hm107
    replace hm15_1 : At _ _ #[_] _ := hm15_1
    refine WL_nil ?_
    refine hK98 _ _ ?_
    clear hK98 K97
    refine WC_seq (fun K108 hK109 => ?_)
    refine WC_region ?_
    refine WL_val (dd := some 53) rfl rfl rfl (r_makeFunc (vs := #[.pointer (some ⟨b0_1, 0, none⟩), .pointer (some ⟨b3_0, 0, none⟩), .pointer (some ⟨b15_1, 0, none⟩), .pointer (some ⟨b14_3, 0, none⟩)]) (by simp only [List.map_toArray, List.map_cons, List.map_nil]; rfl)) ?_
    refine WL_val (dd := some 13) rfl rfl rfl (r_assign (v := .func (.func 106) #[] #[.pointer (some ⟨b0_1, 0, none⟩), .pointer (some ⟨b3_0, 0, none⟩), .pointer (some ⟨b15_1, 0, none⟩), .pointer (some ⟨b14_3, 0, none⟩)]) rfl) ?_
    refine WL_nil ?_
    refine hK109 _ _ ?_
    clear hK109 K108
    refine WC_seq (fun K110 hK111 => ?_)
    refine WC_seq (fun K112 hK113 => ?_)
    refine WC_region ?_
    refine WL_val (dd := some 54) rfl rfl rfl (r_fieldAddr (b := _) (o := _) rfl tb_fo64_1) ?_
    refine WL_val (dd := some 55) rfl rfl rfl (r_load1 (v := onV) rfl tb_sc62 (At.cell hm0_0 rfl)) ?_
    refine WL_val (dd := some 56) rfl rfl rfl (r_lenS (v := onV) rfl (Below.slT hB hon) tb_el62) ?_
    refine WL_val (dd := some 57) rfl rfl rfl (r_move (v := .int .i64 0) rfl) ?_
    refine WL_nil ?_
    refine hK113 _ _ ?_
    clear hK113 K112
    refine WC_block ?_
    refine WC_loop (σ := (Nat) × (Value) × (List Value)) [14, 15, 17, 57, 58, 59, 60, 61, 62, 63, 64, 65, 66, 67, 68, 69, 70, 71, 72, 73, 74] (fun (o, rv, vs) => [(57, .int .i64 (o : Int))]) (fun sg W => match sg with | (o, rv, vs) => (Below w.heap.size w W) ∧ (At W b0_0 _ 64) ∧ (At W b0_1 _ 65) ∧ (At W b0_2 _ 56) ∧ (At W b3_0 _ 62) ∧ (OwT encS 4 24 W w.heap.size vp _) ∧ (At W b15_1 _ 113) ∧ (MapT keyW Value.bool W b15_0 (allT ((mOuts S l o).map wordL))) ∧ (At W b14_3 #[.int .i64 (l.length : Int), rv] 56) ∧ (OwT encV 1 57 W w.heap.size rv vs) ∧ (LO 3 w.heap.size W vs (sortM (mOuts S l o))) ∧ (o ≤ S.on.length) ∧ (True)) (fun (o, rv, vs) => S.on.length - o) ((0, .slice none 0 0, [])) ⟨rfl, trivial⟩ ⟨hB, hm0_0, hm0_1, hm0_2, hm3_0, hpo, hm15_1, hm15_0, hm14_3, OwT.nil, LO.nil, (Nat.zero_le _), trivial⟩ ?_
    clear hB hm0_0 hm0_1 hm0_2 hm3_0 hpo hm14_3 hm15_0 hm15_1
    rintro ⟨o, rv, vs⟩ g115 W114 ⟨hB, hm0_0, hm0_1, hm0_2, hm3_0, hpo, hm15_1, hm15_0, hm14_3, hrv, hLO, ho, _⟩ J116 hJ117
    refine WC_seq (fun K118 hK119 => ?_)
    refine WC_region ?_
    refine WL_val (dd := some 58) rfl rfl rfl (r_lss rfl rfl) ?_
    refine WL_nil ?_
    refine hK119 _ _ ?_
    clear hK119 K118
    refine WC_seq (fun K120 hK121 => ?_)
    refine WC_cond (b := _) rfl (fun hc4 => ?_) (fun hc4 => ?_)
    ·
     try with_reducible replace hc4 := of_decide_eq_true hc4
     refine WC_skip ?_
     refine hK121 _ _ ?_
     clear hK121 K120
     refine WC_seq (fun K122 hK123 => ?_)
     refine WC_block ?_
     refine WC_seq (fun K124 hK125 => ?_)
     refine WC_region ?_
     refine WL_val (dd := some 59) rfl rfl rfl (r_move (v := .int .i64 _) rfl) ?_
     refine WL_val (dd := some 60) rfl rfl rfl (r_idxS (v := onV) rfl (Below.slT hB hon) rfl tb_el62 (by omega) (by first | omega | (simp only [flagsTo_len, litsTo_len, firstF_len, ptF_len, setF_len]; omega))) ?_
     refine WL_val (dd := some 61) rfl rfl rfl (r_load4 rfl tb_ag24 (SlT.cell (Below.slT hB hon) encS_len 0 (by omega) (by first | omega | (simp only [flagsTo_len, litsTo_len, firstF_len, ptF_len, setF_len]; omega)) 0 rfl) (SlT.cell (Below.slT hB hon) encS_len 0 (by omega) (by first | omega | (simp only [flagsTo_len, litsTo_len, firstF_len, ptF_len, setF_len]; omega)) 1 rfl) (SlT.cell (Below.slT hB hon) encS_len 0 (by omega) (by first | omega | (simp only [flagsTo_len, litsTo_len, firstF_len, ptF_len, setF_len]; omega)) 2 rfl) (SlT.cell (Below.slT hB hon) encS_len 0 (by omega) (by first | omega | (simp only [flagsTo_len, litsTo_len, firstF_len, ptF_len, setF_len]; omega)) 3 rfl)) ?_
     refine WL_step (dd := some 15) rfl rfl rfl (Y_alloc tb_z24 rfl (fun b19_3 W126 hb127 hE128 hm19_3 => ?_))
     have lo_b19_3 : w.heap.size ≤ b19_3 := hb127 ▸ (Below.size hB)
     have no_vp_b19_3 := OwT.neB (b := b19_3) hpo (Nat.le_of_eq hb127.symm)
     clear hb127
     replace hB := below_ext hB hE128 (Nat.le_refl _)
     replace hm0_0 := hE128.at hm0_0
     replace hm0_1 := hE128.at hm0_1
     replace hm0_2 := hE128.at hm0_2
     replace hm3_0 := hE128.at hm3_0
     replace hpo := hE128.ow hpo
     replace hm15_1 := hE128.at hm15_1
     replace hm15_0 := hE128.mapT hm15_0
     replace hm14_3 := hE128.at hm14_3
     replace hrv := hE128.ow hrv
     replace hLO := LO.ext hE128 hLO
     clear hE128
     replace hm19_3 : At W126 b19_3 #[wv 0 0, wv 0 1, wv 0 2, wv 0 3] 24 := hm19_3
     refine WL_val (dd := some 14) rfl rfl rfl (r_assign (v := .int .i64 _) rfl) ?_
     refine WL_step (dd := none) rfl rfl rfl (Y_storeW rfl rfl tb_ag24 rfl hm19_3 rfl (by rfl) (fun W129 hG130 hm131 => ?_))
     replace hB := below_grown hB hG130 (Nat.le_refl _) (fun j hj => by cases hj; exact lo_b19_3)
     replace hm0_0 := At.grownAt hm0_0 hm19_3 hG130 (by decide)
     replace hm0_1 := At.grownAt hm0_1 hm19_3 hG130 (by decide)
     replace hm0_2 := At.grownAt hm0_2 hm19_3 hG130 (by decide)
     replace hm3_0 := At.grownAt hm3_0 hm19_3 hG130 (by decide)
     replace hpo := OwT.grownAtNe hpo no_vp_b19_3 hG130
     replace hm15_1 := At.grownAt hm15_1 hm19_3 hG130 (by decide)
     replace hm15_0 := MapT.grownAt hm15_0 hm19_3 hG130
     replace hm14_3 := At.grownAt hm14_3 hm19_3 hG130 (by decide)
     replace hrv := OwT.grownAt hrv hm19_3 hG130 (by decide)
     replace hLO := LO.grownAt hLO hm19_3 hG130 (by decide)
     clear hG130 hm19_3
     have hm19_3 := hm131
     clear hm131
     refine WL_nil ?_
     refine hK125 _ _ ?_
     clear hK125 K124
     refine WC_seq (fun K132 hK133 => ?_)
     refine WC_region ?_
     refine WL_val (dd := some 62) rfl rfl rfl (r_loadW rfl tb_ag24 rfl hm19_3) ?_
     refine WL_call (dd := some 63) rfl rfl rfl (r_call1 tb_c83 (v0 := .agg #[_, _, _, _]) rfl) (C_set_List (S.on.getD o 0) _) (fun v20_1 W134 hE135 hP20_1 => ?_)
     have hsz136 := (Below.size hB)
     replace hB := below_ext hB hE135 (Nat.le_refl _)
     replace hm0_0 := hE135.at hm0_0
     replace hm0_1 := hE135.at hm0_1
     replace hm0_2 := hE135.at hm0_2
     replace hm3_0 := hE135.at hm3_0
     replace hpo := hE135.ow hpo
     replace hm15_1 := hE135.at hm15_1
     replace hm15_0 := hE135.mapT hm15_0
     replace hm14_3 := hE135.at hm14_3
     replace hrv := hE135.ow hrv
     replace hLO := LO.ext hE135 hLO
     replace hm19_3 := hE135.at hm19_3
     clear hE135
     replace hP20_1 := OwT.mono hP20_1 hsz136
     clear hsz136
     refine WL_val (dd := some 64) rfl rfl rfl (r_lenS (v := v20_1) rfl hP20_1.sl tb_el57) ?_
     refine WL_val (dd := some 65) rfl rfl rfl (r_move (v := .int .i64 0) rfl) ?_
     refine WL_nil ?_
     refine hK133 _ _ ?_
     clear hK133 K132
     refine WC_block ?_
     refine WC_loop (σ := (Nat) × (Value) × (List Value)) [17, 65, 66, 67, 68, 69, 70, 71, 72, 73] (fun (k, rv2, vs2) => [(65, .int .i64 (k : Int))]) (fun sg W => match sg with | (k, rv2, vs2) => (Below w.heap.size w W) ∧ (At W b0_0 _ 64) ∧ (At W b0_1 _ 65) ∧ (At W b0_2 _ 56) ∧ (At W b3_0 _ 62) ∧ (OwT encS 4 24 W w.heap.size vp _) ∧ (At W b15_1 _ 113) ∧ (OwT encI 1 3 W w.heap.size v20_1 _) ∧ (MapT keyW Value.bool W b15_0 (allT ((mPts l o (listS (S.on.getD o 0)) (mOuts S l o) k).map wordL))) ∧ (At W b14_3 #[.int .i64 (l.length : Int), rv2] 56) ∧ (OwT encV 1 57 W w.heap.size rv2 vs2) ∧ (LO 3 w.heap.size W vs2 (sortM (mPts l o (listS (S.on.getD o 0)) (mOuts S l o) k))) ∧ (k ≤ (listS (S.on.getD o 0)).length) ∧ (True)) (fun (k, rv2, vs2) => (listS (S.on.getD o 0)).length - k) ((0, rv, vs)) ⟨rfl, trivial⟩ ⟨hB, hm0_0, hm0_1, hm0_2, hm3_0, hpo, hm15_1, hP20_1, hm15_0, hm14_3, hrv, hLO, (Nat.zero_le _), trivial⟩ ?_
     clear hB hm0_0 hm0_1 hm0_2 hm3_0 hpo hm15_1 hm15_0 hm14_3 hrv hLO hm19_3 hP20_1
     rintro ⟨k, rv2, vs2⟩ g138 W137 ⟨hB, hm0_0, hm0_1, hm0_2, hm3_0, hpo, hm15_1, hP20_1, hm15_0, hm14_3, hrv2, hLO2, hk, _⟩ J139 hJ140
     refine WC_seq (fun K141 hK142 => ?_)
     refine WC_region ?_
     refine WL_val (dd := some 66) rfl rfl rfl (r_lss rfl rfl) ?_
     refine WL_nil ?_
     refine hK142 _ _ ?_
     clear hK142 K141
     refine WC_seq (fun K143 hK144 => ?_)
     refine WC_cond (b := _) rfl (fun hc5 => ?_) (fun hc5 => ?_)
     ·
      try with_reducible replace hc5 := of_decide_eq_true hc5
      refine WC_skip ?_
      refine hK144 _ _ ?_
      clear hK144 K143
      refine WC_seq (fun K145 hK146 => ?_)
      refine WC_block ?_
      refine WC_seq (fun K147 hK148 => ?_)
      refine WC_region ?_
      refine WL_val (dd := some 67) rfl rfl rfl (r_idxS (v := v20_1) rfl hP20_1.sl rfl tb_el57 (by omega) (by first | omega | (simp only [flagsTo_len, litsTo_len, firstF_len, ptF_len, setF_len]; omega))) ?_
      refine WL_val (dd := some 68) rfl rfl rfl (r_load1 (v := .int .i64 _) rfl tb_sc3 (SlT.cell hP20_1.sl encI_len 0 (by omega) (by first | omega | (simp only [flagsTo_len, litsTo_len, firstF_len, ptF_len, setF_len]; omega)) 0 rfl)) ?_
      refine WL_val (dd := some 17) rfl rfl rfl (r_assign (v := .int .i64 _) rfl) ?_
      refine WL_nil ?_
      refine hK148 _ _ ?_
      clear hK148 K147
      have hls := listS_len (S.on.getD o 0)
      obtain ⟨p, hp2, hpb, hpe⟩ := listS_get (s := S.on.getD o 0) (i := k) (by omega)
      have hp3 : 0 ≤ (listS (S.on.getD o 0)).getD k 0 ∧ ((listS (S.on.getD o 0)).getD k 0).toNat < 2 ^ S.n.toNat := by rw [hpe]; exact ⟨by omega, by rw [Int.toNat_natCast]; exact on_lt hr (by omega) hpb hp2⟩
      refine WC_region ?_
      refine WL_val (dd := some 69) rfl rfl rfl (r_move (v := .func (.func 106) #[] #[.pointer (some ⟨b0_1, 0, none⟩), .pointer (some ⟨b3_0, 0, none⟩), .pointer (some ⟨b15_1, 0, none⟩), .pointer (some ⟨b14_3, 0, none⟩)]) rfl) ?_
      refine WL_val (dd := some 70) rfl rfl rfl (r_move (v := .int .i64 _) rfl) ?_
      refine WL_val (dd := some 71) rfl rfl rfl (r_move (v := .int .i64 _) rfl) ?_
      refine WL_callG (dd := some 72) rfl rfl rfl (r_call (q := 106) (first := #[]) (cap := #[.pointer (some ⟨b0_1, 0, none⟩), .pointer (some ⟨b3_0, 0, none⟩), .pointer (some ⟨b15_1, 0, none⟩), .pointer (some ⟨b14_3, 0, none⟩)]) (vs := #[.int .i64 _, .int .i64 _, .pointer (some ⟨b0_1, 0, none⟩), .pointer (some ⟨b3_0, 0, none⟩), .pointer (some ⟨b15_1, 0, none⟩), .pointer (some ⟨b14_3, 0, none⟩)]) rfl tb_c106 (by simp only [List.map_toArray, List.map_cons, List.map_nil, List.append_toArray, List.nil_append, List.cons_append]; rfl)) (C_ask w.heap.size o ((listS (S.on.getD o 0)).getD k 0) S.n l (mPts l o (listS (S.on.getD o 0)) (mOuts S l o) k) b0_1 b3_0 b15_1 b14_3 b15_0 b0_2 b0_0 xa _ rv2 v20_1 _ _ vs2 (listS (S.on.getD o 0)) _ (Below.size hB) (by omega) hp3 (by omega) hlr hq (mPts_nodup (mOuts_nodup S l o) k) (fun x hx => mPts_of hx) (mPts_lim (by omega) (by omega)) (Below.slT hB hl) hm0_1 hm3_0 hpo hm15_1 hm15_0 hm0_2 hm0_0 hP20_1 hm14_3 hrv2 hLO2 lo_b14_3 lo_b15_0 ne_b0_2_b14_3) (fun v23_3 W149 hP23_3 => ?_)
      obtain ⟨hBt, hm0_1, hm3_0, hpo, hm15_1, hm15_0, hm0_2, hm0_0, hP20_1, rv3, vs3, hm14_3, hrv3, hLO3⟩ := hP23_3
      replace hB := Below.trans hB hBt
      clear hrv2
      clear hLO2
      refine WL_nil ?_
      refine hK146 _ _ ?_
      clear hK146 K145
      refine WC_region ?_
      refine WL_val (dd := some 73) rfl rfl rfl (r_addI rfl rfl (by omega) (by omega)) ?_
      refine WL_val (dd := some 65) rfl rfl rfl (r_move (v := .int .i64 _) rfl) ?_
      refine WL_nil ?_
      refine hJ140 _ _ ((k + 1, rv3, vs3)) ?_ ?_ ?_ ?_
      · repeat (first | exact agree.mask _ _ _ | refine agree.updo ?_ rfl _ | refine agree.updL ?_ _ rfl | refine agree.maskS rfl ?_)
      · exact ⟨rfl, trivial⟩
      · exact ⟨hB, hm0_0, hm0_1, hm0_2, hm3_0, hpo, hm15_1, hP20_1, (by exact hm15_0), hm14_3, hrv3, hLO3, (by omega), trivial⟩
      · show (listS (S.on.getD o 0)).length - (k + 1) < (listS (S.on.getD o 0)).length - k; omega
     ·
      try with_reducible replace hc5 := of_decide_eq_false hc5
      refine WC_exit ?_
      refine hK123 _ _ ?_
      clear hK144 K143
      clear hJ140 J139
      clear hK123 K122
      obtain rfl : k = (listS (S.on.getD o 0)).length := by omega
      refine WC_region ?_
      refine WL_val (dd := some 74) rfl rfl rfl (r_addI rfl rfl (by omega) (by omega)) ?_
      refine WL_val (dd := some 57) rfl rfl rfl (r_move (v := .int .i64 _) rfl) ?_
      refine WL_nil ?_
      refine hJ117 _ _ ((o + 1, rv2, vs2)) ?_ ?_ ?_ ?_
      · repeat (first | exact agree.mask _ _ _ | refine agree.updo ?_ rfl _ | refine agree.updL ?_ _ rfl | refine agree.maskS rfl ?_)
      · exact ⟨rfl, trivial⟩
      · exact ⟨hB, hm0_0, hm0_1, hm0_2, hm3_0, hpo, hm15_1, (by exact hm15_0), hm14_3, hrv2, hLO2, (by omega), trivial⟩
      · show S.on.length - (o + 1) < S.on.length - o; omega
    ·
     try with_reducible replace hc4 := of_decide_eq_false hc4
     refine WC_exit ?_
     refine hK111 _ _ ?_
     clear hK121 K120
     clear hJ117 J116
     clear hK111 K110
     refine WC_seq (fun K151 hK152 => ?_)
     obtain rfl : o = S.on.length := by omega
     refine WC_region ?_
     refine WL_val (dd := some 75) rfl rfl rfl (r_loadW rfl tb_ag56 rfl hm14_3) ?_
     refine WL_step (dd := none) rfl rfl rfl (Y_storeW rfl rfl tb_ag56 rfl hm0_2 rfl (by simp only [List.all_cons, List.all_nil, OwT.one hrv, Bool.and_true]; rfl) (fun W153 hG154 hm155 => ?_))
     replace hB := below_grown hB hG154 (Nat.le_refl _) (fun j hj => by cases hj; exact lo_b0_2)
     replace hm0_0 := At.grownAt hm0_0 hm0_2 hG154 (by decide)
     replace hm0_1 := At.grownAt hm0_1 hm0_2 hG154 (by decide)
     replace hm3_0 := At.grownAt hm3_0 hm0_2 hG154 (by decide)
     replace hpo := OwT.grownAt hpo hm0_2 hG154 (by decide)
     replace hm15_1 := At.grownAt hm15_1 hm0_2 hG154 (by decide)
     replace hm15_0 := MapT.grownAt hm15_0 hm0_2 hG154
     replace hm14_3 := At.grownNe hm14_3 (Ne.symm ne_b0_2_b14_3) hG154
     replace hrv := OwT.grownAt hrv hm0_2 hG154 (by decide)
     replace hLO := LO.grownAt hLO hm0_2 hG154 (by decide)
     clear hG154 hm0_2
     have hm0_2 := hm155
     clear hm155
     refine WL_val (dd := some 5) rfl rfl rfl (r_assign (v := .int .i64 0) rfl) ?_
     refine WL_nil ?_
     refine hK152 _ _ ?_
     clear hK152 K151
     refine WC_ret ?_
     repeat (first | refine thenQ_ret ?_ | refine blockQ_ret ?_)
     refine ret_ct rfl tb_ag56 hm0_2 rfl (v1 := .int .i64 0) rfl ?_
     refine ⟨hB, ?_⟩
     rw [if_pos (may_0 hr hq (by omega))]
     exact ⟨_, _, rfl, hrv, hLO⟩

end Go.Proofs.Ytdbcijijhhbkaaa
