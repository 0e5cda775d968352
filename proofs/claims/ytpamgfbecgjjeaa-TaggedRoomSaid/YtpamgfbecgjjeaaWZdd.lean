/-
  The walks of arenas and diagrams: nodes, levels, halves.
-/
import Derived.Test.YtpamgfbecgjjeaaProg
import Derived.Test.YtpamgfbecgjjeaaZ1
namespace Go.Proofs.Ytpamgfbecgjjeaa
set_option linter.unusedVariables false
set_option linter.unusedSimpArgs false
open Go Go.RowKit

theorem tb_fo147_1 : fieldO Try.prog 147 1 = some 1 := by kernel_rfl
theorem tb_sc145 : scalarB Try.prog 145 = true := by kernel_rfl
theorem tb_el145 : elemI Try.prog 145 = some (150, 3, 24) := by kernel_rfl
theorem tb_fo150_0 : fieldO Try.prog 150 0 = some 0 := by kernel_rfl
theorem tb_sc3 : scalarB Try.prog 3 = true := by kernel_rfl
theorem tb_c124 : callB Try.prog 124 = true := by kernel_rfl
theorem tb_c146 : callB Try.prog 146 = true := by kernel_rfl
theorem tb_z150 : zeroI Try.prog 150 = some (.agg #[.int .i64 0, .int .i64 0, .int .i64 0]) := by kernel_rfl
theorem tb_size3 : (Try.prog.info? 3).map (·.size) = some 1 := by kernel_rfl
theorem tb_build150_0_1_2 {f : Nat → Value} {w : World} {d : Option Nat} {ty : TypeId} {ps : String} {af : Array Edge} {g : Option (Nat × Bool)} {x0 x1 x2 : Operand} {c0_0 c1_0 c2_0 : Value} (h0 : evF f x0 = c0_0) (k0 : c0_0.cells = #[c0_0]) (h1 : evF f x1 = c1_0) (k1 : c1_0.cells = #[c1_0]) (h2 : evF f x2 = c2_0) (k2 : c2_0.cells = #[c2_0]) :
    (execOp (evF f) ⟨d, .build 150 #[(0, x0), (1, x1), (2, x2)], ty, ps, af, g⟩).run Try.prog w = .ok (.value (.agg #[c0_0, c1_0, c2_0])) w := by
  obtain ⟨i0, hi0, hz0⟩ := Option.bind_eq_some_iff.1 (show (Try.prog.info? 150).bind (·.zero) = _ from tb_z150)
  obtain ⟨j3, hj3, hs3⟩ := Option.map_eq_some_iff.1 tb_size3
  simp [execOp, h0, k0, h1, k1, h2, k2, Instr.build, zeroValue, typeInfo, sizeOf, hi0, hz0, run_underlying Try.underlying150, Instr.fill, cells_agg, hj3, hs3]
theorem tb_ag150 : aggN Try.prog 150 = some 3 := by kernel_rfl
theorem tb_mix : Try.prog.follows .mixedOrders = true := by kernel_rfl
theorem tb_fo147_2 : fieldO Try.prog 147 2 = some 2 := by kernel_rfl
theorem tb_sc144 : scalarB Try.prog 144 = true := by kernel_rfl
theorem tb_mp144 : isMap Try.prog 144 = some (150, 3) := by kernel_rfl
theorem tb_eq150 {f : Nat → Value} {w : World} {d : Option Nat} {ty t2 : TypeId} {ps : String} {af : Array Edge} {g : Option (Nat × Bool)} {x y : Operand} {a0 a1 a2 b0 b1 b2 : Int} (hx : evF f x = .agg #[.int .i64 a0, .int .i64 a1, .int .i64 a2]) (hy : evF f y = .agg #[.int .i64 b0, .int .i64 b1, .int .i64 b2]) :
    (execOp (evF f) ⟨d, .binOp .eql 150 x y t2, ty, ps, af, g⟩).run Try.prog w = .ok (.value (.bool (decide ((a0 = b0 ∧ a1 = b1 ∧ a2 = b2))))) w := by
  have hg : Try.prog.eqGuardType Try.prog.depth 150 = false := by kernel_rfl
  have hp150 : Try.prog.stoodInHeld 150 = false := by kernel_rfl
  have hu150 : Try.prog.underlying 150 = some (.struct (Try.prog.fieldsOf 150)) := by kernel_rfl
  simp only [execOp, hx, hy, Sem.run_bind, run_eqGuard_agg _ _ _ _ _ _ _ hg, Result.andThen_ok, run_eql_struct, run_equalIn_agg _ 9999 150 _ _ hu150 hp150]
  simp only [Program.fieldsOf, Try.underlying150]
  simp [Op.eqFields, part, isAgg, run_equalIn_int _ 9998 3 _ _ _ _ Try.underlying3, run_underlying Try.underlying3]
  by_cases q0 : a0 = b0 <;> by_cases q1 : a1 = b1 <;> by_cases q2 : a2 = b2 <;> simp [q0, q1, q2]
theorem tb_key150 : KeyOk Try.prog 150 (fun v => ∃ a : Nd, v = keyN a) := by
  refine keyOk_of Try.underlying150 ?_ ?_ ?_ ?_
  · rintro w _ _ ⟨a, rfl⟩ ⟨c, rfl⟩
    have hg : Try.prog.eqGuardType Try.prog.depth 150 = false := by kernel_rfl
    exact ⟨_, equal_agg hg (tb_eq150 rfl rfl), by rw [decide_eq_true_eq]; constructor <;> intro h <;> simpa [keyN] using h⟩
  · rintro _ _ ⟨a, rfl⟩ ⟨c, rfl⟩
    exact .inl rfl
  · rintro w em _ ⟨a, rfl⟩
    have h2 : ∀ k, (Instr.checkKey em (k + 1 + 1 + 1) 150 (keyN a)).run Try.prog w = .ok () w := fun k => by
      simp [keyN, Instr.checkKey, part, isAgg, run_underlying Try.underlying150, run_underlying Try.underlying3]
    exact h2 9997
  · rintro _ ⟨a, rfl⟩
    simp [keyN, Instr.sameBits]
theorem tb_z3 : zeroI Try.prog 3 = some (.int .i64 0) := by kernel_rfl
theorem tb_fo147_0 : fieldO Try.prog 147 0 = some 0 := by kernel_rfl
theorem tb_zs150 : (zeroI Try.prog 150).map (fun z => z.cells.size) = some 3 := by kernel_rfl
theorem tb_fo150_1 : fieldO Try.prog 150 1 = some 1 := by kernel_rfl
theorem tb_fo150_2 : fieldO Try.prog 150 2 = some 2 := by kernel_rfl
theorem tb_fo100_0 : fieldO Try.prog 100 0 = some 0 := by kernel_rfl
theorem tb_sc96 : scalarB Try.prog 96 = true := by kernel_rfl
theorem tb_c86 : callB Try.prog 86 = true := by kernel_rfl
theorem tb_el22 : elemI Try.prog 22 = some (3, 1, 8) := by kernel_rfl
theorem tb_c119 : callB Try.prog 119 = true := by kernel_rfl
theorem tb_c140 : callB Try.prog 140 = true := by kernel_rfl

theorem C___arena_Arena__there (N ba bm R : Nat) (ns : List Nd) (id : Int) (w : World) (hD : Dia 147 150 N ba bm R w ns) (hid : id ≤ 9223372036854775807) :
    Fn Try.prog 124 #[.pointer (some ⟨ba, 0, none⟩), .int .i64 id] w fun v w' => v = .bool (thereB ns id) := by
 refine Fn_intro (n := 29) Try.func124 rfl rfl (Nat.le_of_ble_eq_true rfl) ?_
 have hB : Below w.heap.size w w := Below.refl _ _
 obtain ⟨nv, hha, hno⟩ := hD.out
 have hmp := hD.hm
 have hwf := hD.wf
 have hroom := hD.room
 have htop := hD.top
 have hla := hD.la
 have hlm := hD.lm
 refine WC_seq (fun K1 hK2 => ?_)
 refine WC_region ?_
 refine WL_val (dd := some 4) rfl rfl rfl (r_assign (v := .bool false) rfl) ?_
 refine WL_nil ?_
 refine hK2 _ _ ?_
 clear hK2 K1
 refine WC_seq (fun K3 hK4 => ?_)
 refine WC_region ?_
 refine WL_val (dd := some 5) rfl rfl rfl (r_move (v := .int .i64 _) rfl) ?_
 refine WL_val (dd := some 6) rfl rfl rfl (r_geq rfl rfl) ?_
 refine WL_split (dd := some 7) rfl rfl rfl (r_move (v := .bool _) rfl) (fun hs1_2 => ?_) (fun hs1_2 => ?_)
 ·
  try with_reducible replace hs1_2 := of_decide_eq_true hs1_2
  refine WL_val (dd := some 8) rfl rfl rfl (r_move (v := .int .i64 _) rfl) ?_
  refine WL_val (dd := some 9) rfl rfl rfl (r_subI rfl rfl (by omega) (by omega)) ?_
  refine WL_val (dd := some 10) rfl rfl rfl (r_move (v := .pointer (some ⟨ba, 0, none⟩)) rfl) ?_
  refine WL_val (dd := some 11) rfl rfl rfl (r_nilCheck_ptr rfl) ?_
  refine WL_val (dd := some 12) rfl rfl rfl (r_fieldAddr (b := _) (o := _) rfl tb_fo147_1) ?_
  refine WL_val (dd := some 13) rfl rfl rfl (r_load1 (v := nv) rfl tb_sc145 (At.cell (Below.atI hB hha) rfl)) ?_
  refine WL_val (dd := some 14) rfl rfl rfl (r_lenS (v := nv) rfl ((Below.ow hB hno)).sl tb_el145) ?_
  refine WL_val (dd := some 15) rfl rfl rfl (r_lss rfl rfl) ?_
  refine WL_val (dd := some 16) rfl rfl rfl (r_pick_t rfl (v := .bool _) rfl) ?_
  refine WL_split (dd := some 17) rfl rfl rfl (r_move (v := .bool _) rfl) (fun hs1_12 => ?_) (fun hs1_12 => ?_)
  ·
   try with_reducible replace hs1_12 := of_decide_eq_true hs1_12
   refine WL_val (dd := some 18) rfl rfl rfl (r_move (v := .pointer (some ⟨ba, 0, none⟩)) rfl) ?_
   refine WL_val (dd := some 19) rfl rfl rfl (r_nilCheck_ptr rfl) ?_
   refine WL_val (dd := some 20) rfl rfl rfl (r_fieldAddr (b := _) (o := _) rfl tb_fo147_1) ?_
   refine WL_val (dd := some 21) rfl rfl rfl (r_load1 (v := nv) rfl tb_sc145 (At.cell (Below.atI hB hha) rfl)) ?_
   refine WL_val (dd := some 22) rfl rfl rfl (r_move (v := .int .i64 _) rfl) ?_
   refine WL_val (dd := some 23) rfl rfl rfl (r_subI rfl rfl (by omega) (by omega)) ?_
   refine WL_val (dd := some 24) rfl rfl rfl (r_idxS (v := nv) rfl ((Below.ow hB hno)).sl rfl tb_el145 (by omega) (by omega)) ?_
   refine WL_val (dd := some 25) rfl rfl rfl (r_fieldAddr (b := _) (o := _) rfl tb_fo150_0) ?_
   refine WL_val (dd := some 26) rfl rfl rfl (r_load1 (v := .int .i64 _) rfl tb_sc3 (SlT.cell ((Below.ow hB hno)).sl encN_len nd0 (by omega) (by omega) 0 rfl)) ?_
   refine WL_val (dd := some 27) rfl rfl rfl (r_neq rfl rfl) ?_
   refine WL_val (dd := some 28) rfl rfl rfl (r_pick_t rfl (v := .bool _) rfl) ?_
   refine WL_val (dd := some 4) rfl rfl rfl (r_assign (v := .bool _) rfl) ?_
   refine WL_nil ?_
   refine hK4 _ _ ?_
   clear hK4 K3
   refine WC_ret ?_
   repeat (first | refine thenQ_ret ?_ | refine blockQ_ret ?_)
   refine ret_t (v := .bool _) rfl ?_
   refine ⟨hB, ?_⟩
   first | exact th_f1 hs1_2 | exact th_f2 hs1_12 | exact th_t hs1_2 hs1_12
  ·
   try with_reducible replace hs1_12 := of_decide_eq_false hs1_12
   refine WL_skip (dd := some 18) rfl rfl rfl ?_
   refine WL_skip (dd := some 19) rfl rfl rfl ?_
   refine WL_skip (dd := some 20) rfl rfl rfl ?_
   refine WL_skip (dd := some 21) rfl rfl rfl ?_
   refine WL_skip (dd := some 22) rfl rfl rfl ?_
   refine WL_skip (dd := some 23) rfl rfl rfl ?_
   refine WL_skip (dd := some 24) rfl rfl rfl ?_
   refine WL_skip (dd := some 25) rfl rfl rfl ?_
   refine WL_skip (dd := some 26) rfl rfl rfl ?_
   refine WL_skip (dd := some 27) rfl rfl rfl ?_
   refine WL_val (dd := some 28) rfl rfl rfl (r_pick_f rfl (v := .bool false) rfl) ?_
   refine WL_val (dd := some 4) rfl rfl rfl (r_assign (v := .bool false) rfl) ?_
   refine WL_nil ?_
   refine hK4 _ _ ?_
   clear hK4 K3
   refine WC_ret ?_
   repeat (first | refine thenQ_ret ?_ | refine blockQ_ret ?_)
   refine ret_t (v := .bool false) rfl ?_
   refine ⟨hB, ?_⟩
   first | exact th_f1 hs1_2 | exact th_f2 hs1_12 | exact th_t hs1_2 hs1_12
 ·
  try with_reducible replace hs1_2 := of_decide_eq_false hs1_2
  refine WL_skip (dd := some 8) rfl rfl rfl ?_
  refine WL_skip (dd := some 9) rfl rfl rfl ?_
  refine WL_skip (dd := some 10) rfl rfl rfl ?_
  refine WL_skip (dd := some 11) rfl rfl rfl ?_
  refine WL_skip (dd := some 12) rfl rfl rfl ?_
  refine WL_skip (dd := some 13) rfl rfl rfl ?_
  refine WL_skip (dd := some 14) rfl rfl rfl ?_
  refine WL_skip (dd := some 15) rfl rfl rfl ?_
  refine WL_val (dd := some 16) rfl rfl rfl (r_pick_f rfl (v := .bool false) rfl) ?_
  refine WL_val (dd := some 17) rfl rfl rfl (r_move (v := .bool false) rfl) ?_
  refine WL_skip (dd := some 18) rfl rfl rfl ?_
  refine WL_skip (dd := some 19) rfl rfl rfl ?_
  refine WL_skip (dd := some 20) rfl rfl rfl ?_
  refine WL_skip (dd := some 21) rfl rfl rfl ?_
  refine WL_skip (dd := some 22) rfl rfl rfl ?_
  refine WL_skip (dd := some 23) rfl rfl rfl ?_
  refine WL_skip (dd := some 24) rfl rfl rfl ?_
  refine WL_skip (dd := some 25) rfl rfl rfl ?_
  refine WL_skip (dd := some 26) rfl rfl rfl ?_
  refine WL_skip (dd := some 27) rfl rfl rfl ?_
  refine WL_val (dd := some 28) rfl rfl rfl (r_pick_f rfl (v := .bool false) rfl) ?_
  refine WL_val (dd := some 4) rfl rfl rfl (r_assign (v := .bool false) rfl) ?_
  refine WL_nil ?_
  refine hK4 _ _ ?_
  clear hK4 K3
  refine WC_ret ?_
  repeat (first | refine thenQ_ret ?_ | refine blockQ_ret ?_)
  refine ret_t (v := .bool false) rfl ?_
  refine ⟨hB, ?_⟩
  first | exact th_f1 hs1_2 | exact th_f2 hs1_12 | exact th_t hs1_2 hs1_12

theorem C___arena_Arena__level (N ba bm R : Nat) (ns : List Nd) (id : Nat) (w : World) (hD : Dia 147 150 N ba bm R w ns) (hid : id < ns.length + 2) :
    Fn Try.prog 146 #[.pointer (some ⟨ba, 0, none⟩), .int .i64 (id : Int)] w fun v w' => v = .int .i64 ((lvl ns id : Nat) : Int) := by
 refine Fn_intro (n := 25) Try.func146 rfl rfl (Nat.le_of_ble_eq_true rfl) ?_
 have hB : Below w.heap.size w w := Below.refl _ _
 obtain ⟨nv, hha, hno⟩ := hD.out
 have hmp := hD.hm
 have hwf := hD.wf
 have hroom := hD.room
 have htop := hD.top
 have hla := hD.la
 have hlm := hD.lm
 refine WC_seq (fun K1 hK2 => ?_)
 refine WC_region ?_
 refine WL_val (dd := some 4) rfl rfl rfl (r_assign (v := .int .i64 0) rfl) ?_
 refine WL_nil ?_
 refine hK2 _ _ ?_
 clear hK2 K1
 refine WC_seq (fun K3 hK4 => ?_)
 refine WC_block ?_
 refine WC_seq (fun K5 hK6 => ?_)
 refine WC_region ?_
 refine WL_val (dd := some 6) rfl rfl rfl (r_move (v := .int .i64 _) rfl) ?_
 refine WL_val (dd := some 7) rfl rfl rfl (r_eql rfl rfl) ?_
 refine WL_split (dd := some 8) rfl rfl rfl (r_move (v := .bool _) rfl) (fun hs1_2 => ?_) (fun hs1_2 => ?_)
 ·
  try with_reducible replace hs1_2 := of_decide_eq_true hs1_2
  refine WL_skip (dd := some 9) rfl rfl rfl ?_
  refine WL_skip (dd := some 10) rfl rfl rfl ?_
  refine WL_val (dd := some 11) rfl rfl rfl (r_pick_t rfl (v := .bool true) rfl) ?_
  refine WL_val (dd := some 5) rfl rfl rfl (r_assign (v := .bool true) rfl) ?_
  refine WL_nil ?_
  refine hK6 _ _ ?_
  clear hK6 K5
  refine WC_cond_true rfl ?_
  refine WC_seq (fun K7 hK8 => ?_)
  refine WC_region ?_
  refine WL_val (dd := some 4) rfl rfl rfl (r_assign (v := .int .i64 24) rfl) ?_
  refine WL_nil ?_
  refine hK8 _ _ ?_
  clear hK8 K7
  refine WC_ret ?_
  repeat (first | refine thenQ_ret ?_ | refine blockQ_ret ?_)
  try clear hK4 K3
  refine ret_t (v := .int .i64 24) rfl ?_
  refine ⟨hB, ?_⟩
  exact lv_s (.inl hs1_2)
 ·
  try with_reducible replace hs1_2 := of_decide_eq_false hs1_2
  refine WL_val (dd := some 9) rfl rfl rfl (r_move (v := .int .i64 _) rfl) ?_
  refine WL_val (dd := some 10) rfl rfl rfl (r_eql rfl rfl) ?_
  refine WL_val (dd := some 11) rfl rfl rfl (r_pick_f rfl (v := .bool _) rfl) ?_
  refine WL_val (dd := some 5) rfl rfl rfl (r_assign (v := .bool _) rfl) ?_
  refine WL_nil ?_
  refine hK6 _ _ ?_
  clear hK6 K5
  refine WC_cond (b := _) rfl (fun hc0 => ?_) (fun hc0 => ?_)
  ·
   try with_reducible replace hc0 := of_decide_eq_true hc0
   refine WC_seq (fun K9 hK10 => ?_)
   refine WC_region ?_
   refine WL_val (dd := some 4) rfl rfl rfl (r_assign (v := .int .i64 24) rfl) ?_
   refine WL_nil ?_
   refine hK10 _ _ ?_
   clear hK10 K9
   refine WC_ret ?_
   repeat (first | refine thenQ_ret ?_ | refine blockQ_ret ?_)
   try clear hK4 K3
   refine ret_t (v := .int .i64 24) rfl ?_
   refine ⟨hB, ?_⟩
   exact lv_s (.inr hc0)
  ·
   try with_reducible replace hc0 := of_decide_eq_false hc0
   refine WC_seq (fun K11 hK12 => ?_)
   refine WC_region ?_
   refine WL_val (dd := some 13) rfl rfl rfl (r_move (v := .pointer (some ⟨ba, 0, none⟩)) rfl) ?_
   refine WL_val (dd := some 14) rfl rfl rfl (r_move (v := .int .i64 _) rfl) ?_
   refine WL_call (dd := some 15) rfl rfl rfl (r_call2 tb_c124 (v0 := .pointer (some ⟨ba, 0, none⟩)) rfl (v1 := .int .i64 _) rfl) (C___arena_Arena__there _ _ _ _ _ _ _ (Dia.below hB hD) (by first | assumption | omega)) (fun v3_2 W13 hE14 hP3_2 => ?_)
   have hsz15 := (Below.size hB)
   replace hB := below_ext hB hE14 (Nat.le_refl _)
   clear hE14
   clear hsz15
   obtain rfl := hP3_2
   refine WL_val (dd := some 12) rfl rfl rfl (r_assign (v := .bool _) rfl) ?_
   refine WL_nil ?_
   refine hK12 _ _ ?_
   clear hK12 K11
   refine WC_cond (b := _) rfl (fun hc1 => ?_) (fun hc1 => ?_)
   ·
    try with_reducible replace hc1 := of_decide_eq_true hc1
    refine WC_seq (fun K16 hK17 => ?_)
    have hth := there_iff.1 hc1
    refine WC_region ?_
    refine WL_val (dd := some 16) rfl rfl rfl (r_move (v := .pointer (some ⟨ba, 0, none⟩)) rfl) ?_
    refine WL_val (dd := some 17) rfl rfl rfl (r_nilCheck_ptr rfl) ?_
    refine WL_val (dd := some 18) rfl rfl rfl (r_fieldAddr (b := _) (o := _) rfl tb_fo147_1) ?_
    refine WL_val (dd := some 19) rfl rfl rfl (r_load1 (v := nv) rfl tb_sc145 (At.cell (Below.atI hB hha) rfl)) ?_
    refine WL_val (dd := some 20) rfl rfl rfl (r_move (v := .int .i64 _) rfl) ?_
    refine WL_val (dd := some 21) rfl rfl rfl (r_subI rfl rfl (by omega) (by omega)) ?_
    refine WL_val (dd := some 22) rfl rfl rfl (r_idxS (v := nv) rfl ((Below.ow hB hno)).sl rfl tb_el145 (by omega) (by omega)) ?_
    refine WL_val (dd := some 23) rfl rfl rfl (r_fieldAddr (b := _) (o := _) rfl tb_fo150_0) ?_
    refine WL_val (dd := some 24) rfl rfl rfl (r_load1 (v := .int .i64 _) rfl tb_sc3 (SlT.cell ((Below.ow hB hno)).sl encN_len nd0 (by omega) (by omega) 0 rfl)) ?_
    refine WL_val (dd := some 4) rfl rfl rfl (r_assign (v := .int .i64 _) rfl) ?_
    refine WL_nil ?_
    refine hK17 _ _ ?_
    clear hK17 K16
    refine WC_ret ?_
    repeat (first | refine thenQ_ret ?_ | refine blockQ_ret ?_)
    try clear hK4 K3
    refine ret_t (v := .int .i64 _) rfl ?_
    refine ⟨hB, ?_⟩
    exact lv_n hs1_2 hc0
   ·
    try with_reducible replace hc1 := of_decide_eq_false hc1
    exact (lv_bad hid hs1_2 hc0 hc1).elim

theorem C___arena_Arena__Make (N ba bm R : Nat) (ns : List Nd) (l lo hi : Nat) (w : World) (hN0 : N ≤ w.heap.size) (hD : Dia 147 150 N ba bm R w ns) (hlo : lo < ns.length + 2) (hhi : hi < ns.length + 2) (h0 : hi ≠ 0) (l1 : l < lvl ns lo) (l2 : l < lvl ns hi) (h24 : l < 24) :
    FnG Try.prog 140 #[.pointer (some ⟨ba, 0, none⟩), .int .i64 (l : Int), .int .i64 (lo : Int), .int .i64 (hi : Int)] w fun v w' => PO 147 150 N ba bm R w ns (1) (l) (up l (M ns lo) (M ns hi)) v w' := by
 refine FnG_intro (n := 112) Try.func140 rfl rfl (Nat.le_of_ble_eq_true rfl) ?_
 have hB : Below N w w := Below.refl _ _
 obtain ⟨nv, hha, hno⟩ := hD.out
 have hmp := hD.hm
 have hwf := hD.wf
 have hroom := hD.room
 have htop := hD.top
 have hla := hD.la
 have hlm := hD.lm
 have hX : Dx 150 N [ba, bm] w w := Dx.refl
 have hil := idsL_len ns
 refine WC_seq (fun K1 hK2 => ?_)
 have hBo3 := hB
 replace hB := Below.refl w.heap.size w
 refine WC_region ?_
 refine WL_val (dd := some 8) rfl rfl rfl (r_assign (v := .int .i64 0) rfl) ?_
 refine WL_val (dd := some 9) rfl rfl rfl (r_assign (v := .int .i64 0) rfl) ?_
 refine WL_nil ?_
 refine hK2 _ _ ?_
 clear hK2 K1
 refine WC_seq (fun K4 hK5 => ?_)
 refine WC_seq (fun K6 hK7 => ?_)
 refine WC_region ?_
 refine WL_val (dd := some 14) rfl rfl rfl (r_move (v := .pointer (some ⟨ba, 0, none⟩)) rfl) ?_
 refine WL_val (dd := some 15) rfl rfl rfl (r_ptrNil rfl rfl Try.underlying96) ?_
 refine WL_val (dd := some 16) rfl rfl rfl (r_move (v := .bool false) rfl) ?_
 refine WL_val (dd := some 17) rfl rfl rfl (r_move (v := .int .i64 _) rfl) ?_
 refine WL_val (dd := some 18) rfl rfl rfl (r_lss rfl rfl) ?_
 refine WL_val (dd := some 19) rfl rfl rfl (r_pick_f rfl (v := .bool _) rfl) ?_
 refine WL_split (dd := some 20) rfl rfl rfl (r_move (v := .bool _) rfl) (fun hs1_6 => ?_) (fun hs1_6 => ?_)
 ·
  try with_reducible replace hs1_6 := of_decide_eq_true hs1_6
  exact absurd hs1_6 (by omega)
 ·
  try with_reducible replace hs1_6 := of_decide_eq_false hs1_6
  refine WL_val (dd := some 21) rfl rfl rfl (r_move (v := .pointer (some ⟨ba, 0, none⟩)) rfl) ?_
  refine WL_val (dd := some 22) rfl rfl rfl (r_move (v := .int .i64 _) rfl) ?_
  refine WL_call (dd := some 23) rfl rfl rfl (r_call2 tb_c146 (v0 := .pointer (some ⟨ba, 0, none⟩)) rfl (v1 := .int .i64 _) rfl) (C___arena_Arena__level _ _ _ _ _ _ _ (Dia.below hB hD) (by first | assumption | omega)) (fun v1_9 W8 hE9 hP1_9 => ?_)
  have hsz10 := (Below.size hB)
  replace hB := below_ext hB hE9 (Nat.le_refl _)
  clear hE9
  clear hsz10
  obtain rfl := hP1_9
  refine WL_val (dd := some 24) rfl rfl rfl (r_move (v := .int .i64 _) rfl) ?_
  refine WL_val (dd := some 25) rfl rfl rfl (r_leq rfl rfl) ?_
  refine WL_val (dd := some 26) rfl rfl rfl (r_pick_f rfl (v := .bool _) rfl) ?_
  refine WL_split (dd := some 27) rfl rfl rfl (r_move (v := .bool _) rfl) (fun hs1_13 => ?_) (fun hs1_13 => ?_)
  ·
   try with_reducible replace hs1_13 := of_decide_eq_true hs1_13
   exact absurd hs1_13 (by omega)
  ·
   try with_reducible replace hs1_13 := of_decide_eq_false hs1_13
   refine WL_val (dd := some 28) rfl rfl rfl (r_move (v := .pointer (some ⟨ba, 0, none⟩)) rfl) ?_
   refine WL_val (dd := some 29) rfl rfl rfl (r_move (v := .int .i64 _) rfl) ?_
   refine WL_call (dd := some 30) rfl rfl rfl (r_call2 tb_c146 (v0 := .pointer (some ⟨ba, 0, none⟩)) rfl (v1 := .int .i64 _) rfl) (C___arena_Arena__level _ _ _ _ _ _ _ (Dia.below hB hD) (by first | assumption | omega)) (fun v1_16 W11 hE12 hP1_16 => ?_)
   have hsz13 := (Below.size hB)
   replace hB := below_ext hB hE12 (Nat.le_refl _)
   clear hE12
   clear hsz13
   obtain rfl := hP1_16
   refine WL_val (dd := some 31) rfl rfl rfl (r_move (v := .int .i64 _) rfl) ?_
   refine WL_val (dd := some 32) rfl rfl rfl (r_leq rfl rfl) ?_
   refine WL_val (dd := some 33) rfl rfl rfl (r_pick_f rfl (v := .bool _) rfl) ?_
   refine WL_nil ?_
   refine hK7 _ _ ?_
   clear hK7 K6
   refine WC_cond (b := _) rfl (fun hc0 => ?_) (fun hc0 => ?_)
   ·
    try with_reducible replace hc0 := of_decide_eq_true hc0
    exact absurd hc0 (by omega)
   ·
    try with_reducible replace hc0 := of_decide_eq_false hc0
    refine WC_skip ?_
    refine hK5 _ _ ?_
    clear hK5 K4
    refine WC_seq (fun K14 hK15 => ?_)
    refine WC_region ?_
    refine WL_val (dd := some 34) rfl rfl rfl (r_move (v := .int .i64 _) rfl) ?_
    refine WL_val (dd := some 35) rfl rfl rfl (r_move (v := .int .i64 _) rfl) ?_
    refine WL_val (dd := some 36) rfl rfl rfl (r_move (v := .int .i64 _) rfl) ?_
    refine WL_val (dd := some 37) rfl rfl rfl (tb_build150_0_1_2 (h0 := rfl) (k0 := rfl) (h1 := rfl) (k1 := rfl) (h2 := rfl) (k2 := rfl) (c0_0 := .int .i64 _) (c1_0 := .int .i64 _) (c2_0 := .int .i64 _)) ?_
    refine WL_step (dd := some 10) rfl rfl rfl (Y_alloc tb_z150 rfl (fun b3_4 W16 hb17 hE18 hm3_4 => ?_))
    have lo_b3_4 : w.heap.size ≤ b3_4 := hb17 ▸ (Below.size hB)
    have no19 := OwT.neB (b := b3_4) (Below.ow hB hno) (Nat.le_of_eq hb17.symm)
    clear hb17
    replace hB := below_ext hB hE18 (Nat.le_refl _)
    clear hE18
    refine WL_step (dd := none) rfl rfl rfl (Y_storeW rfl rfl tb_ag150 rfl hm3_4 rfl (by rfl) (fun W20 hG21 hm22 => ?_))
    replace hB := below_grown hB hG21 (Nat.le_refl _) (fun j hj => by cases hj; exact lo_b3_4)
    clear hG21 hm3_4
    have hm3_4 := hm22
    clear hm22
    refine WL_nil ?_
    refine hK15 _ _ ?_
    clear hK15 K14
    refine WC_seq (fun K23 hK24 => ?_)
    refine WC_seq (fun K25 hK26 => ?_)
    refine WC_draw Ext tb_mix (fun W27 hE28 => ?_)
    replace hB := below_ext hB hE28 (Nat.le_refl _)
    replace hm3_4 := hE28.at hm3_4
    have hS := Ext.refl W27
    refine WT_take (dd := some 39) 0 rfl (by kernel_rfl) (by kernel_rfl) (by kernel_rfl) rfl rfl rfl (fun _wq _hq => r_move (v := .pointer (some ⟨ba, 0, none⟩)) rfl) hS ?_
    refine WT_take (dd := some 40) 1 rfl (by kernel_rfl) (by kernel_rfl) (by kernel_rfl) rfl rfl rfl (fun _wq _hq => r_nilCheck_ptr rfl) hS ?_
    refine WT_take (dd := some 41) 2 rfl (by kernel_rfl) (by kernel_rfl) (by kernel_rfl) rfl rfl rfl (fun _wq _hq => r_fieldAddr (b := _) (o := _) rfl tb_fo147_2) hS ?_
    refine WT_take (dd := some 42) 3 rfl (by kernel_rfl) (by kernel_rfl) (by kernel_rfl) rfl rfl rfl (fun _wq hq => r_load1 (v := .map (some bm)) rfl tb_sc144 (At.cell (hq.at (Below.atI hB hha)) rfl)) hS ?_
    refine WT_take (dd := some 43) 4 rfl (by kernel_rfl) (by kernel_rfl) (by kernel_rfl) rfl rfl rfl (fun _wq hq => r_loadW rfl tb_ag150 rfl (hq.at hm3_4)) hS ?_
    refine WT_take (dd := some 44) 5 rfl (by kernel_rfl) (by kernel_rfl) (by kernel_rfl) rfl rfl rfl (fun _wq hq => r_lookup2 (enc := keyN) (encV := keyI) (v0 := 0) (k := ⟨l, lo, hi⟩) rfl rfl tb_mp144 tb_key150 (fun a => ⟨a, rfl⟩) keyN_inj tb_z3 rfl (hq.mapT (Below.mapI hB hmp))) hS ?_
    refine WT_take (dd := some 38) 6 rfl (by kernel_rfl) (by kernel_rfl) (by kernel_rfl) rfl rfl rfl (fun _wq _hq => r_move (v := .tuple #[.int .i64 _, .bool _]) rfl) hS ?_
    refine WT_take (dd := some 45) 7 rfl (by kernel_rfl) (by kernel_rfl) (by kernel_rfl) rfl rfl rfl (fun _wq _hq => r_ext2_0 (h := rfl)) hS ?_
    refine WT_take (dd := some 46) 8 rfl (by kernel_rfl) (by kernel_rfl) (by kernel_rfl) rfl rfl rfl (fun _wq _hq => r_ext2_1 (h := rfl)) hS ?_
    refine WT_take (dd := some 11) 9 rfl (by kernel_rfl) (by kernel_rfl) (by kernel_rfl) rfl rfl rfl (fun _wq _hq => r_assign (v := .int .i64 _) rfl) hS ?_
    refine WT_take (dd := some 12) 10 rfl (by kernel_rfl) (by kernel_rfl) (by kernel_rfl) rfl rfl rfl (fun _wq _hq => r_assign (v := .bool _) rfl) hS ?_
    refine WT_done (by kernel_rfl) ?_
    refine hK26 _ _ ?_
    clear hK26 K25
    refine WC_seq (fun K29 hK30 => ?_)
    refine WC_region ?_
    refine WL_val (dd := some 47) rfl rfl rfl (r_move (v := .bool _) rfl) ?_
    refine WL_nil ?_
    refine hK30 _ _ ?_
    clear hK30 K29
    refine WC_cond (b := _) rfl (fun hc1 => ?_) (fun hc1 => ?_)
    ·
     try with_reducible replace hc1 := of_decide_eq_true hc1
     refine WC_seq (fun K31 hK32 => ?_)
     refine WC_region ?_
     refine WL_val (dd := some 48) rfl rfl rfl (r_move (v := .int .i64 _) rfl) ?_
     refine WL_val (dd := some 8) rfl rfl rfl (r_assign (v := .int .i64 _) rfl) ?_
     refine WL_val (dd := some 9) rfl rfl rfl (r_assign (v := .int .i64 0) rfl) ?_
     refine WL_nil ?_
     refine hK32 _ _ ?_
     clear hK32 K31
     refine WC_ret ?_
     replace hha := Below.atI hB hha
     replace hno := Below.ow hB hno
     replace hmp := Below.mapI hB hmp
     clear hD
     replace hX := Dx.trans hX (Dx.below hB)
     have hzs := Nat.le_trans hN0 (Below.size hBo3)
     replace lo_b3_4 := Nat.le_trans hzs lo_b3_4
     replace hB := Below.trans hBo3 (Below.mono hB hzs)
     clear hBo3 hzs
     repeat (first | refine thenQ_ret ?_ | refine blockQ_ret ?_)
     try clear hK24 K23
     refine ret_tt (v := .int .i64 _) rfl (v1 := .int .i64 0) rfl ?_
     obtain ⟨i, hi2, hn, he⟩ := mk_met hwf hc1
     rw [he]
     exact ⟨ns, i + 2, 0, rfl, hX, ⟨⟨nv, hha, hno⟩, hmp, hla, hlm, hwf, hroom, htop⟩, mk_got hwf hi2 hn⟩
    ·
     try with_reducible replace hc1 := of_decide_eq_false hc1
     refine WC_skip ?_
     refine hK24 _ _ ?_
     clear hK24 K23
     refine WC_seq (fun K33 hK34 => ?_)
     refine WC_seq (fun K35 hK36 => ?_)
     have hnew := mk_not hc1
     refine WC_draw Ext tb_mix (fun W37 hE38 => ?_)
     replace hB := below_ext hB hE38 (Nat.le_refl _)
     replace hm3_4 := hE38.at hm3_4
     have hS := Ext.refl W37
     refine WT_take (dd := some 49) 0 rfl (by kernel_rfl) (by kernel_rfl) (by kernel_rfl) rfl rfl rfl (fun _wq _hq => r_move (v := .pointer (some ⟨ba, 0, none⟩)) rfl) hS ?_
     refine WT_take (dd := some 50) 1 rfl (by kernel_rfl) (by kernel_rfl) (by kernel_rfl) rfl rfl rfl (fun _wq _hq => r_nilCheck_ptr rfl) hS ?_
     refine WT_take (dd := some 51) 2 rfl (by kernel_rfl) (by kernel_rfl) (by kernel_rfl) rfl rfl rfl (fun _wq _hq => r_fieldAddr (b := _) (o := _) rfl tb_fo147_2) hS ?_
     refine WT_take (dd := some 52) 3 rfl (by kernel_rfl) (by kernel_rfl) (by kernel_rfl) rfl rfl rfl (fun _wq hq => r_load1 (v := .map (some bm)) rfl tb_sc144 (At.cell (hq.at (Below.atI hB hha)) rfl)) hS ?_
     refine WT_take (dd := some 53) 4 rfl (by kernel_rfl) (by kernel_rfl) (by kernel_rfl) rfl rfl rfl (fun _wq hq => r_lenM rfl tb_mp144 (hq.mapT (Below.mapI hB hmp))) hS ?_
     refine WT_take (dd := some 54) 5 rfl (by kernel_rfl) (by kernel_rfl) (by kernel_rfl) rfl rfl rfl (fun _wq _hq => r_move (v := .pointer (some ⟨ba, 0, none⟩)) rfl) hS ?_
     refine WT_take (dd := some 55) 6 rfl (by kernel_rfl) (by kernel_rfl) (by kernel_rfl) rfl rfl rfl (fun _wq _hq => r_nilCheck_ptr rfl) hS ?_
     refine WT_take (dd := some 56) 7 rfl (by kernel_rfl) (by kernel_rfl) (by kernel_rfl) rfl rfl rfl (fun _wq _hq => r_fieldAddr (b := _) (o := _) rfl tb_fo147_0) hS ?_
     refine WT_take (dd := some 57) 8 rfl (by kernel_rfl) (by kernel_rfl) (by kernel_rfl) rfl rfl rfl (fun _wq hq => r_load1 (v := .int .i64 _) rfl tb_sc3 (At.cell (hq.at (Below.atI hB hha)) rfl)) hS ?_
     refine WT_take (dd := some 58) 9 rfl (by kernel_rfl) (by kernel_rfl) (by kernel_rfl) rfl rfl rfl (fun _wq _hq => r_geq rfl rfl) hS ?_
     refine WT_done (by kernel_rfl) ?_
     refine hK36 _ _ ?_
     clear hK36 K35
     refine WC_cond (b := _) rfl (fun hc2 => ?_) (fun hc2 => ?_)
     ·
      try with_reducible replace hc2 := of_decide_eq_true hc2
      refine WC_seq (fun K39 hK40 => ?_)
      refine WC_region ?_
      refine WL_val (dd := some 8) rfl rfl rfl (r_assign (v := .int .i64 0) rfl) ?_
      refine WL_val (dd := some 9) rfl rfl rfl (r_assign (v := .int .i64 5) rfl) ?_
      refine WL_nil ?_
      refine hK40 _ _ ?_
      clear hK40 K39
      refine WC_ret ?_
      replace hha := Below.atI hB hha
      replace hno := Below.ow hB hno
      replace hmp := Below.mapI hB hmp
      clear hD
      replace hX := Dx.trans hX (Dx.below hB)
      have hzs := Nat.le_trans hN0 (Below.size hBo3)
      replace lo_b3_4 := Nat.le_trans hzs lo_b3_4
      replace hB := Below.trans hBo3 (Below.mono hB hzs)
      clear hBo3 hzs
      repeat (first | refine thenQ_ret ?_ | refine blockQ_ret ?_)
      try clear hK34 K33
      refine ret_tt (v := .int .i64 0) rfl (v1 := .int .i64 5) rfl ?_
      exact ⟨ns, 0, 5, rfl, hX, ⟨⟨nv, hha, hno⟩, hmp, hla, hlm, hwf, hroom, htop⟩, mk_full (by omega)⟩
     ·
      try with_reducible replace hc2 := of_decide_eq_false hc2
      refine WC_skip ?_
      refine hK34 _ _ ?_
      clear hK34 K33
      refine WC_seq (fun K41 hK42 => ?_)
      refine WC_region ?_
      refine WL_val (dd := some 13) rfl rfl rfl (r_assign (v := .int .i64 0) rfl) ?_
      refine WL_nil ?_
      refine hK42 _ _ ?_
      clear hK42 K41
      refine WC_seq (fun K43 hK44 => ?_)
      refine WC_block ?_
      refine WC_loop (σ := (Nat)) [13, 59, 60, 61, 62, 63, 64, 65, 66, 67, 68, 69, 70, 71, 72, 73, 74, 75, 76, 77, 78] (fun i => [(13, .int .i64 (i : Int))]) (fun i W => (Below w.heap.size w W) ∧ (At W b3_4 _ 150) ∧ (i ≤ ns.length) ∧ (True)) (fun i => ns.length - i) (0) ⟨rfl, trivial⟩ ⟨hB, hm3_4, (Nat.zero_le _), trivial⟩ ?_
      clear hB hm3_4
      rintro i g46 W45 ⟨hB, hm3_4, hi2, _⟩ J47 hJ48
      refine WC_seq (fun K49 hK50 => ?_)
      refine WC_seq (fun K51 hK52 => ?_)
      refine WC_region ?_
      refine WL_val (dd := some 59) rfl rfl rfl (r_move (v := .int .i64 _) rfl) ?_
      refine WL_val (dd := some 60) rfl rfl rfl (r_move (v := .pointer (some ⟨ba, 0, none⟩)) rfl) ?_
      refine WL_val (dd := some 61) rfl rfl rfl (r_nilCheck_ptr rfl) ?_
      refine WL_val (dd := some 62) rfl rfl rfl (r_fieldAddr (b := _) (o := _) rfl tb_fo147_1) ?_
      refine WL_val (dd := some 63) rfl rfl rfl (r_load1 (v := nv) rfl tb_sc145 (At.cell (Below.atI hB hha) rfl)) ?_
      refine WL_val (dd := some 64) rfl rfl rfl (r_lenS (v := nv) rfl ((Below.ow hB hno)).sl tb_el145) ?_
      refine WL_val (dd := some 65) rfl rfl rfl (r_lss rfl rfl) ?_
      refine WL_split (dd := some 66) rfl rfl rfl (r_move (v := .bool _) rfl) (fun hs10_7 => ?_) (fun hs10_7 => ?_)
      ·
       try with_reducible replace hs10_7 := of_decide_eq_true hs10_7
       refine WL_val (dd := some 67) rfl rfl rfl (r_move (v := .pointer (some ⟨ba, 0, none⟩)) rfl) ?_
       refine WL_val (dd := some 68) rfl rfl rfl (r_nilCheck_ptr rfl) ?_
       refine WL_val (dd := some 69) rfl rfl rfl (r_fieldAddr (b := _) (o := _) rfl tb_fo147_1) ?_
       refine WL_val (dd := some 70) rfl rfl rfl (r_load1 (v := nv) rfl tb_sc145 (At.cell (Below.atI hB hha) rfl)) ?_
       refine WL_val (dd := some 71) rfl rfl rfl (r_move (v := .int .i64 _) rfl) ?_
       refine WL_val (dd := some 72) rfl rfl rfl (r_idxS (v := nv) rfl ((Below.ow hB hno)).sl rfl tb_el145 (by omega) (by omega)) ?_
       refine WL_val (dd := some 73) rfl rfl rfl (r_fieldAddr (b := _) (o := _) rfl tb_fo150_0) ?_
       refine WL_val (dd := some 74) rfl rfl rfl (r_load1 (v := .int .i64 _) rfl tb_sc3 (SlT.cell ((Below.ow hB hno)).sl encN_len nd0 (by omega) (by omega) 0 rfl)) ?_
       refine WL_val (dd := some 75) rfl rfl rfl (r_neq rfl rfl) ?_
       refine WL_val (dd := some 76) rfl rfl rfl (r_pick_t rfl (v := .bool _) rfl) ?_
       refine WL_nil ?_
       refine hK52 _ _ ?_
       clear hK52 K51
       refine WC_cond (b := _) rfl (fun hc3 => ?_) (fun hc3 => ?_)
       ·
        try with_reducible replace hc3 := of_decide_eq_true hc3
        refine WC_skip ?_
        refine hK50 _ _ ?_
        clear hK50 K49
        refine WC_block ?_
        refine WC_region ?_
        refine WL_val (dd := some 77) rfl rfl rfl (r_move (v := .int .i64 _) rfl) ?_
        refine WL_val (dd := some 78) rfl rfl rfl (r_addI rfl rfl (by omega) (by omega)) ?_
        refine WL_val (dd := some 13) rfl rfl rfl (r_assign (v := .int .i64 _) rfl) ?_
        refine WL_nil ?_
        refine hJ48 _ _ (i + 1) ?_ ?_ ?_ ?_
        · repeat (first | exact agree.mask _ _ _ | refine agree.updo ?_ rfl _ | refine agree.updL ?_ _ rfl | refine agree.maskS rfl ?_)
        · exact ⟨rfl, trivial⟩
        · exact ⟨hB, hm3_4, (by omega), trivial⟩
        · first | omega | (dsimp only; omega)
       ·
        try with_reducible replace hc3 := of_decide_eq_false hc3
        omega
      ·
       try with_reducible replace hs10_7 := of_decide_eq_false hs10_7
       refine WL_skip (dd := some 67) rfl rfl rfl ?_
       refine WL_skip (dd := some 68) rfl rfl rfl ?_
       refine WL_skip (dd := some 69) rfl rfl rfl ?_
       refine WL_skip (dd := some 70) rfl rfl rfl ?_
       refine WL_skip (dd := some 71) rfl rfl rfl ?_
       refine WL_skip (dd := some 72) rfl rfl rfl ?_
       refine WL_skip (dd := some 73) rfl rfl rfl ?_
       refine WL_skip (dd := some 74) rfl rfl rfl ?_
       refine WL_skip (dd := some 75) rfl rfl rfl ?_
       refine WL_val (dd := some 76) rfl rfl rfl (r_pick_f rfl (v := .bool false) rfl) ?_
       refine WL_nil ?_
       refine hK52 _ _ ?_
       clear hK52 K51
       refine WC_cond_false rfl ?_
       refine WC_exit ?_
       refine hK44 _ _ ?_
       clear hK50 K49
       clear hJ48 J47
       clear hK44 K43
       refine WC_seq (fun K53 hK54 => ?_)
       refine WC_seq (fun K55 hK56 => ?_)
       obtain rfl : i = ns.length := by omega
       refine WC_region ?_
       refine WL_val (dd := some 79) rfl rfl rfl (r_move (v := .int .i64 _) rfl) ?_
       refine WL_val (dd := some 80) rfl rfl rfl (r_move (v := .pointer (some ⟨ba, 0, none⟩)) rfl) ?_
       refine WL_val (dd := some 81) rfl rfl rfl (r_nilCheck_ptr rfl) ?_
       refine WL_val (dd := some 82) rfl rfl rfl (r_fieldAddr (b := _) (o := _) rfl tb_fo147_1) ?_
       refine WL_val (dd := some 83) rfl rfl rfl (r_load1 (v := nv) rfl tb_sc145 (At.cell (Below.atI hB hha) rfl)) ?_
       refine WL_val (dd := some 84) rfl rfl rfl (r_lenS (v := nv) rfl ((Below.ow hB hno)).sl tb_el145) ?_
       refine WL_val (dd := some 85) rfl rfl rfl (r_eql rfl rfl) ?_
       refine WL_nil ?_
       refine hK56 _ _ ?_
       clear hK56 K55
       refine WC_cond (b := _) rfl (fun hc4 => ?_) (fun hc4 => ?_)
       ·
        try with_reducible replace hc4 := of_decide_eq_true hc4
        replace hha := Below.atI hB hha
        replace hno := Below.ow hB hno
        replace hmp := Below.mapI hB hmp
        clear hD
        replace hX := Dx.trans hX (Dx.below hB)
        have hzs := Nat.le_trans hN0 (Below.size hBo3)
        replace lo_b3_4 := Nat.le_trans hzs lo_b3_4
        replace hB := Below.trans hBo3 (Below.mono hB hzs)
        clear hBo3 hzs
        refine WC_draw (fun a b => a.grownBy b nv.ownBlock) tb_mix (fun W57 hE58 => ?_)
        replace hha := hE58.at hha
        replace hno := hE58.ow hno
        replace hmp := hE58.mapT hmp
        replace hX := Dx.trans hX (Dx.ext hE58)
        replace hB := below_ext hB hE58 hN0
        replace hm3_4 := hE58.at hm3_4
        have hrow59 := hno
        have hS := World.grownBy.refl W57 nv.ownBlock
        refine WT_take (dd := some 86) 0 rfl (by kernel_rfl) (by kernel_rfl) (by kernel_rfl) rfl rfl rfl (fun _wq _hq => r_move (v := .pointer (some ⟨ba, 0, none⟩)) rfl) hS ?_
        refine WT_take (dd := some 87) 1 rfl (by kernel_rfl) (by kernel_rfl) (by kernel_rfl) rfl rfl rfl (fun _wq _hq => r_move (v := .pointer (some ⟨ba, 0, none⟩)) rfl) hS ?_
        refine WT_take (dd := some 88) 2 rfl (by kernel_rfl) (by kernel_rfl) (by kernel_rfl) rfl rfl rfl (fun _wq _hq => r_nilCheck_ptr rfl) hS ?_
        refine WT_take (dd := some 89) 3 rfl (by kernel_rfl) (by kernel_rfl) (by kernel_rfl) rfl rfl rfl (fun _wq _hq => r_fieldAddr (b := _) (o := _) rfl tb_fo147_1) hS ?_
        refine WT_take (dd := some 90) 4 rfl (by kernel_rfl) (by kernel_rfl) (by kernel_rfl) rfl rfl rfl (fun _wq hq => r_load1 (v := nv) rfl tb_sc145 (At.cell (At.grownOw hha hrow59 hq (by decide)) rfl)) hS ?_
        refine WT_one (dd := some 91) 5 (by kernel_rfl) rfl rfl rfl rfl (Yd.val (r_loadW rfl tb_ag150 rfl hm3_4) ⟨.inl hS, ?_⟩)
        refine WT_one (dd := some 92) 6 (by kernel_rfl) rfl rfl rfl rfl (Y_lit1 (u := .agg #[_, _, _]) rfl tb_el145 tb_zs150 rfl (by decide) (by decide) (fun b13_6 W60 hb61 hE62 hm13_6 => ⟨.inl (grownBy_trans hS (Ext.grown hE62 nv.ownBlock)), ?_⟩))
        have lo_b13_6 : N ≤ b13_6 := hb61 ▸ (Nat.le_trans hN0 (Below.size hB))
        have no_nv_b13_6 := OwT.neB (b := b13_6) hno (Nat.le_of_eq hb61.symm)
        have ne_b3_4_b13_6 : b3_4 ≠ b13_6 := Nat.ne_of_lt (hb61 ▸ hm3_4.lt)
        clear hb61
        have sv63_hha := hha
        have sv63_hno := hno
        have sv63_hmp := hmp
        have sv63_hB := hB
        have sv63_hm3_4 := hm3_4
        replace hha := hE62.at hha
        replace hno := hE62.ow hno
        replace hmp := hE62.mapT hmp
        replace hX := Dx.trans hX (Dx.ext hE62)
        replace hB := below_ext hB hE62 hN0
        replace hm3_4 := hE62.at hm3_4
        replace hS := grownBy_trans hS (Ext.grown hE62 nv.ownBlock)
        clear hE62
        refine WT_one (dd := some 93) 7 (by kernel_rfl) rfl rfl rfl rfl (Y_append (v := nv) (v2 := .slice (some ⟨b13_6, 0, none⟩) 1 1) rfl rfl tb_el145 tb_zs150 (by decide) hno (sl_lit1 hm13_6 rfl) rfl (by have := Below.size hB; omega) (by first | omega | (simp; omega)) (by first | omega | (simp; omega)) (fun v13_7 W64 hG65 ho13_7 => ⟨.inl (grownBy_trans hS hG65), ?_⟩))
        replace hS := grownBy_trans hS hG65
        replace ho13_7 := OwT.snoc (enc := encN) (x := ⟨l, lo, hi⟩) rfl rfl rfl rfl ho13_7
        clear hm13_6
        replace hha := At.grownOw hha hno hG65 (by decide)
        replace hmp := MapT.grownOw hmp hno hG65
        replace hX := Dx.trans hX (Dx.row hno hG65)
        replace hB := below_grown hB hG65 hN0 (fun j hj => (OwT.lt hno j hj))
        replace hm3_4 := At.grownOwNe hm3_4 no19 hG65
        clear hG65
        clear hno
        refine WT_take (dd := some 94) 8 rfl (by kernel_rfl) (by kernel_rfl) (by kernel_rfl) rfl rfl rfl (fun _wq _hq => r_nilCheck_ptr rfl) hS ?_
        refine WT_take (dd := some 95) 9 rfl (by kernel_rfl) (by kernel_rfl) (by kernel_rfl) rfl rfl rfl (fun _wq _hq => r_fieldAddr (b := _) (o := _) rfl tb_fo147_1) hS ?_
        refine WT_one (dd := none) 10 (by kernel_rfl) rfl rfl rfl rfl (Y_store1 (v := v13_7) rfl rfl tb_sc145 (SlT.one ho13_7.sl) hha (by simp) (fun W67 hG68 hm69 => ⟨.inr (by kernel_rfl), ?_⟩))
        replace hmp := MapT.grownAt hmp hha hG68
        replace hX := Dx.trans hX (Dx.grown hG68 (by simp) hla)
        replace hB := below_grown hB hG68 hN0 (fun j hj => by cases hj; exact hla)
        replace hm3_4 := At.grownAt hm3_4 hha hG68 (by decide)
        replace ho13_7 := OwT.grownAt ho13_7 hha hG68 (by decide)
        clear hG68 hha
        have hha := hm69
        clear hm69
        replace hha : At _ _ #[_, _, _] _ := hha
        refine WT_done (by kernel_rfl) ?_
        try clear sv63_hmp sv63_hB sv63_hm3_4
        try clear hrow59
        refine hK54 _ _ ?_
        clear hK54 K53
        refine WC_seq (fun K70 hK71 => ?_)
        refine WC_draw Ext tb_mix (fun W72 hE73 => ?_)
        replace hha := hE73.at hha
        replace hmp := hE73.mapT hmp
        replace hX := Dx.trans hX (Dx.ext hE73)
        replace hB := below_ext hB hE73 hN0
        replace hm3_4 := hE73.at hm3_4
        replace ho13_7 := hE73.ow ho13_7
        have hS := Ext.refl W72
        refine WT_take (dd := some 103) 0 rfl (by kernel_rfl) (by kernel_rfl) (by kernel_rfl) rfl rfl rfl (fun _wq _hq => r_move (v := .pointer (some ⟨ba, 0, none⟩)) rfl) hS ?_
        refine WT_take (dd := some 104) 1 rfl (by kernel_rfl) (by kernel_rfl) (by kernel_rfl) rfl rfl rfl (fun _wq _hq => r_nilCheck_ptr rfl) hS ?_
        refine WT_take (dd := some 105) 2 rfl (by kernel_rfl) (by kernel_rfl) (by kernel_rfl) rfl rfl rfl (fun _wq _hq => r_fieldAddr (b := _) (o := _) rfl tb_fo147_2) hS ?_
        refine WT_take (dd := some 106) 3 rfl (by kernel_rfl) (by kernel_rfl) (by kernel_rfl) rfl rfl rfl (fun _wq hq => r_load1 (v := .map (some bm)) rfl tb_sc144 (At.cell (hq.at hha) rfl)) hS ?_
        refine WT_take (dd := some 107) 4 rfl (by kernel_rfl) (by kernel_rfl) (by kernel_rfl) rfl rfl rfl (fun _wq hq => r_loadW rfl tb_ag150 rfl (hq.at hm3_4)) hS ?_
        refine WT_take (dd := some 108) 5 rfl (by kernel_rfl) (by kernel_rfl) (by kernel_rfl) rfl rfl rfl (fun _wq _hq => r_move (v := .int .i64 _) rfl) hS ?_
        refine WT_take (dd := some 109) 6 rfl (by kernel_rfl) (by kernel_rfl) (by kernel_rfl) rfl rfl rfl (fun _wq _hq => r_addI rfl rfl (by omega) (by omega)) hS ?_
        refine WT_one (dd := none) 7 (by kernel_rfl) rfl rfl rfl rfl (Y_mapUpdate (enc := keyN) (encV := keyI) (k := ⟨l, lo, hi⟩) (v := ((ns.length + 2 : Nat) : Int)) rfl rfl rfl tb_mp144 tb_key150 (fun a => ⟨a, rfl⟩) keyN_inj hmp (fun W74 hG75 hm76 => ⟨.inr (by kernel_rfl), ?_⟩))
        have sv77_hha := hha
        have sv77_hmp := hmp
        have sv77_hB := hB
        have sv77_hm3_4 := hm3_4
        have sv77_ho13_7 := ho13_7
        replace hha := At.grownMap hha hmp hG75
        replace hX := Dx.trans hX (Dx.grown hG75 (by simp) hlm)
        replace hB := below_grown hB hG75 hN0 (fun j hj => by cases hj; exact hlm)
        replace hm3_4 := At.grownMap hm3_4 hmp hG75
        replace ho13_7 := OwT.grownMap ho13_7 hmp hG75
        clear hG75 hmp
        have hmp := hm76
        clear hm76
        rw [idsL_put hnew] at hmp
        refine WT_done (by kernel_rfl) ?_
        try clear sv77_hha sv77_hB sv77_hm3_4 sv77_ho13_7
        refine hK71 _ _ ?_
        clear hK71 K70
        refine WC_seq (fun K78 hK79 => ?_)
        refine WC_region ?_
        refine WL_val (dd := some 110) rfl rfl rfl (r_move (v := .int .i64 _) rfl) ?_
        refine WL_val (dd := some 111) rfl rfl rfl (r_addI rfl rfl (by omega) (by omega)) ?_
        refine WL_val (dd := some 8) rfl rfl rfl (r_assign (v := .int .i64 _) rfl) ?_
        refine WL_val (dd := some 9) rfl rfl rfl (r_assign (v := .int .i64 0) rfl) ?_
        refine WL_nil ?_
        refine hK79 _ _ ?_
        clear hK79 K78
        refine WC_ret ?_
        repeat (first | refine thenQ_ret ?_ | refine blockQ_ret ?_)
        refine ret_tt (v := .int .i64 _) rfl (v1 := .int .i64 0) rfl ?_
        exact ⟨ns ++ [⟨l, lo, hi⟩], ns.length + 2, 0, rfl, hX, ⟨⟨_, hha, ho13_7⟩, hmp, hla, hlm, hwf.snoc hnew hlo hhi h0 l1 l2 h24, (by simp; omega), htop⟩, mk_new hlo hhi⟩
       ·
        try with_reducible replace hc4 := of_decide_eq_false hc4
        omega

theorem C___arena_Arena__Node (N ba bm R : Nat) (ns : List Nd) (id : Int) (w : World) (hD : Dia 147 150 N ba bm R w ns) (hid : id ≤ 9223372036854775807) :
    Fn Try.prog 86 #[.pointer (some ⟨ba, 0, none⟩), .int .i64 id] w fun v w' => v = .tuple #[.int .i64 ((nodeI ns id).l : Int), .int .i64 ((nodeI ns id).lo : Int), .int .i64 ((nodeI ns id).hi : Int), .bool (thereB ns id)] := by
 refine Fn_intro (n := 31) Try.func86 rfl rfl (Nat.le_of_ble_eq_true rfl) ?_
 have hB : Below w.heap.size w w := Below.refl _ _
 obtain ⟨nv, hha, hno⟩ := hD.out
 have hmp := hD.hm
 have hwf := hD.wf
 have hroom := hD.room
 have htop := hD.top
 have hla := hD.la
 have hlm := hD.lm
 refine WC_seq (fun K1 hK2 => ?_)
 refine WC_region ?_
 refine WL_val (dd := some 4) rfl rfl rfl (r_assign (v := .int .i64 0) rfl) ?_
 refine WL_val (dd := some 5) rfl rfl rfl (r_assign (v := .int .i64 0) rfl) ?_
 refine WL_val (dd := some 6) rfl rfl rfl (r_assign (v := .int .i64 0) rfl) ?_
 refine WL_val (dd := some 7) rfl rfl rfl (r_assign (v := .bool false) rfl) ?_
 refine WL_nil ?_
 refine hK2 _ _ ?_
 clear hK2 K1
 refine WC_seq (fun K3 hK4 => ?_)
 refine WC_seq (fun K5 hK6 => ?_)
 refine WC_region ?_
 refine WL_val (dd := some 9) rfl rfl rfl (r_move (v := .pointer (some ⟨ba, 0, none⟩)) rfl) ?_
 refine WL_val (dd := some 10) rfl rfl rfl (r_ptrNil rfl rfl Try.underlying96) ?_
 refine WL_val (dd := some 11) rfl rfl rfl (r_move (v := .bool false) rfl) ?_
 refine WL_val (dd := some 12) rfl rfl rfl (r_move (v := .pointer (some ⟨ba, 0, none⟩)) rfl) ?_
 refine WL_val (dd := some 13) rfl rfl rfl (r_move (v := .int .i64 _) rfl) ?_
 refine WL_call (dd := some 14) rfl rfl rfl (r_call2 tb_c124 (v0 := .pointer (some ⟨ba, 0, none⟩)) rfl (v1 := .int .i64 _) rfl) (C___arena_Arena__there _ _ _ _ _ _ _ (Dia.below hB hD) (by first | assumption | omega)) (fun v1_5 W7 hE8 hP1_5 => ?_)
 have hsz9 := (Below.size hB)
 replace hB := below_ext hB hE8 (Nat.le_refl _)
 clear hE8
 clear hsz9
 obtain rfl := hP1_5
 refine WL_val (dd := some 15) rfl rfl rfl (r_not rfl) ?_
 refine WL_val (dd := some 16) rfl rfl rfl (r_pick_f rfl (v := .bool _) rfl) ?_
 refine WL_nil ?_
 refine hK6 _ _ ?_
 clear hK6 K5
 refine WC_cond (b := _) rfl (fun hc0 => ?_) (fun hc0 => ?_)
 ·
  try with_reducible replace hc0 := of_decide_eq_true hc0
  refine WC_seq (fun K10 hK11 => ?_)
  refine WC_region ?_
  refine WL_val (dd := some 4) rfl rfl rfl (r_assign (v := .int .i64 0) rfl) ?_
  refine WL_val (dd := some 5) rfl rfl rfl (r_assign (v := .int .i64 0) rfl) ?_
  refine WL_val (dd := some 6) rfl rfl rfl (r_assign (v := .int .i64 0) rfl) ?_
  refine WL_val (dd := some 7) rfl rfl rfl (r_assign (v := .bool false) rfl) ?_
  refine WL_nil ?_
  refine hK11 _ _ ?_
  clear hK11 K10
  refine WC_ret ?_
  repeat (first | refine thenQ_ret ?_ | refine blockQ_ret ?_)
  try clear hK4 K3
  refine ret_tttt (v := .int .i64 0) rfl (v1 := .int .i64 0) rfl (v2 := .int .i64 0) rfl (v3 := .bool false) rfl ?_
  refine ⟨hB, ?_⟩
  obtain ⟨ht, hn⟩ := nodeI_f hc0
  rw [ht, hn]
  rfl
 ·
  try with_reducible replace hc0 := of_decide_eq_false hc0
  refine WC_skip ?_
  refine hK4 _ _ ?_
  clear hK4 K3
  refine WC_seq (fun K12 hK13 => ?_)
  obtain ⟨ht, hn⟩ := nodeI_t hc0
  have hth := there_iff.1 ht
  refine WC_region ?_
  refine WL_val (dd := some 17) rfl rfl rfl (r_move (v := .pointer (some ⟨ba, 0, none⟩)) rfl) ?_
  refine WL_val (dd := some 18) rfl rfl rfl (r_nilCheck_ptr rfl) ?_
  refine WL_val (dd := some 19) rfl rfl rfl (r_fieldAddr (b := _) (o := _) rfl tb_fo147_1) ?_
  refine WL_val (dd := some 20) rfl rfl rfl (r_load1 (v := nv) rfl tb_sc145 (At.cell (Below.atI hB hha) rfl)) ?_
  refine WL_val (dd := some 21) rfl rfl rfl (r_move (v := .int .i64 _) rfl) ?_
  refine WL_val (dd := some 22) rfl rfl rfl (r_subI rfl rfl (by omega) (by omega)) ?_
  refine WL_val (dd := some 23) rfl rfl rfl (r_idxS (v := nv) rfl ((Below.ow hB hno)).sl rfl tb_el145 (by omega) (by omega)) ?_
  refine WL_val (dd := some 24) rfl rfl rfl (r_load3 rfl tb_ag150 (SlT.cell ((Below.ow hB hno)).sl encN_len nd0 (by omega) (by omega) 0 rfl) (SlT.cell ((Below.ow hB hno)).sl encN_len nd0 (by omega) (by omega) 1 rfl) (SlT.cell ((Below.ow hB hno)).sl encN_len nd0 (by omega) (by omega) 2 rfl)) ?_
  refine WL_step (dd := some 8) rfl rfl rfl (Y_alloc tb_z150 rfl (fun b3_8 W14 hb15 hE16 hm3_8 => ?_))
  have lo_b3_8 : w.heap.size ≤ b3_8 := hb15 ▸ (Below.size hB)
  have no17 := OwT.neB (b := b3_8) (Below.ow hB hno) (Nat.le_of_eq hb15.symm)
  clear hb15
  replace hB := below_ext hB hE16 (Nat.le_refl _)
  clear hE16
  refine WL_step (dd := none) rfl rfl rfl (Y_storeW rfl rfl tb_ag150 rfl hm3_8 rfl (by rfl) (fun W18 hG19 hm20 => ?_))
  replace hB := below_grown hB hG19 (Nat.le_refl _) (fun j hj => by cases hj; exact lo_b3_8)
  clear hG19 hm3_8
  have hm3_8 := hm20
  clear hm20
  refine WL_nil ?_
  refine hK13 _ _ ?_
  clear hK13 K12
  refine WC_seq (fun K21 hK22 => ?_)
  refine WC_draw Ext tb_mix (fun W23 hE24 => ?_)
  replace hB := below_ext hB hE24 (Nat.le_refl _)
  replace hm3_8 := hE24.at hm3_8
  have hS := Ext.refl W23
  refine WT_take (dd := some 25) 0 rfl (by kernel_rfl) (by kernel_rfl) (by kernel_rfl) rfl rfl rfl (fun _wq _hq => r_fieldAddr (b := _) (o := _) rfl tb_fo150_0) hS ?_
  refine WT_take (dd := some 26) 1 rfl (by kernel_rfl) (by kernel_rfl) (by kernel_rfl) rfl rfl rfl (fun _wq hq => r_load1 (v := .int .i64 _) rfl tb_sc3 (At.cell (hq.at hm3_8) rfl)) hS ?_
  refine WT_take (dd := some 27) 2 rfl (by kernel_rfl) (by kernel_rfl) (by kernel_rfl) rfl rfl rfl (fun _wq _hq => r_fieldAddr (b := _) (o := _) rfl tb_fo150_1) hS ?_
  refine WT_take (dd := some 28) 3 rfl (by kernel_rfl) (by kernel_rfl) (by kernel_rfl) rfl rfl rfl (fun _wq hq => r_load1 (v := .int .i64 _) rfl tb_sc3 (At.cell (hq.at hm3_8) rfl)) hS ?_
  refine WT_take (dd := some 29) 4 rfl (by kernel_rfl) (by kernel_rfl) (by kernel_rfl) rfl rfl rfl (fun _wq _hq => r_fieldAddr (b := _) (o := _) rfl tb_fo150_2) hS ?_
  refine WT_take (dd := some 30) 5 rfl (by kernel_rfl) (by kernel_rfl) (by kernel_rfl) rfl rfl rfl (fun _wq hq => r_load1 (v := .int .i64 _) rfl tb_sc3 (At.cell (hq.at hm3_8) rfl)) hS ?_
  refine WT_take (dd := some 4) 6 rfl (by kernel_rfl) (by kernel_rfl) (by kernel_rfl) rfl rfl rfl (fun _wq _hq => r_assign (v := .int .i64 _) rfl) hS ?_
  refine WT_take (dd := some 5) 7 rfl (by kernel_rfl) (by kernel_rfl) (by kernel_rfl) rfl rfl rfl (fun _wq _hq => r_assign (v := .int .i64 _) rfl) hS ?_
  refine WT_take (dd := some 6) 8 rfl (by kernel_rfl) (by kernel_rfl) (by kernel_rfl) rfl rfl rfl (fun _wq _hq => r_assign (v := .int .i64 _) rfl) hS ?_
  refine WT_take (dd := some 7) 9 rfl (by kernel_rfl) (by kernel_rfl) (by kernel_rfl) rfl rfl rfl (fun _wq _hq => r_assign (v := .bool true) rfl) hS ?_
  refine WT_done (by kernel_rfl) ?_
  refine hK22 _ _ ?_
  clear hK22 K21
  refine WC_ret ?_
  repeat (first | refine thenQ_ret ?_ | refine blockQ_ret ?_)
  refine ret_tttt (v := .int .i64 _) rfl (v1 := .int .i64 _) rfl (v2 := .int .i64 _) rfl (v3 := .bool true) rfl ?_
  refine ⟨hB, ?_⟩
  rw [ht, hn]

theorem C___zdd_Zdd__level (N ba bm bz R : Nat) (ns : List Nd) (id : Int) (w : World) (hz : At w bz #[.pointer (some ⟨ba, 0, none⟩)] 100) (hD : Dia 147 150 N ba bm R w ns) (hid : id ≤ 9223372036854775807) :
    Fn Try.prog 119 #[.pointer (some ⟨bz, 0, none⟩), .int .i64 id] w fun v w' => v = .int .i64 (lvlI ns id) := by
 refine Fn_intro (n := 28) Try.func119 rfl rfl (Nat.le_of_ble_eq_true rfl) ?_
 have hB : Below w.heap.size w w := Below.refl _ _
 refine WC_seq (fun K1 hK2 => ?_)
 refine WC_region ?_
 refine WL_val (dd := some 4) rfl rfl rfl (r_assign (v := .int .i64 0) rfl) ?_
 refine WL_nil ?_
 refine hK2 _ _ ?_
 clear hK2 K1
 refine WC_seq (fun K3 hK4 => ?_)
 refine WC_seq (fun K5 hK6 => ?_)
 refine WC_region ?_
 refine WL_val (dd := some 9) rfl rfl rfl (r_move (v := .int .i64 _) rfl) ?_
 refine WL_val (dd := some 10) rfl rfl rfl (r_eql rfl rfl) ?_
 refine WL_split (dd := some 11) rfl rfl rfl (r_move (v := .bool _) rfl) (fun hs1_2 => ?_) (fun hs1_2 => ?_)
 ·
  try with_reducible replace hs1_2 := of_decide_eq_true hs1_2
  refine WL_skip (dd := some 12) rfl rfl rfl ?_
  refine WL_skip (dd := some 13) rfl rfl rfl ?_
  refine WL_val (dd := some 14) rfl rfl rfl (r_pick_t rfl (v := .bool true) rfl) ?_
  refine WL_nil ?_
  refine hK6 _ _ ?_
  clear hK6 K5
  refine WC_cond_true rfl ?_
  refine WC_seq (fun K7 hK8 => ?_)
  refine WC_region ?_
  refine WL_val (dd := some 4) rfl rfl rfl (r_assign (v := .int .i64 24) rfl) ?_
  refine WL_nil ?_
  refine hK8 _ _ ?_
  clear hK8 K7
  refine WC_ret ?_
  repeat (first | refine thenQ_ret ?_ | refine blockQ_ret ?_)
  try clear hK4 K3
  refine ret_t (v := .int .i64 24) rfl ?_
  refine ⟨hB, ?_⟩
  exact li_s (.inl hs1_2)
 ·
  try with_reducible replace hs1_2 := of_decide_eq_false hs1_2
  refine WL_val (dd := some 12) rfl rfl rfl (r_move (v := .int .i64 _) rfl) ?_
  refine WL_val (dd := some 13) rfl rfl rfl (r_eql rfl rfl) ?_
  refine WL_val (dd := some 14) rfl rfl rfl (r_pick_f rfl (v := .bool _) rfl) ?_
  refine WL_nil ?_
  refine hK6 _ _ ?_
  clear hK6 K5
  refine WC_cond (b := _) rfl (fun hc0 => ?_) (fun hc0 => ?_)
  ·
   try with_reducible replace hc0 := of_decide_eq_true hc0
   refine WC_seq (fun K9 hK10 => ?_)
   refine WC_region ?_
   refine WL_val (dd := some 4) rfl rfl rfl (r_assign (v := .int .i64 24) rfl) ?_
   refine WL_nil ?_
   refine hK10 _ _ ?_
   clear hK10 K9
   refine WC_ret ?_
   repeat (first | refine thenQ_ret ?_ | refine blockQ_ret ?_)
   try clear hK4 K3
   refine ret_t (v := .int .i64 24) rfl ?_
   refine ⟨hB, ?_⟩
   exact li_s (.inr hc0)
  ·
   try with_reducible replace hc0 := of_decide_eq_false hc0
   refine WC_skip ?_
   refine hK4 _ _ ?_
   clear hK4 K3
   refine WC_seq (fun K11 hK12 => ?_)
   refine WC_seq (fun K13 hK14 => ?_)
   refine WC_region ?_
   refine WL_val (dd := some 16) rfl rfl rfl (r_move (v := .pointer (some ⟨bz, 0, none⟩)) rfl) ?_
   refine WL_val (dd := some 17) rfl rfl rfl (r_nilCheck_ptr rfl) ?_
   refine WL_val (dd := some 18) rfl rfl rfl (r_fieldAddr (b := _) (o := _) rfl tb_fo100_0) ?_
   refine WL_val (dd := some 19) rfl rfl rfl (r_load1 (v := .pointer (some ⟨ba, 0, none⟩)) rfl tb_sc96 (At.cell (Below.atI hB hz) rfl)) ?_
   refine WL_val (dd := some 20) rfl rfl rfl (r_move (v := .int .i64 _) rfl) ?_
   refine WL_call (dd := some 21) rfl rfl rfl (r_call2 tb_c86 (v0 := .pointer (some ⟨ba, 0, none⟩)) rfl (v1 := .int .i64 _) rfl) (C___arena_Arena__Node _ _ _ _ _ _ _ (Dia.below hB hD) (by first | assumption | omega)) (fun v3_5 W15 hE16 hP3_5 => ?_)
   have hsz17 := (Below.size hB)
   replace hB := below_ext hB hE16 (Nat.le_refl _)
   clear hE16
   obtain rfl := hP3_5
   clear hsz17
   refine WL_val (dd := some 15) rfl rfl rfl (r_move (v := .tuple #[.int .i64 _, .int .i64 _, .int .i64 _, .bool _]) rfl) ?_
   refine WL_val (dd := some 22) rfl rfl rfl (r_ext4_0 (h := rfl)) ?_
   refine WL_val (dd := some 23) rfl rfl rfl (r_ext4_1 (h := rfl)) ?_
   refine WL_val (dd := some 24) rfl rfl rfl (r_ext4_2 (h := rfl)) ?_
   refine WL_val (dd := some 25) rfl rfl rfl (r_ext4_3 (h := rfl)) ?_
   refine WL_val (dd := some 5) rfl rfl rfl (r_assign (v := .int .i64 _) rfl) ?_
   refine WL_val (dd := some 6) rfl rfl rfl (r_assign (v := .int .i64 _) rfl) ?_
   refine WL_val (dd := some 7) rfl rfl rfl (r_assign (v := .int .i64 _) rfl) ?_
   refine WL_val (dd := some 8) rfl rfl rfl (r_assign (v := .bool _) rfl) ?_
   refine WL_nil ?_
   refine hK14 _ _ ?_
   clear hK14 K13
   refine WC_seq (fun K18 hK19 => ?_)
   refine WC_region ?_
   refine WL_val (dd := some 26) rfl rfl rfl (r_move (v := .bool _) rfl) ?_
   refine WL_nil ?_
   refine hK19 _ _ ?_
   clear hK19 K18
   refine WC_cond (b := _) rfl (fun hc1 => ?_) (fun hc1 => ?_)
   ·
    try with_reducible replace hc1 := of_decide_eq_true hc1
    refine WC_seq (fun K20 hK21 => ?_)
    refine WC_region ?_
    refine WL_val (dd := some 27) rfl rfl rfl (r_move (v := .int .i64 _) rfl) ?_
    refine WL_val (dd := some 4) rfl rfl rfl (r_assign (v := .int .i64 _) rfl) ?_
    refine WL_nil ?_
    refine hK21 _ _ ?_
    clear hK21 K20
    refine WC_ret ?_
    repeat (first | refine thenQ_ret ?_ | refine blockQ_ret ?_)
    try clear hK12 K11
    refine ret_t (v := .int .i64 _) rfl ?_
    refine ⟨hB, ?_⟩
    exact li_n hc1
   ·
    try with_reducible replace hc1 := of_decide_eq_false hc1
    refine WC_skip ?_
    refine hK12 _ _ ?_
    clear hK12 K11
    refine WC_seq (fun K22 hK23 => ?_)
    refine WC_region ?_
    refine WL_val (dd := some 4) rfl rfl rfl (r_assign (v := .int .i64 _) rfl) ?_
    refine WL_nil ?_
    refine hK23 _ _ ?_
    clear hK23 K22
    refine WC_ret ?_
    repeat (first | refine thenQ_ret ?_ | refine blockQ_ret ?_)
    refine ret_t (v := .int .i64 _) rfl ?_
    refine ⟨hB, ?_⟩
    exact li_f hs1_2 hc0 hc1

theorem C___zdd_Zdd__there (N ba bm bz R : Nat) (ns : List Nd) (xi : Value) (li : List Int) (w : World) (hz : At w bz #[.pointer (some ⟨ba, 0, none⟩)] 100) (hD : Dia 147 150 N ba bm R w ns) (hli : SlT encI 1 w xi li) (hlb : li.length ≤ 1000) (hmx : ∀ x, x ∈ li → x ≤ 9223372036854775807) :
    Fn Try.prog 73 #[.pointer (some ⟨bz, 0, none⟩), xi] w fun v w' => v = .bool (li.all (thereZ ns)) := by
 refine Fn_intro (n := 20) Try.func73 rfl rfl (Nat.le_of_ble_eq_true rfl) ?_
 have hB : Below w.heap.size w w := Below.refl _ _
 refine WC_seq (fun K1 hK2 => ?_)
 refine WC_region ?_
 refine WL_val (dd := some 4) rfl rfl rfl (r_assign (v := .bool false) rfl) ?_
 refine WL_nil ?_
 refine hK2 _ _ ?_
 clear hK2 K1
 refine WC_seq (fun K3 hK4 => ?_)
 refine WC_seq (fun K5 hK6 => ?_)
 refine WC_region ?_
 refine WL_val (dd := some 7) rfl rfl rfl (r_move (v := .pointer (some ⟨bz, 0, none⟩)) rfl) ?_
 refine WL_val (dd := some 8) rfl rfl rfl (r_ptrNil rfl rfl Try.underlying24) ?_
 refine WL_nil ?_
 refine hK6 _ _ ?_
 clear hK6 K5
 refine WC_cond_false rfl ?_
 refine WC_skip ?_
 refine hK4 _ _ ?_
 clear hK4 K3
 refine WC_seq (fun K7 hK8 => ?_)
 refine WC_seq (fun K9 hK10 => ?_)
 refine WC_region ?_
 refine WL_val (dd := some 9) rfl rfl rfl (r_move (v := xi) rfl) ?_
 refine WL_val (dd := some 10) rfl rfl rfl (r_lenS (v := xi) rfl (Below.slT hB hli) tb_el22) ?_
 refine WL_val (dd := some 11) rfl rfl rfl (r_move (v := .int .i64 0) rfl) ?_
 refine WL_nil ?_
 refine hK10 _ _ ?_
 clear hK10 K9
 refine WC_block ?_
 refine WC_loop (σ := (Nat)) [4, 6, 11, 12, 13, 14, 15, 16, 17, 18, 19] (fun k => [(11, .int .i64 (k : Int))]) (fun k W => (Below w.heap.size w W) ∧ (k ≤ li.length) ∧ (∀ q, q < k → thereZ ns (li.getD q 0) = true) ∧ (True)) (fun k => li.length - k) (0) ⟨rfl, trivial⟩ ⟨hB, (Nat.zero_le _), upTo_zero, trivial⟩ ?_
 clear hB
 rintro k g12 W11 ⟨hB, hk, hq, _⟩ J13 hJ14
 refine WC_seq (fun K15 hK16 => ?_)
 refine WC_region ?_
 refine WL_val (dd := some 12) rfl rfl rfl (r_lss rfl rfl) ?_
 refine WL_nil ?_
 refine hK16 _ _ ?_
 clear hK16 K15
 refine WC_seq (fun K17 hK18 => ?_)
 refine WC_cond (b := _) rfl (fun hc1 => ?_) (fun hc1 => ?_)
 ·
  try with_reducible replace hc1 := of_decide_eq_true hc1
  refine WC_skip ?_
  refine hK18 _ _ ?_
  clear hK18 K17
  refine WC_seq (fun K19 hK20 => ?_)
  refine WC_block ?_
  refine WC_seq (fun K21 hK22 => ?_)
  refine WC_region ?_
  refine WL_val (dd := some 13) rfl rfl rfl (r_idxS (v := xi) rfl (Below.slT hB hli) rfl tb_el22 (by omega) (by omega)) ?_
  refine WL_val (dd := some 14) rfl rfl rfl (r_load1 (v := .int .i64 _) rfl tb_sc3 (SlT.cell (Below.slT hB hli) encI_len 0 (by omega) (by omega) 0 rfl)) ?_
  refine WL_val (dd := some 6) rfl rfl rfl (r_assign (v := .int .i64 _) rfl) ?_
  refine WL_nil ?_
  refine hK22 _ _ ?_
  clear hK22 K21
  refine WC_seq (fun K23 hK24 => ?_)
  have hmk := hmx (li.getD k 0) (getD_mem (by omega))
  refine WC_region ?_
  refine WL_val (dd := some 15) rfl rfl rfl (r_move (v := .pointer (some ⟨bz, 0, none⟩)) rfl) ?_
  refine WL_val (dd := some 16) rfl rfl rfl (r_move (v := .int .i64 _) rfl) ?_
  refine WL_call (dd := some 17) rfl rfl rfl (r_call2 tb_c119 (v0 := .pointer (some ⟨bz, 0, none⟩)) rfl (v1 := .int .i64 _) rfl) (C___zdd_Zdd__level _ _ _ _ _ _ _ _ (Below.atI hB hz) (Dia.below hB hD) (by first | assumption | omega)) (fun v6_2 W25 hE26 hP6_2 => ?_)
  have hsz27 := (Below.size hB)
  replace hB := below_ext hB hE26 (Nat.le_refl _)
  clear hE26
  clear hsz27
  obtain rfl := hP6_2
  refine WL_val (dd := some 18) rfl rfl rfl (r_lss rfl rfl) ?_
  refine WL_nil ?_
  refine hK24 _ _ ?_
  clear hK24 K23
  refine WC_cond (b := _) rfl (fun hc2 => ?_) (fun hc2 => ?_)
  ·
   try with_reducible replace hc2 := of_decide_eq_true hc2
   refine WC_seq (fun K28 hK29 => ?_)
   refine WC_region ?_
   refine WL_val (dd := some 4) rfl rfl rfl (r_assign (v := .bool false) rfl) ?_
   refine WL_nil ?_
   refine hK29 _ _ ?_
   clear hK29 K28
   refine WC_ret ?_
   repeat (first | refine thenQ_ret ?_ | refine blockQ_ret ?_)
   try clear hK20 K19
   try clear hJ14 J13
   try clear hK8 K7
   refine ret_t (v := .bool false) rfl ?_
   refine ⟨hB, ?_⟩
   exact allZ_no (k := k) (by omega) hc2
  ·
   try with_reducible replace hc2 := of_decide_eq_false hc2
   refine WC_skip ?_
   refine hK20 _ _ ?_
   clear hK20 K19
   refine WC_region ?_
   refine WL_val (dd := some 19) rfl rfl rfl (r_addI rfl rfl (by omega) (by omega)) ?_
   refine WL_val (dd := some 11) rfl rfl rfl (r_move (v := .int .i64 _) rfl) ?_
   refine WL_nil ?_
   refine hJ14 _ _ (k + 1) ?_ ?_ ?_ ?_
   · repeat (first | exact agree.mask _ _ _ | refine agree.updo ?_ rfl _ | refine agree.updL ?_ _ rfl | refine agree.maskS rfl ?_)
   · exact ⟨rfl, trivial⟩
   · exact ⟨hB, (by omega), (upTo_succ hq (tz_yes hc2)), trivial⟩
   · first | omega | (dsimp only; omega)
 ·
  try with_reducible replace hc1 := of_decide_eq_false hc1
  refine WC_exit ?_
  refine hK8 _ _ ?_
  clear hK18 K17
  clear hJ14 J13
  clear hK8 K7
  refine WC_seq (fun K30 hK31 => ?_)
  refine WC_region ?_
  refine WL_val (dd := some 4) rfl rfl rfl (r_assign (v := .bool true) rfl) ?_
  refine WL_nil ?_
  refine hK31 _ _ ?_
  clear hK31 K30
  refine WC_ret ?_
  repeat (first | refine thenQ_ret ?_ | refine blockQ_ret ?_)
  refine ret_t (v := .bool true) rfl ?_
  refine ⟨hB, ?_⟩
  exact all_yes (k := k) (by omega) hq

theorem C___zdd_Zdd__node (N ba bm bz R : Nat) (ns : List Nd) (l lo hi : Nat) (w : World) (hN0 : N ≤ w.heap.size) (hz : At w bz #[.pointer (some ⟨ba, 0, none⟩)] 100) (hD : Dia 147 150 N ba bm R w ns) (hlo : lo < ns.length + 2) (hhi : hi < ns.length + 2) (l1 : l < lvl ns lo) (l2 : l < lvl ns hi) (h24 : l < 24) :
    FnG Try.prog 121 #[.pointer (some ⟨bz, 0, none⟩), .int .i64 (l : Int), .int .i64 (lo : Int), .int .i64 (hi : Int)] w fun v w' => PO 147 150 N ba bm R w ns (min hi 1) (l) (up l (M ns lo) (M ns hi)) v w' := by
 refine FnG_intro (n := 23) Try.func121 rfl rfl (Nat.le_of_ble_eq_true rfl) ?_
 have hB : Below N w w := Below.refl _ _
 have hX : Dx 150 N [ba, bm] w w := Dx.refl
 refine WC_seq (fun K1 hK2 => ?_)
 refine WC_region ?_
 refine WL_val (dd := some 8) rfl rfl rfl (r_assign (v := .int .i64 0) rfl) ?_
 refine WL_val (dd := some 9) rfl rfl rfl (r_assign (v := .int .i64 0) rfl) ?_
 refine WL_nil ?_
 refine hK2 _ _ ?_
 clear hK2 K1
 refine WC_seq (fun K3 hK4 => ?_)
 refine WC_seq (fun K5 hK6 => ?_)
 refine WC_region ?_
 refine WL_val (dd := some 10) rfl rfl rfl (r_move (v := .int .i64 _) rfl) ?_
 refine WL_val (dd := some 11) rfl rfl rfl (r_eql rfl rfl) ?_
 refine WL_nil ?_
 refine hK6 _ _ ?_
 clear hK6 K5
 refine WC_cond (b := _) rfl (fun hc0 => ?_) (fun hc0 => ?_)
 ·
  try with_reducible replace hc0 := of_decide_eq_true hc0
  refine WC_seq (fun K7 hK8 => ?_)
  refine WC_region ?_
  refine WL_val (dd := some 12) rfl rfl rfl (r_move (v := .int .i64 _) rfl) ?_
  refine WL_val (dd := some 8) rfl rfl rfl (r_assign (v := .int .i64 _) rfl) ?_
  refine WL_val (dd := some 9) rfl rfl rfl (r_assign (v := .int .i64 0) rfl) ?_
  refine WL_nil ?_
  refine hK8 _ _ ?_
  clear hK8 K7
  refine WC_ret ?_
  repeat (first | refine thenQ_ret ?_ | refine blockQ_ret ?_)
  try clear hK4 K3
  refine ret_tt (v := .int .i64 _) rfl (v1 := .int .i64 0) rfl ?_
  exact ⟨ns, lo, 0, rfl, hX, hD, Got.same hlo (Nat.le_of_lt l1) (node_zero hc0)⟩
 ·
  try with_reducible replace hc0 := of_decide_eq_false hc0
  refine WC_skip ?_
  refine hK4 _ _ ?_
  clear hK4 K3
  refine WC_seq (fun K9 hK10 => ?_)
  refine WC_region ?_
  refine WL_val (dd := some 13) rfl rfl rfl (r_move (v := .pointer (some ⟨bz, 0, none⟩)) rfl) ?_
  refine WL_val (dd := some 14) rfl rfl rfl (r_nilCheck_ptr rfl) ?_
  refine WL_val (dd := some 15) rfl rfl rfl (r_fieldAddr (b := _) (o := _) rfl tb_fo100_0) ?_
  refine WL_val (dd := some 16) rfl rfl rfl (r_load1 (v := .pointer (some ⟨ba, 0, none⟩)) rfl tb_sc96 (At.cell hz rfl)) ?_
  refine WL_val (dd := some 17) rfl rfl rfl (r_move (v := .int .i64 _) rfl) ?_
  refine WL_val (dd := some 18) rfl rfl rfl (r_move (v := .int .i64 _) rfl) ?_
  refine WL_val (dd := some 19) rfl rfl rfl (r_move (v := .int .i64 _) rfl) ?_
  refine WL_callG (dd := some 20) rfl rfl rfl (r_call4 tb_c140 (v0 := .pointer (some ⟨ba, 0, none⟩)) rfl (v1 := .int .i64 _) rfl (v2 := .int .i64 _) rfl (v3 := .int .i64 _) rfl) (C___arena_Arena__Make N ba bm R ns l lo hi _ hN0 hD hlo hhi (by omega) l1 l2 h24) (fun v3_7 W11 hP3_7 => ?_)
  obtain ⟨ns3_7, id3_7, er3_7, rfl, hx3_7, hDn3_7, hg3_7⟩ := hP3_7
  replace hz := At.dx hD hx3_7 hz (by decide) (by decide)
  replace hX := Dx.trans hX (hx3_7)
  replace hB := Below.dx hB (Nat.le_refl _) hN0 hx3_7
  replace hD := hDn3_7
  refine WL_val (dd := some 21) rfl rfl rfl (r_ext2_0 (h := rfl)) ?_
  refine WL_val (dd := some 22) rfl rfl rfl (r_ext2_1 (h := rfl)) ?_
  refine WL_val (dd := some 8) rfl rfl rfl (r_assign (v := .int .i64 _) rfl) ?_
  refine WL_val (dd := some 9) rfl rfl rfl (r_assign (v := .int .i64 _) rfl) ?_
  refine WL_nil ?_
  refine hK10 _ _ ?_
  clear hK10 K9
  refine WC_ret ?_
  repeat (first | refine thenQ_ret ?_ | refine blockQ_ret ?_)
  refine ret_tt (v := .int .i64 _) rfl (v1 := .int .i64 _) rfl ?_
  exact ⟨_, _, _, rfl, hX, hD, hg3_7.weak (show 1 ≤ min hi 1 by omega) (fun _ => Iff.rfl)⟩

theorem C___zdd_Zdd__halves (N ba bm bz R : Nat) (ns : List Nd) (f l : Nat) (w : World) (hz : At w bz #[.pointer (some ⟨ba, 0, none⟩)] 100) (hD : Dia 147 150 N ba bm R w ns) (hf : f < ns.length + 2) :
    Fn Try.prog 120 #[.pointer (some ⟨bz, 0, none⟩), .int .i64 (f : Int), .int .i64 (l : Int)] w fun v w' => v = .tuple #[.int .i64 ((halfA ns f l : Nat) : Int), .int .i64 ((halfB ns f l : Nat) : Int)] := by
 refine Fn_intro (n := 32) Try.func120 rfl rfl (Nat.le_of_ble_eq_true rfl) ?_
 have hB : Below w.heap.size w w := Below.refl _ _
 have hroom := hD.room
 have htop := hD.top
 refine WC_seq (fun K1 hK2 => ?_)
 refine WC_region ?_
 refine WL_val (dd := some 6) rfl rfl rfl (r_assign (v := .int .i64 0) rfl) ?_
 refine WL_val (dd := some 7) rfl rfl rfl (r_assign (v := .int .i64 0) rfl) ?_
 refine WL_nil ?_
 refine hK2 _ _ ?_
 clear hK2 K1
 refine WC_seq (fun K3 hK4 => ?_)
 refine WC_seq (fun K5 hK6 => ?_)
 refine WC_region ?_
 refine WL_val (dd := some 13) rfl rfl rfl (r_move (v := .pointer (some ⟨bz, 0, none⟩)) rfl) ?_
 refine WL_val (dd := some 14) rfl rfl rfl (r_nilCheck_ptr rfl) ?_
 refine WL_val (dd := some 15) rfl rfl rfl (r_fieldAddr (b := _) (o := _) rfl tb_fo100_0) ?_
 refine WL_val (dd := some 16) rfl rfl rfl (r_load1 (v := .pointer (some ⟨ba, 0, none⟩)) rfl tb_sc96 (At.cell (Below.atI hB hz) rfl)) ?_
 refine WL_val (dd := some 17) rfl rfl rfl (r_move (v := .int .i64 _) rfl) ?_
 refine WL_call (dd := some 18) rfl rfl rfl (r_call2 tb_c86 (v0 := .pointer (some ⟨ba, 0, none⟩)) rfl (v1 := .int .i64 _) rfl) (C___arena_Arena__Node _ _ _ _ _ _ _ (Dia.below hB hD) (by first | assumption | omega)) (fun v1_5 W7 hE8 hP1_5 => ?_)
 have hsz9 := (Below.size hB)
 replace hB := below_ext hB hE8 (Nat.le_refl _)
 clear hE8
 obtain rfl := hP1_5
 clear hsz9
 refine WL_val (dd := some 12) rfl rfl rfl (r_move (v := .tuple #[.int .i64 _, .int .i64 _, .int .i64 _, .bool _]) rfl) ?_
 refine WL_val (dd := some 19) rfl rfl rfl (r_ext4_0 (h := rfl)) ?_
 refine WL_val (dd := some 20) rfl rfl rfl (r_ext4_1 (h := rfl)) ?_
 refine WL_val (dd := some 21) rfl rfl rfl (r_ext4_2 (h := rfl)) ?_
 refine WL_val (dd := some 22) rfl rfl rfl (r_ext4_3 (h := rfl)) ?_
 refine WL_val (dd := some 8) rfl rfl rfl (r_assign (v := .int .i64 _) rfl) ?_
 refine WL_val (dd := some 9) rfl rfl rfl (r_assign (v := .int .i64 _) rfl) ?_
 refine WL_val (dd := some 10) rfl rfl rfl (r_assign (v := .int .i64 _) rfl) ?_
 refine WL_val (dd := some 11) rfl rfl rfl (r_assign (v := .bool _) rfl) ?_
 refine WL_nil ?_
 refine hK6 _ _ ?_
 clear hK6 K5
 refine WC_seq (fun K10 hK11 => ?_)
 refine WC_region ?_
 refine WL_val (dd := some 23) rfl rfl rfl (r_move (v := .bool _) rfl) ?_
 refine WL_split (dd := some 24) rfl rfl rfl (r_move (v := .bool _) rfl) (fun hs2_1 => ?_) (fun hs2_1 => ?_)
 ·
  try with_reducible replace hs2_1 := of_decide_eq_true hs2_1
  refine WL_val (dd := some 25) rfl rfl rfl (r_move (v := .int .i64 _) rfl) ?_
  refine WL_val (dd := some 26) rfl rfl rfl (r_move (v := .int .i64 _) rfl) ?_
  refine WL_val (dd := some 27) rfl rfl rfl (r_eql rfl rfl) ?_
  refine WL_val (dd := some 28) rfl rfl rfl (r_pick_t rfl (v := .bool _) rfl) ?_
  refine WL_nil ?_
  refine hK11 _ _ ?_
  clear hK11 K10
  refine WC_cond (b := _) rfl (fun hc0 => ?_) (fun hc0 => ?_)
  ·
   try with_reducible replace hc0 := of_decide_eq_true hc0
   refine WC_seq (fun K12 hK13 => ?_)
   refine WC_region ?_
   refine WL_val (dd := some 29) rfl rfl rfl (r_move (v := .int .i64 _) rfl) ?_
   refine WL_val (dd := some 30) rfl rfl rfl (r_move (v := .int .i64 _) rfl) ?_
   refine WL_val (dd := some 6) rfl rfl rfl (r_assign (v := .int .i64 _) rfl) ?_
   refine WL_val (dd := some 7) rfl rfl rfl (r_assign (v := .int .i64 _) rfl) ?_
   refine WL_nil ?_
   refine hK13 _ _ ?_
   clear hK13 K12
   refine WC_ret ?_
   repeat (first | refine thenQ_ret ?_ | refine blockQ_ret ?_)
   try clear hK4 K3
   refine ret_tt (v := .int .i64 _) rfl (v1 := .int .i64 _) rfl ?_
   refine ⟨hB, ?_⟩
   exact hv_t hs2_1 hc0
  ·
   try with_reducible replace hc0 := of_decide_eq_false hc0
   refine WC_skip ?_
   refine hK4 _ _ ?_
   clear hK4 K3
   refine WC_seq (fun K14 hK15 => ?_)
   refine WC_region ?_
   refine WL_val (dd := some 31) rfl rfl rfl (r_move (v := .int .i64 _) rfl) ?_
   refine WL_val (dd := some 6) rfl rfl rfl (r_assign (v := .int .i64 _) rfl) ?_
   refine WL_val (dd := some 7) rfl rfl rfl (r_assign (v := .int .i64 0) rfl) ?_
   refine WL_nil ?_
   refine hK15 _ _ ?_
   clear hK15 K14
   refine WC_ret ?_
   repeat (first | refine thenQ_ret ?_ | refine blockQ_ret ?_)
   refine ret_tt (v := .int .i64 _) rfl (v1 := .int .i64 0) rfl ?_
   refine ⟨hB, ?_⟩
   exact hv_f hf (fun h => hc0 h.2)
 ·
  try with_reducible replace hs2_1 := of_decide_eq_false hs2_1
  refine WL_skip (dd := some 25) rfl rfl rfl ?_
  refine WL_skip (dd := some 26) rfl rfl rfl ?_
  refine WL_skip (dd := some 27) rfl rfl rfl ?_
  refine WL_val (dd := some 28) rfl rfl rfl (r_pick_f rfl (v := .bool false) rfl) ?_
  refine WL_nil ?_
  refine hK11 _ _ ?_
  clear hK11 K10
  refine WC_cond_false rfl ?_
  refine WC_skip ?_
  refine hK4 _ _ ?_
  clear hK4 K3
  refine WC_seq (fun K16 hK17 => ?_)
  refine WC_region ?_
  refine WL_val (dd := some 31) rfl rfl rfl (r_move (v := .int .i64 _) rfl) ?_
  refine WL_val (dd := some 6) rfl rfl rfl (r_assign (v := .int .i64 _) rfl) ?_
  refine WL_val (dd := some 7) rfl rfl rfl (r_assign (v := .int .i64 0) rfl) ?_
  refine WL_nil ?_
  refine hK17 _ _ ?_
  clear hK17 K16
  refine WC_ret ?_
  repeat (first | refine thenQ_ret ?_ | refine blockQ_ret ?_)
  refine ret_tt (v := .int .i64 _) rfl (v1 := .int .i64 0) rfl ?_
  refine ⟨hB, ?_⟩
  exact hv_f hf (fun h => by rw [hs2_1] at h; cases h.1)

end Go.Proofs.Ytpamgfbecgjjeaa
