/-
  The walks of the document's rows, and of the statements about primes of several outputs.
-/
import Derived.Test.YtdbcijijhhbkaaaProg
import Derived.Test.YtdbcijijhhbkaaaWCov
import Derived.Test.YtdbcijijhhbkaaaRef10
namespace Go.Proofs.Ytdbcijijhhbkaaa
set_option linter.unusedVariables false
set_option linter.unusedSimpArgs false
open Go Go.RowKit

theorem tb_neq79 {f : Nat → Value} {w : World} {d : Option Nat} {ty t2 : TypeId} {ps : String} {af : Array Edge} {g : Option (Nat × Bool)} {x y : Operand} {a0 a1 a2 b0 b1 b2 : Int} (hx : evF f x = .agg #[.int .u8 a0, .int .u8 a1, .int .u8 a2]) (hy : evF f y = .agg #[.int .u8 b0, .int .u8 b1, .int .u8 b2]) :
    (execOp (evF f) ⟨d, .binOp .neq 79 x y t2, ty, ps, af, g⟩).run Try.prog w = .ok (.value (.bool (decide (¬ (a0 = b0 ∧ a1 = b1 ∧ a2 = b2))))) w := by
  have hg : Try.prog.eqGuardType Try.prog.depth 79 = false := by kernel_rfl
  have hp79 : Try.prog.stoodInHeld 79 = false := by kernel_rfl
  have hu79 : Try.prog.underlying 79 = some (.struct (Try.prog.fieldsOf 79)) := by kernel_rfl
  have hp34 : Try.prog.stoodInHeld 34 = false := by kernel_rfl
  have hu34 : Try.prog.underlying 34 = some (.struct (Try.prog.fieldsOf 34)) := by kernel_rfl
  obtain ⟨j34, hj34, hs34⟩ := Option.map_eq_some_iff.1 (show (Try.prog.info? 34).map (·.size) = some 2 by kernel_rfl)
  simp only [execOp, hx, hy, Sem.run_bind, run_eqGuard_agg _ _ _ _ _ _ _ hg, Result.andThen_ok, run_neq_struct, run_equalIn_agg _ 9999 79 _ _ hu79 hp79]
  simp only [Program.fieldsOf, Try.underlying79]
  simp [Op.eqFields, part, isAgg, run_equalIn_int _ 9998 5 _ _ _ _ Try.underlying5, run_underlying Try.underlying5, run_equalIn_agg _ 9998 34 _ _ hu34 hp34, Program.fieldsOf, Try.underlying34, run_equalIn_int _ 9997 5 _ _ _ _ Try.underlying5, sizeOf, typeInfo, hj34, hs34, run_underlying Try.underlying34]
  by_cases q0 : a0 = b0 <;> by_cases q1 : a1 = b1 <;> by_cases q2 : a2 = b2 <;> simp [q0, q1, q2]
theorem tb_c140 : callB Try.prog 140 = true := by kernel_rfl
theorem tb_c65 : callB Try.prog 65 = true := by kernel_rfl
theorem tb_c119 : callB Try.prog 119 = true := by kernel_rfl
theorem tb_c64 : callB Try.prog 64 = true := by kernel_rfl
theorem tb_zs24 : (zeroI Try.prog 24).map (fun z => z.cells.size) = some 4 := by kernel_rfl
theorem tb_build24_0 {f : Nat → Value} {w : World} {d : Option Nat} {ty : TypeId} {ps : String} {af : Array Edge} {g : Option (Nat × Bool)} {x0 : Operand} {c0_0 : Value} (h0 : evF f x0 = c0_0) (k0 : c0_0.cells = #[c0_0]) :
    (execOp (evF f) ⟨d, .build 24 #[(0, x0)], ty, ps, af, g⟩).run Try.prog w = .ok (.value (.agg #[c0_0, .int .u64 0, .int .u64 0, .int .u64 0])) w := by
  obtain ⟨i0, hi0, hz0⟩ := Option.bind_eq_some_iff.1 (show (Try.prog.info? 24).bind (·.zero) = _ from tb_z24)
  obtain ⟨j22, hj22, hs22⟩ := Option.map_eq_some_iff.1 tb_size22
  simp [execOp, h0, k0, Instr.build, zeroValue, typeInfo, sizeOf, hi0, hz0, run_underlying Try.underlying24, Instr.fill, cells_agg, hj22, hs22]
theorem tb_z64 : zeroI Try.prog 64 = some (.agg #[.int .i64 0, .slice none 0 0, .slice none 0 0]) := by kernel_rfl
theorem tb_size3 : (Try.prog.info? 3).map (·.size) = some 1 := by kernel_rfl
theorem tb_size62 : (Try.prog.info? 62).map (·.size) = some 1 := by kernel_rfl
theorem tb_build64_0_1_2 {f : Nat → Value} {w : World} {d : Option Nat} {ty : TypeId} {ps : String} {af : Array Edge} {g : Option (Nat × Bool)} {x0 x1 x2 : Operand} {c0_0 c1_0 c2_0 : Value} (h0 : evF f x0 = c0_0) (k0 : c0_0.cells = #[c0_0]) (h1 : evF f x1 = c1_0) (k1 : c1_0.cells = #[c1_0]) (h2 : evF f x2 = c2_0) (k2 : c2_0.cells = #[c2_0]) :
    (execOp (evF f) ⟨d, .build 64 #[(0, x0), (1, x1), (2, x2)], ty, ps, af, g⟩).run Try.prog w = .ok (.value (.agg #[c0_0, c1_0, c2_0])) w := by
  obtain ⟨i0, hi0, hz0⟩ := Option.bind_eq_some_iff.1 (show (Try.prog.info? 64).bind (·.zero) = _ from tb_z64)
  obtain ⟨j3, hj3, hs3⟩ := Option.map_eq_some_iff.1 tb_size3
  obtain ⟨j62, hj62, hs62⟩ := Option.map_eq_some_iff.1 tb_size62
  simp [execOp, h0, k0, h1, k1, h2, k2, Instr.build, zeroValue, typeInfo, sizeOf, hi0, hz0, run_underlying Try.underlying64, Instr.fill, cells_agg, hj3, hs3, hj62, hs62]
theorem tb_c59 : callB Try.prog 59 = true := by kernel_rfl
theorem tb_c62 : callB Try.prog 62 = true := by kernel_rfl
theorem tb_build79_1 {f : Nat → Value} {w : World} {d : Option Nat} {ty : TypeId} {ps : String} {af : Array Edge} {g : Option (Nat × Bool)} {x0 : Operand} {c0_0 : Value} (h0 : evF f x0 = c0_0) (k0 : c0_0.cells = #[c0_0]) :
    (execOp (evF f) ⟨d, .build 79 #[(1, x0)], ty, ps, af, g⟩).run Try.prog w = .ok (.value (.agg #[.int .u8 0, .int .u8 0, c0_0])) w := by
  obtain ⟨i0, hi0, hz0⟩ := Option.bind_eq_some_iff.1 (show (Try.prog.info? 79).bind (·.zero) = _ from tb_z79)
  obtain ⟨j5, hj5, hs5⟩ := Option.map_eq_some_iff.1 tb_size5
  obtain ⟨j34, hj34, hs34⟩ := Option.map_eq_some_iff.1 tb_size34
  simp [execOp, h0, k0, Instr.build, zeroValue, typeInfo, sizeOf, hi0, hz0, run_underlying Try.underlying79, Instr.fill, cells_agg, hj5, hs5, hj34, hs34]
theorem tb_eq79 {f : Nat → Value} {w : World} {d : Option Nat} {ty t2 : TypeId} {ps : String} {af : Array Edge} {g : Option (Nat × Bool)} {x y : Operand} {a0 a1 a2 b0 b1 b2 : Int} (hx : evF f x = .agg #[.int .u8 a0, .int .u8 a1, .int .u8 a2]) (hy : evF f y = .agg #[.int .u8 b0, .int .u8 b1, .int .u8 b2]) :
    (execOp (evF f) ⟨d, .binOp .eql 79 x y t2, ty, ps, af, g⟩).run Try.prog w = .ok (.value (.bool (decide ((a0 = b0 ∧ a1 = b1 ∧ a2 = b2))))) w := by
  have hg : Try.prog.eqGuardType Try.prog.depth 79 = false := by kernel_rfl
  have hp79 : Try.prog.stoodInHeld 79 = false := by kernel_rfl
  have hu79 : Try.prog.underlying 79 = some (.struct (Try.prog.fieldsOf 79)) := by kernel_rfl
  have hp34 : Try.prog.stoodInHeld 34 = false := by kernel_rfl
  have hu34 : Try.prog.underlying 34 = some (.struct (Try.prog.fieldsOf 34)) := by kernel_rfl
  obtain ⟨j34, hj34, hs34⟩ := Option.map_eq_some_iff.1 (show (Try.prog.info? 34).map (·.size) = some 2 by kernel_rfl)
  simp only [execOp, hx, hy, Sem.run_bind, run_eqGuard_agg _ _ _ _ _ _ _ hg, Result.andThen_ok, run_eql_struct, run_equalIn_agg _ 9999 79 _ _ hu79 hp79]
  simp only [Program.fieldsOf, Try.underlying79]
  simp [Op.eqFields, part, isAgg, run_equalIn_int _ 9998 5 _ _ _ _ Try.underlying5, run_underlying Try.underlying5, run_equalIn_agg _ 9998 34 _ _ hu34 hp34, Program.fieldsOf, Try.underlying34, run_equalIn_int _ 9997 5 _ _ _ _ Try.underlying5, sizeOf, typeInfo, hj34, hs34, run_underlying Try.underlying34]
  by_cases q0 : a0 = b0 <;> by_cases q1 : a1 = b1 <;> by_cases q2 : a2 = b2 <;> simp [q0, q1, q2]
theorem tb_c63 : callB Try.prog 63 = true := by kernel_rfl
theorem tb_c56 : callB Try.prog 56 = true := by kernel_rfl
theorem tb_c57 : callB Try.prog 57 = true := by kernel_rfl
theorem tb_c58 : callB Try.prog 58 = true := by kernel_rfl
theorem tb_c61 : callB Try.prog 61 = true := by kernel_rfl
theorem tb_c60 : callB Try.prog 60 = true := by kernel_rfl
theorem tb_c69 : callB Try.prog 69 = true := by kernel_rfl
theorem tb_c70 : callB Try.prog 70 = true := by kernel_rfl
theorem tb_c66 : callB Try.prog 66 = true := by kernel_rfl

theorem C_drawkniferef10_power (n : Int) (w : World) (h0 : 0 ≤ n) (hn : n ≤ 61) :
    Fn Try.prog 140 #[.int .i64 n] w fun v w' => v = .int .i64 ((2 ^ n.toNat : Nat) : Int) := by
  refine Fn_intro (n := 13) Try.func140 rfl rfl (Nat.le_of_ble_eq_true rfl) ?_
  have hB : Below w.heap.size w w := Below.refl _ _
  refine WC_seq (fun K1 hK2 => ?_)
  refine WC_region ?_
  refine WL_val (dd := some 2) rfl rfl rfl (r_assign (v := .int .i64 0) rfl) ?_
  refine WL_nil ?_
  refine hK2 _ _ ?_
  clear hK2 K1
  refine WC_seq (fun K3 hK4 => ?_)
  refine WC_region ?_
  refine WL_val (dd := some 3) rfl rfl rfl (r_assign (v := .int .i64 1) rfl) ?_
  refine WL_nil ?_
  refine hK4 _ _ ?_
  clear hK4 K3
  refine WC_seq (fun K5 hK6 => ?_)
  refine WC_seq (fun K7 hK8 => ?_)
  refine WC_region ?_
  refine WL_val (dd := some 4) rfl rfl rfl (r_assign (v := .int .i64 0) rfl) ?_
  refine WL_nil ?_
  refine hK8 _ _ ?_
  clear hK8 K7
  refine WC_block ?_
  refine WC_loop (σ := (Nat)) [3, 4, 5, 6, 7, 8, 9, 10, 11] (fun k => [(4, .int .i64 (k : Int)), (3, .int .i64 ((2 ^ k : Nat) : Int))]) (fun k W => (Below w.heap.size w W) ∧ (k ≤ n.toNat) ∧ (True)) (fun k => n.toNat - k) (0) ⟨rfl, rfl, trivial⟩ ⟨hB, (Nat.zero_le _), trivial⟩ ?_
  clear hB
  rintro k g10 W9 ⟨hB, hk, _⟩ J11 hJ12
  refine WC_seq (fun K13 hK14 => ?_)
  refine WC_seq (fun K15 hK16 => ?_)
  refine WC_region ?_
  refine WL_val (dd := some 5) rfl rfl rfl (r_move (v := .int .i64 _) rfl) ?_
  refine WL_val (dd := some 6) rfl rfl rfl (r_move (v := .int .i64 _) rfl) ?_
  refine WL_val (dd := some 7) rfl rfl rfl (r_lss rfl rfl) ?_
  refine WL_nil ?_
  refine hK16 _ _ ?_
  clear hK16 K15
  refine WC_cond (b := _) rfl (fun hc0 => ?_) (fun hc0 => ?_)
  ·
    try with_reducible replace hc0 := of_decide_eq_true hc0
    refine WC_skip ?_
    refine hK14 _ _ ?_
    clear hK14 K13
    refine WC_seq (fun K17 hK18 => ?_)
    refine WC_block ?_
    have h63 := Nat.two_pow_pos k
    have h62 : 2 ^ k ≤ 2 ^ 61 := Nat.pow_le_pow_right (by decide) (by omega)
    refine WC_region ?_
    refine WL_val (dd := some 10) rfl rfl rfl (r_move (v := .int .i64 _) rfl) ?_
    refine WL_val (dd := some 11) rfl rfl rfl (r_mulI rfl rfl (by omega) (by omega)) ?_
    refine WL_val (dd := some 3) rfl rfl rfl (r_assign (v := .int .i64 _) rfl) ?_
    refine WL_nil ?_
    refine hK18 _ _ ?_
    clear hK18 K17
    refine WC_region ?_
    refine WL_val (dd := some 8) rfl rfl rfl (r_move (v := .int .i64 _) rfl) ?_
    refine WL_val (dd := some 9) rfl rfl rfl (r_addI rfl rfl (by omega) (by omega)) ?_
    refine WL_val (dd := some 4) rfl rfl rfl (r_assign (v := .int .i64 _) rfl) ?_
    refine WL_nil ?_
    refine hJ12 _ _ (k + 1) ?_ ?_ ?_ ?_
    · repeat (first | exact agree.mask _ _ _ | refine agree.updo ?_ rfl _ | refine agree.updL ?_ _ rfl | refine agree.maskS rfl ?_)
    · exact ⟨rfl, congrArg (Value.int .i64) (two_step k), trivial⟩
    · exact ⟨hB, (by omega), trivial⟩
    · first | omega | (dsimp only; omega)
  ·
    try with_reducible replace hc0 := of_decide_eq_false hc0
    refine WC_exit ?_
    refine hK6 _ _ ?_
    clear hK14 K13
    clear hJ12 J11
    clear hK6 K5
    refine WC_seq (fun K19 hK20 => ?_)
    refine WC_region ?_
    refine WL_val (dd := some 12) rfl rfl rfl (r_move (v := .int .i64 _) rfl) ?_
    refine WL_val (dd := some 2) rfl rfl rfl (r_assign (v := .int .i64 _) rfl) ?_
    refine WL_nil ?_
    refine hK20 _ _ ?_
    clear hK20 K19
    refine WC_ret ?_
    repeat (first | refine thenQ_ret ?_ | refine blockQ_ret ?_)
    refine ret_t (v := .int .i64 _) rfl ?_
    refine ⟨hB, ?_⟩
    obtain rfl : k = n.toNat := by omega
    rfl

theorem C_drawkniferef10_Same (xa xb : Value) (l l2 : List Rw) (w : World) (hl : SlT encR 3 w xa l) (hl2 : SlT encR 3 w xb l2) (hb : l.length ≤ 2000000) :
    Fn Try.prog 60 #[xa, xb] w fun v w' => v = .bool (decide (l = l2)) := by
  refine Fn_intro (n := 26) Try.func60 rfl rfl (Nat.le_of_ble_eq_true rfl) ?_
  have hB : Below w.heap.size w w := Below.refl _ _
  refine WC_seq (fun K1 hK2 => ?_)
  refine WC_region ?_
  refine WL_val (dd := some 4) rfl rfl rfl (r_assign (v := .bool false) rfl) ?_
  refine WL_nil ?_
  refine hK2 _ _ ?_
  clear hK2 K1
  refine WC_seq (fun K3 hK4 => ?_)
  refine WC_seq (fun K5 hK6 => ?_)
  refine WC_region ?_
  refine WL_val (dd := some 6) rfl rfl rfl (r_move (v := xa) rfl) ?_
  refine WL_val (dd := some 7) rfl rfl rfl (r_lenS (v := xa) rfl (Below.slT hB hl) tb_el65) ?_
  refine WL_val (dd := some 8) rfl rfl rfl (r_move (v := xb) rfl) ?_
  refine WL_val (dd := some 9) rfl rfl rfl (r_lenS (v := xb) rfl (Below.slT hB hl2) tb_el65) ?_
  refine WL_val (dd := some 10) rfl rfl rfl (r_neq rfl rfl) ?_
  refine WL_nil ?_
  refine hK6 _ _ ?_
  clear hK6 K5
  refine WC_cond (b := _) rfl (fun hc0 => ?_) (fun hc0 => ?_)
  ·
    try with_reducible replace hc0 := of_decide_eq_true hc0
    refine WC_seq (fun K7 hK8 => ?_)
    refine WC_region ?_
    refine WL_val (dd := some 4) rfl rfl rfl (r_assign (v := .bool false) rfl) ?_
    refine WL_nil ?_
    refine hK8 _ _ ?_
    clear hK8 K7
    refine WC_ret ?_
    repeat (first | refine thenQ_ret ?_ | refine blockQ_ret ?_)
    try clear hK4 K3
    refine ret_t (v := .bool false) rfl ?_
    refine ⟨hB, ?_⟩
    exact congrArg Value.bool (decide_eq_false (fun e => hc0 (by rw [e]))).symm
  ·
    try with_reducible replace hc0 := of_decide_eq_false hc0
    refine WC_skip ?_
    refine hK4 _ _ ?_
    clear hK4 K3
    refine WC_seq (fun K9 hK10 => ?_)
    refine WC_seq (fun K11 hK12 => ?_)
    have hlen : l.length = l2.length := by omega
    refine WC_region ?_
    refine WL_val (dd := some 5) rfl rfl rfl (r_assign (v := .int .i64 0) rfl) ?_
    refine WL_nil ?_
    refine hK12 _ _ ?_
    clear hK12 K11
    refine WC_block ?_
    refine WC_loop (σ := (Nat)) [4, 5, 11, 12, 13, 14, 15, 16, 17, 18, 19, 20, 21, 22, 23, 24, 25] (fun i => [(5, .int .i64 (i : Int))]) (fun i W => (Below w.heap.size w W) ∧ (i ≤ l.length) ∧ (∀ q, q < i → l.getD q ⟨⟨0, 0⟩, 0⟩ = l2.getD q ⟨⟨0, 0⟩, 0⟩) ∧ (True)) (fun i => l.length - i) (0) ⟨rfl, trivial⟩ ⟨hB, (Nat.zero_le _), upTo_zero, trivial⟩ ?_
    clear hB
    rintro i g14 W13 ⟨hB, hi, hq, _⟩ J15 hJ16
    refine WC_seq (fun K17 hK18 => ?_)
    refine WC_seq (fun K19 hK20 => ?_)
    refine WC_region ?_
    refine WL_val (dd := some 11) rfl rfl rfl (r_move (v := .int .i64 _) rfl) ?_
    refine WL_val (dd := some 12) rfl rfl rfl (r_move (v := xa) rfl) ?_
    refine WL_val (dd := some 13) rfl rfl rfl (r_lenS (v := xa) rfl (Below.slT hB hl) tb_el65) ?_
    refine WL_val (dd := some 14) rfl rfl rfl (r_lss rfl rfl) ?_
    refine WL_nil ?_
    refine hK20 _ _ ?_
    clear hK20 K19
    refine WC_cond (b := _) rfl (fun hc1 => ?_) (fun hc1 => ?_)
    ·
      try with_reducible replace hc1 := of_decide_eq_true hc1
      refine WC_skip ?_
      refine hK18 _ _ ?_
      clear hK18 K17
      refine WC_seq (fun K21 hK22 => ?_)
      refine WC_block ?_
      refine WC_seq (fun K23 hK24 => ?_)
      refine WC_draw Ext tb_mix (fun W25 hE26 => ?_)
      replace hB := below_ext hB hE26 (Nat.le_refl _)
      have hS := Ext.refl W25
      refine WT_take (dd := some 17) 0 rfl (by kernel_rfl) (by kernel_rfl) (by kernel_rfl) rfl rfl rfl (fun _wq _hq => r_move (v := xa) rfl) hS ?_
      refine WT_take (dd := some 18) 1 rfl (by kernel_rfl) (by kernel_rfl) (by kernel_rfl) rfl rfl rfl (fun _wq _hq => r_move (v := .int .i64 _) rfl) hS ?_
      refine WT_take (dd := some 19) 2 rfl (by kernel_rfl) (by kernel_rfl) (by kernel_rfl) rfl rfl rfl (fun _wq hq => r_idxS (v := xa) rfl (hq.slT (Below.slT hB hl)) rfl tb_el65 (by omega) (by first | omega | (simp only [flagsTo_len, litsTo_len, firstF_len, ptF_len, setF_len]; omega))) hS ?_
      refine WT_take (dd := some 20) 3 rfl (by kernel_rfl) (by kernel_rfl) (by kernel_rfl) rfl rfl rfl (fun _wq hq => r_load3 rfl tb_ag79 (SlT.cell (hq.slT (Below.slT hB hl)) encR_len ⟨⟨0, 0⟩, 0⟩ (by omega) (by first | omega | (simp only [flagsTo_len, litsTo_len, firstF_len, ptF_len, setF_len]; omega)) 0 rfl) (SlT.cell (hq.slT (Below.slT hB hl)) encR_len ⟨⟨0, 0⟩, 0⟩ (by omega) (by first | omega | (simp only [flagsTo_len, litsTo_len, firstF_len, ptF_len, setF_len]; omega)) 1 rfl) (SlT.cell (hq.slT (Below.slT hB hl)) encR_len ⟨⟨0, 0⟩, 0⟩ (by omega) (by first | omega | (simp only [flagsTo_len, litsTo_len, firstF_len, ptF_len, setF_len]; omega)) 2 rfl)) hS ?_
      refine WT_take (dd := some 21) 4 rfl (by kernel_rfl) (by kernel_rfl) (by kernel_rfl) rfl rfl rfl (fun _wq _hq => r_move (v := xb) rfl) hS ?_
      refine WT_take (dd := some 22) 5 rfl (by kernel_rfl) (by kernel_rfl) (by kernel_rfl) rfl rfl rfl (fun _wq _hq => r_move (v := .int .i64 _) rfl) hS ?_
      refine WT_take (dd := some 23) 6 rfl (by kernel_rfl) (by kernel_rfl) (by kernel_rfl) rfl rfl rfl (fun _wq hq => r_idxS (v := xb) rfl (hq.slT (Below.slT hB hl2)) rfl tb_el65 (by omega) (by first | omega | (simp only [flagsTo_len, litsTo_len, firstF_len, ptF_len, setF_len]; omega))) hS ?_
      refine WT_take (dd := some 24) 7 rfl (by kernel_rfl) (by kernel_rfl) (by kernel_rfl) rfl rfl rfl (fun _wq hq => r_load3 rfl tb_ag79 (SlT.cell (hq.slT (Below.slT hB hl2)) encR_len ⟨⟨0, 0⟩, 0⟩ (by omega) (by first | omega | (simp only [flagsTo_len, litsTo_len, firstF_len, ptF_len, setF_len]; omega)) 0 rfl) (SlT.cell (hq.slT (Below.slT hB hl2)) encR_len ⟨⟨0, 0⟩, 0⟩ (by omega) (by first | omega | (simp only [flagsTo_len, litsTo_len, firstF_len, ptF_len, setF_len]; omega)) 1 rfl) (SlT.cell (hq.slT (Below.slT hB hl2)) encR_len ⟨⟨0, 0⟩, 0⟩ (by omega) (by first | omega | (simp only [flagsTo_len, litsTo_len, firstF_len, ptF_len, setF_len]; omega)) 2 rfl)) hS ?_
      refine WT_take (dd := some 25) 8 rfl (by kernel_rfl) (by kernel_rfl) (by kernel_rfl) rfl rfl rfl (fun _wq _hq => tb_neq79 rfl rfl) hS ?_
      refine WT_done (by kernel_rfl) ?_
      refine hK24 _ _ ?_
      clear hK24 K23
      refine WC_cond (b := _) rfl (fun hc2 => ?_) (fun hc2 => ?_)
      ·
        try with_reducible replace hc2 := of_decide_eq_true hc2
        refine WC_seq (fun K27 hK28 => ?_)
        refine WC_region ?_
        refine WL_val (dd := some 4) rfl rfl rfl (r_assign (v := .bool false) rfl) ?_
        refine WL_nil ?_
        refine hK28 _ _ ?_
        clear hK28 K27
        refine WC_ret ?_
        repeat (first | refine thenQ_ret ?_ | refine blockQ_ret ?_)
        try clear hK22 K21
        try clear hJ16 J15
        try clear hK10 K9
        refine ret_t (v := .bool false) rfl ?_
        refine ⟨hB, ?_⟩
        exact congrArg Value.bool (decide_eq_false (fun e => hc2 (by rw [e]; exact ⟨rfl, rfl, rfl⟩))).symm
      ·
        try with_reducible replace hc2 := of_decide_eq_false hc2
        refine WC_skip ?_
        refine hK22 _ _ ?_
        clear hK22 K21
        refine WC_region ?_
        refine WL_val (dd := some 15) rfl rfl rfl (r_move (v := .int .i64 _) rfl) ?_
        refine WL_val (dd := some 16) rfl rfl rfl (r_addI rfl rfl (by omega) (by omega)) ?_
        refine WL_val (dd := some 5) rfl rfl rfl (r_assign (v := .int .i64 _) rfl) ?_
        refine WL_nil ?_
        refine hJ16 _ _ (i + 1) ?_ ?_ ?_ ?_
        · repeat (first | exact agree.mask _ _ _ | refine agree.updo ?_ rfl _ | refine agree.updL ?_ _ rfl | refine agree.maskS rfl ?_)
        · exact ⟨rfl, trivial⟩
        · exact ⟨hB, (by omega), (upTo_succ hq (rw_eq (x := l.getD i ⟨⟨0, 0⟩, 0⟩) (y := l2.getD i ⟨⟨0, 0⟩, 0⟩) hc2)), trivial⟩
        · first | omega | (dsimp only; omega)
    ·
      try with_reducible replace hc1 := of_decide_eq_false hc1
      refine WC_exit ?_
      refine hK10 _ _ ?_
      clear hK18 K17
      clear hJ16 J15
      clear hK10 K9
      refine WC_seq (fun K29 hK30 => ?_)
      refine WC_region ?_
      refine WL_val (dd := some 4) rfl rfl rfl (r_assign (v := .bool true) rfl) ?_
      refine WL_nil ?_
      refine hK30 _ _ ?_
      clear hK30 K29
      refine WC_ret ?_
      repeat (first | refine thenQ_ret ?_ | refine blockQ_ret ?_)
      refine ret_t (v := .bool true) rfl ?_
      refine ⟨hB, ?_⟩
      exact congrArg Value.bool (decide_eq_true (list_extR hlen (fun q h => hq q (by omega)))).symm

theorem C_drawkniferef10_Rows (S : Sp) (onV mayV : Value) (w : World) (hon : SlT encS 4 w onV S.on) (hmay : SlT encS 4 w mayV S.may) (hr : rightS S = true) :
    Fn Try.prog 119 #[.agg #[.int .i64 S.n, onV, mayV]] w fun v w' => OwT encR 3 79 w' w.heap.size v (rwS S) := by
  refine Fn_intro (n := 46) Try.func119 rfl rfl (Nat.le_of_ble_eq_true rfl) ?_
  have hB : Below w.heap.size w w := Below.refl _ _
  obtain ⟨h0, h8, h1, h4, h5, _⟩ := rightS_iff.1 hr
  have hp4 := pow4 h4
  have hp0 := Nat.two_pow_pos S.on.length
  have hp8 := two_pow_le h8
  refine WC_seq (fun K1 hK2 => ?_)
  refine WC_region ?_
  refine WL_step (dd := some 1) rfl rfl rfl (Y_box (c := #[_, _, _]) rfl rfl (fun b0_0 W3 hb4 hE5 hm0_0 => ?_))
  have lo_b0_0 : w.heap.size ≤ b0_0 := hb4 ▸ (Below.size hB)
  clear hb4
  replace hB := below_ext hB hE5 (Nat.le_refl _)
  clear hE5
  refine WL_val (dd := some 2) rfl rfl rfl (r_assign (v := .slice none 0 0) rfl) ?_
  refine WL_nil ?_
  refine hK2 _ _ ?_
  clear hK2 K1
  refine WC_seq (fun K6 hK7 => ?_)
  refine WC_region ?_
  refine WL_val (dd := some 3) rfl rfl rfl (r_assign (v := .slice none 0 0) rfl) ?_
  refine WL_nil ?_
  refine hK7 _ _ ?_
  clear hK7 K6
  refine WC_seq (fun K8 hK9 => ?_)
  refine WC_seq (fun K10 hK11 => ?_)
  refine WC_region ?_
  refine WL_val (dd := some 4) rfl rfl rfl (r_assign (v := .int .i64 1) rfl) ?_
  refine WL_nil ?_
  refine hK11 _ _ ?_
  clear hK11 K10
  refine WC_block ?_
  refine WC_loop (σ := (Nat) × (Value)) [3, 4, 5, 6, 7, 8, 9, 10, 11, 12, 13, 14, 15, 16, 17, 18, 19, 20, 21, 22, 23, 24, 25, 26, 27, 28, 29, 30, 31, 32, 33, 34, 35, 36, 37, 38, 39, 40, 41, 42, 43, 44] (fun (o, v0) => [(4, .int .i64 (o : Int)), (3, v0)]) (fun sg W => match sg with | (o, v0) => (Below w.heap.size w W) ∧ (At W b0_0 _ 64) ∧ (OwT encR 3 79 W w.heap.size v0 (rwO S o)) ∧ (1 ≤ o ∧ o ≤ 2 ^ S.on.length) ∧ (True)) (fun (o, v0) => 2 ^ S.on.length - o) ((1, .slice none 0 0)) ⟨rfl, rfl, trivial⟩ ⟨hB, hm0_0, (by rw [show rwO S 1 = [] from rfl]; exact OwT.nil), (by omega), trivial⟩ ?_
  clear hB hm0_0
  rintro ⟨o, v0⟩ g13 W12 ⟨hB, hm0_0, ho, hoo, _⟩ J14 hJ15
  refine WC_seq (fun K16 hK17 => ?_)
  refine WC_seq (fun K18 hK19 => ?_)
  refine WC_region ?_
  refine WL_val (dd := some 8) rfl rfl rfl (r_move (v := .int .i64 _) rfl) ?_
  refine WL_val (dd := some 9) rfl rfl rfl (r_fieldAddr (b := _) (o := _) rfl tb_fo64_1) ?_
  refine WL_val (dd := some 10) rfl rfl rfl (r_load1 (v := onV) rfl tb_sc62 (At.cell hm0_0 rfl)) ?_
  refine WL_val (dd := some 11) rfl rfl rfl (r_lenS (v := onV) rfl (Below.slT hB hon) tb_el62) ?_
  refine WL_call (dd := some 12) rfl rfl rfl (r_call1 tb_c140 (v0 := .int .i64 _) rfl) (C_drawkniferef10_power _ _ (by first | assumption | omega) (by first | assumption | omega)) (fun v3_4 W20 hE21 hP3_4 => ?_)
  have hsz22 := (Below.size hB)
  replace hB := below_ext hB hE21 (Nat.le_refl _)
  replace hm0_0 := hE21.at hm0_0
  replace ho := hE21.ow ho
  clear hE21
  clear hsz22
  obtain rfl := hP3_4
  simp only [Int.toNat_natCast]
  refine WL_val (dd := some 13) rfl rfl rfl (r_lss rfl rfl) ?_
  refine WL_nil ?_
  refine hK19 _ _ ?_
  clear hK19 K18
  refine WC_cond (b := _) rfl (fun hc0 => ?_) (fun hc0 => ?_)
  ·
    try with_reducible replace hc0 := of_decide_eq_true hc0
    refine WC_skip ?_
    refine hK17 _ _ ?_
    clear hK17 K16
    refine WC_seq (fun K23 hK24 => ?_)
    refine WC_block ?_
    refine WC_seq (fun K25 hK26 => ?_)
    refine WC_region ?_
    refine WL_val (dd := some 5) rfl rfl rfl (r_assign (v := .int .i64 0) rfl) ?_
    refine WL_nil ?_
    refine hK26 _ _ ?_
    clear hK26 K25
    refine WC_block ?_
    refine WC_loop (σ := (Nat) × (Value)) [3, 5, 6, 7, 16, 17, 18, 19, 20, 21, 22, 23, 24, 25, 26, 27, 28, 29, 30, 31, 32, 33, 34, 35, 36, 37, 38, 39, 40, 41, 42, 43, 44] (fun (m, v1) => [(5, .int .i64 (m : Int)), (3, v1)]) (fun sg W => match sg with | (m, v1) => (Below w.heap.size w W) ∧ (At W b0_0 _ 64) ∧ (OwT encR 3 79 W w.heap.size v1 (rwO S o ++ rwM S o m)) ∧ (m ≤ 2 ^ S.n.toNat) ∧ (True)) (fun (m, v1) => 2 ^ S.n.toNat - m) ((0, v0)) ⟨rfl, rfl, trivial⟩ ⟨hB, hm0_0, (by rw [rwM, List.append_nil]; exact ho), (Nat.zero_le _), trivial⟩ ?_
    clear hB hm0_0 ho
    rintro ⟨m, v1⟩ g28 W27 ⟨hB, hm0_0, ho2, hmm, _⟩ J29 hJ30
    refine WC_seq (fun K31 hK32 => ?_)
    refine WC_seq (fun K33 hK34 => ?_)
    refine WC_region ?_
    refine WL_val (dd := some 16) rfl rfl rfl (r_move (v := .int .i64 _) rfl) ?_
    refine WL_val (dd := some 17) rfl rfl rfl (r_fieldAddr (b := _) (o := _) rfl tb_fo64_0) ?_
    refine WL_val (dd := some 18) rfl rfl rfl (r_load1 (v := .int .i64 _) rfl tb_sc3 (At.cell hm0_0 rfl)) ?_
    refine WL_call (dd := some 19) rfl rfl rfl (r_call1 tb_c140 (v0 := .int .i64 _) rfl) (C_drawkniferef10_power _ _ (by first | assumption | omega) (by first | assumption | omega)) (fun v6_3 W35 hE36 hP6_3 => ?_)
    have hsz37 := (Below.size hB)
    replace hB := below_ext hB hE36 (Nat.le_refl _)
    replace hm0_0 := hE36.at hm0_0
    replace ho2 := hE36.ow ho2
    clear hE36
    clear hsz37
    obtain rfl := hP6_3
    refine WL_val (dd := some 20) rfl rfl rfl (r_lss rfl rfl) ?_
    refine WL_nil ?_
    refine hK34 _ _ ?_
    clear hK34 K33
    refine WC_cond (b := _) rfl (fun hc1 => ?_) (fun hc1 => ?_)
    ·
      try with_reducible replace hc1 := of_decide_eq_true hc1
      refine WC_skip ?_
      refine hK32 _ _ ?_
      clear hK32 K31
      refine WC_seq (fun K38 hK39 => ?_)
      refine WC_block ?_
      refine WC_seq (fun K40 hK41 => ?_)
      refine WC_region ?_
      refine WL_val (dd := some 6) rfl rfl rfl (r_assign (v := .int .i64 0) rfl) ?_
      refine WL_nil ?_
      refine hK41 _ _ ?_
      clear hK41 K40
      refine WC_block ?_
      refine WC_loop (σ := (Nat) × (Value)) [3, 6, 7, 23, 24, 25, 26, 27, 28, 29, 30, 31, 32, 33, 34, 35, 36, 37, 38, 39, 40, 41, 42, 43, 44] (fun (u, v2) => [(6, .int .i64 (u : Int)), (3, v2)]) (fun sg W => match sg with | (u, v2) => (Below w.heap.size w W) ∧ (At W b0_0 _ 64) ∧ (OwT encR 3 79 W w.heap.size v2 ((rwO S o ++ rwM S o m) ++ rwV S o m u)) ∧ (u ≤ 2 ^ S.n.toNat) ∧ (True)) (fun (u, v2) => 2 ^ S.n.toNat - u) ((0, v1)) ⟨rfl, rfl, trivial⟩ ⟨hB, hm0_0, (by rw [rwV, List.append_nil]; exact ho2), (Nat.zero_le _), trivial⟩ ?_
      clear hB hm0_0 ho2
      rintro ⟨u, v2⟩ g43 W42 ⟨hB, hm0_0, ho3, huu, _⟩ J44 hJ45
      refine WC_seq (fun K46 hK47 => ?_)
      refine WC_seq (fun K48 hK49 => ?_)
      refine WC_region ?_
      refine WL_val (dd := some 23) rfl rfl rfl (r_move (v := .int .i64 _) rfl) ?_
      refine WL_val (dd := some 24) rfl rfl rfl (r_fieldAddr (b := _) (o := _) rfl tb_fo64_0) ?_
      refine WL_val (dd := some 25) rfl rfl rfl (r_load1 (v := .int .i64 _) rfl tb_sc3 (At.cell hm0_0 rfl)) ?_
      refine WL_call (dd := some 26) rfl rfl rfl (r_call1 tb_c140 (v0 := .int .i64 _) rfl) (C_drawkniferef10_power _ _ (by first | assumption | omega) (by first | assumption | omega)) (fun v9_3 W50 hE51 hP9_3 => ?_)
      have hsz52 := (Below.size hB)
      replace hB := below_ext hB hE51 (Nat.le_refl _)
      replace hm0_0 := hE51.at hm0_0
      replace ho3 := hE51.ow ho3
      clear hE51
      clear hsz52
      obtain rfl := hP9_3
      refine WL_val (dd := some 27) rfl rfl rfl (r_lss rfl rfl) ?_
      refine WL_nil ?_
      refine hK49 _ _ ?_
      clear hK49 K48
      refine WC_cond (b := _) rfl (fun hc2 => ?_) (fun hc2 => ?_)
      ·
        try with_reducible replace hc2 := of_decide_eq_true hc2
        refine WC_skip ?_
        refine hK47 _ _ ?_
        clear hK47 K46
        refine WC_seq (fun K53 hK54 => ?_)
        refine WC_block ?_
        refine WC_seq (fun K55 hK56 => ?_)
        refine WC_region ?_
        refine WL_val (dd := some 30) rfl rfl rfl (r_move (v := .int .i64 _) rfl) ?_
        refine WL_val (dd := some 31) rfl rfl rfl (r_convN rfl Try.underlying3 Try.underlying5 (by simp only [topN]; omega)) ?_
        refine WL_val (dd := some 32) rfl rfl rfl (r_move (v := .int .i64 _) rfl) ?_
        refine WL_val (dd := some 33) rfl rfl rfl (r_convN rfl Try.underlying3 Try.underlying5 (by simp only [topN]; omega)) ?_
        refine WL_val (dd := some 34) rfl rfl rfl (tb_build34_0_1 (h0 := rfl) (k0 := rfl) (h1 := rfl) (k1 := rfl) (c0_0 := .int .u8 _) (c1_0 := .int .u8 _)) ?_
        refine WL_val (dd := some 35) rfl rfl rfl (r_move (v := .int .i64 _) rfl) ?_
        refine WL_val (dd := some 36) rfl rfl rfl (r_convN rfl Try.underlying3 Try.underlying5 (by simp only [topN]; omega)) ?_
        refine WL_val (dd := some 37) rfl rfl rfl (tb_build79_0_1 (h0 := rfl) (h1 := rfl) (k1 := rfl) (c1_0 := .int .u8 _)) ?_
        refine WL_step (dd := some 7) rfl rfl rfl (Y_alloc tb_z79 rfl (fun b11_8 W57 hb58 hE59 hm11_8 => ?_))
        have lo_b11_8 : w.heap.size ≤ b11_8 := hb58 ▸ (Below.size hB)
        have no_v2_b11_8 := OwT.neB (b := b11_8) ho3 (Nat.le_of_eq hb58.symm)
        clear hb58
        replace hB := below_ext hB hE59 (Nat.le_refl _)
        replace hm0_0 := hE59.at hm0_0
        replace ho3 := hE59.ow ho3
        clear hE59
        refine WL_step (dd := none) rfl rfl rfl (Y_storeW rfl rfl tb_ag79 rfl hm11_8 rfl (by rfl) (fun W60 hG61 hm62 => ?_))
        replace hB := below_grown hB hG61 (Nat.le_refl _) (fun j hj => by cases hj; exact lo_b11_8)
        replace hm0_0 := At.grownAt hm0_0 hm11_8 hG61 (by decide)
        replace ho3 := OwT.grownAtNe ho3 no_v2_b11_8 hG61
        clear hG61 hm11_8
        have hm11_8 := hm62
        clear hm62
        refine WL_nil ?_
        refine hK56 _ _ ?_
        clear hK56 K55
        refine WC_seq (fun K63 hK64 => ?_)
        refine WC_region ?_
        refine WL_val (dd := some 38) rfl rfl rfl (r_loadW rfl tb_ag64 rfl hm0_0) ?_
        refine WL_val (dd := some 39) rfl rfl rfl (r_loadW rfl tb_ag79 rfl hm11_8) ?_
        refine WL_call (dd := some 40) rfl rfl rfl (r_call2 tb_c65 (v0 := .agg #[_, _, _]) rfl (v1 := .agg #[_, _, _]) rfl) (C_drawkniferef10_Within S _ _ m u o _ (Below.slT hB hon) (Below.slT hB hmay) hr (by omega) (by omega) (by omega)) (fun v12_2 W65 hE66 hP12_2 => ?_)
        have hsz67 := (Below.size hB)
        replace hB := below_ext hB hE66 (Nat.le_refl _)
        replace hm0_0 := hE66.at hm0_0
        replace ho3 := hE66.ow ho3
        replace hm11_8 := hE66.at hm11_8
        clear hE66
        clear hsz67
        obtain rfl := hP12_2
        refine WL_nil ?_
        refine hK64 _ _ ?_
        clear hK64 K63
        refine WC_cond (b := _) rfl (fun hc3 => ?_) (fun hc3 => ?_)
        ·
          try with_reducible replace hc3 := of_decide_eq_true hc3
          have q1 := rwO_len h8 o
          have q2 := rwM_len S o m
          have q3 := rwV_len S o m u
          have q4 : m * 2 ^ S.n.toNat ≤ 256 * 256 := Nat.mul_le_mul (by omega) hp8
          refine WC_region ?_
          refine WL_val (dd := some 41) rfl rfl rfl (r_move (v := v2) rfl) ?_
          refine WL_val (dd := some 42) rfl rfl rfl (r_loadW rfl tb_ag79 rfl hm11_8) ?_
          refine WL_step (dd := some 43) rfl rfl rfl (Y_lit1 (u := .agg #[_, _, _]) rfl tb_el65 tb_zs79 rfl (by decide) (by decide) (fun b13_2 W68 hb69 hE70 hm13_2 => ?_))
          have lo_b13_2 : w.heap.size ≤ b13_2 := hb69 ▸ (Below.size hB)
          have no_v2_b13_2 := OwT.neB (b := b13_2) ho3 (Nat.le_of_eq hb69.symm)
          have ne_b11_8_b13_2 : b11_8 ≠ b13_2 := Nat.ne_of_lt (hb69 ▸ hm11_8.lt)
          clear hb69
          replace hB := below_ext hB hE70 (Nat.le_refl _)
          replace hm0_0 := hE70.at hm0_0
          replace ho3 := hE70.ow ho3
          replace hm11_8 := hE70.at hm11_8
          clear hE70
          refine WL_step (dd := some 44) rfl rfl rfl (Y_append (v := v2) (v2 := .slice (some ⟨b13_2, 0, none⟩) 1 1) rfl rfl tb_el65 tb_zs79 (by decide) ho3 (sl_lit1 hm13_2 rfl) rfl (by have := Below.size hB; omega) (by first | omega | (simp; omega) | (simp only [flagsTo_len, litsTo_len, firstF_len, ptF_len, setF_len]; omega)) (by first | omega | (simp; omega) | (simp only [flagsTo_len, litsTo_len, firstF_len, ptF_len, setF_len]; omega)) (fun v13_3 W71 hG72 ho13_3 => ?_))
          replace ho13_3 := OwT.snoc (enc := encR) (x := ⟨⟨m, u⟩, o⟩) rfl rfl rfl rfl ho13_3
          clear hm13_2
          replace hB := below_grown hB hG72 (Nat.le_refl _) (fun j hj => (OwT.lt ho3 j hj))
          replace hm0_0 := At.grownOw hm0_0 ho3 hG72 (by decide)
          replace hm11_8 := At.grownOwNe hm11_8 no_v2_b11_8 hG72
          clear hG72
          clear ho3
          refine WL_val (dd := some 3) rfl rfl rfl (r_assign (v := v13_3) rfl) ?_
          refine WL_nil ?_
          refine hK54 _ _ ?_
          clear hK54 K53
          refine WC_region ?_
          refine WL_val (dd := some 28) rfl rfl rfl (r_move (v := .int .i64 _) rfl) ?_
          refine WL_val (dd := some 29) rfl rfl rfl (r_addI rfl rfl (by omega) (by omega)) ?_
          refine WL_val (dd := some 6) rfl rfl rfl (r_assign (v := .int .i64 _) rfl) ?_
          refine WL_nil ?_
          refine hJ45 _ _ ((u + 1, v13_3)) ?_ ?_ ?_ ?_
          · repeat (first | exact agree.mask _ _ _ | refine agree.updo ?_ rfl _ | refine agree.updL ?_ _ rfl | refine agree.maskS rfl ?_)
          · exact ⟨rfl, rfl, trivial⟩
          · exact ⟨hB, hm0_0, (by first | (rw [← rwV_t hc3, ← List.append_assoc]; exact ho13_3) | (rw [← rwV_f hc3]; exact ho13_3)), (by omega), trivial⟩
          · show 2 ^ S.n.toNat - (u + 1) < 2 ^ S.n.toNat - u; omega
        ·
          try with_reducible replace hc3 := of_decide_eq_false hc3
          refine WC_skip ?_
          refine hK54 _ _ ?_
          clear hK54 K53
          refine WC_region ?_
          refine WL_val (dd := some 28) rfl rfl rfl (r_move (v := .int .i64 _) rfl) ?_
          refine WL_val (dd := some 29) rfl rfl rfl (r_addI rfl rfl (by omega) (by omega)) ?_
          refine WL_val (dd := some 6) rfl rfl rfl (r_assign (v := .int .i64 _) rfl) ?_
          refine WL_nil ?_
          refine hJ45 _ _ ((u + 1, v2)) ?_ ?_ ?_ ?_
          · repeat (first | exact agree.mask _ _ _ | refine agree.updo ?_ rfl _ | refine agree.updL ?_ _ rfl | refine agree.maskS rfl ?_)
          · exact ⟨rfl, rfl, trivial⟩
          · exact ⟨hB, hm0_0, (by first | (rw [← rwV_t hc3, ← List.append_assoc]; exact ho3) | (rw [← rwV_f hc3]; exact ho3)), (by omega), trivial⟩
          · show 2 ^ S.n.toNat - (u + 1) < 2 ^ S.n.toNat - u; omega
      ·
        try with_reducible replace hc2 := of_decide_eq_false hc2
        refine WC_exit ?_
        refine hK39 _ _ ?_
        clear hK47 K46
        clear hJ45 J44
        clear hK39 K38
        refine WC_region ?_
        refine WL_val (dd := some 21) rfl rfl rfl (r_move (v := .int .i64 _) rfl) ?_
        refine WL_val (dd := some 22) rfl rfl rfl (r_addI rfl rfl (by omega) (by omega)) ?_
        refine WL_val (dd := some 5) rfl rfl rfl (r_assign (v := .int .i64 _) rfl) ?_
        refine WL_nil ?_
        refine hJ30 _ _ ((m + 1, v2)) ?_ ?_ ?_ ?_
        · repeat (first | exact agree.mask _ _ _ | refine agree.updo ?_ rfl _ | refine agree.updL ?_ _ rfl | refine agree.maskS rfl ?_)
        · exact ⟨rfl, rfl, trivial⟩
        · exact ⟨hB, hm0_0, (by rw [rwM, ← List.append_assoc]; have e : u = 2 ^ S.n.toNat := (by omega); subst e; exact ho3), (by omega), trivial⟩
        · show 2 ^ S.n.toNat - (m + 1) < 2 ^ S.n.toNat - m; omega
    ·
      try with_reducible replace hc1 := of_decide_eq_false hc1
      refine WC_exit ?_
      refine hK24 _ _ ?_
      clear hK32 K31
      clear hJ30 J29
      clear hK24 K23
      refine WC_region ?_
      refine WL_val (dd := some 14) rfl rfl rfl (r_move (v := .int .i64 _) rfl) ?_
      refine WL_val (dd := some 15) rfl rfl rfl (r_addI rfl rfl (by omega) (by omega)) ?_
      refine WL_val (dd := some 4) rfl rfl rfl (r_assign (v := .int .i64 _) rfl) ?_
      refine WL_nil ?_
      refine hJ15 _ _ ((o + 1, v1)) ?_ ?_ ?_ ?_
      · repeat (first | exact agree.mask _ _ _ | refine agree.updo ?_ rfl _ | refine agree.updL ?_ _ rfl | refine agree.maskS rfl ?_)
      · exact ⟨rfl, rfl, trivial⟩
      · exact ⟨hB, hm0_0, (by rw [← rwO_succ (by omega)]; have e : m = 2 ^ S.n.toNat := (by omega); subst e; exact ho2), (by omega), trivial⟩
      · show 2 ^ S.on.length - (o + 1) < 2 ^ S.on.length - o; omega
  ·
    try with_reducible replace hc0 := of_decide_eq_false hc0
    refine WC_exit ?_
    refine hK9 _ _ ?_
    clear hK17 K16
    clear hJ15 J14
    clear hK9 K8
    refine WC_seq (fun K74 hK75 => ?_)
    refine WC_region ?_
    refine WL_val (dd := some 45) rfl rfl rfl (r_move (v := v0) rfl) ?_
    refine WL_val (dd := some 2) rfl rfl rfl (r_assign (v := v0) rfl) ?_
    refine WL_nil ?_
    refine hK75 _ _ ?_
    clear hK75 K74
    refine WC_ret ?_
    repeat (first | refine thenQ_ret ?_ | refine blockQ_ret ?_)
    refine ret_t (v := v0) rfl ?_
    refine ⟨hB, ?_⟩
    obtain rfl : o = 2 ^ S.on.length := by omega
    exact ho

theorem C_drawkniferef10_All (S : Sp) (onV mayV : Value) (w : World) (hon : SlT encS 4 w onV S.on) (hmay : SlT encS 4 w mayV S.may) (hr : rightS S = true) :
    Fn Try.prog 61 #[.agg #[.int .i64 S.n, onV, mayV]] w fun v w' => OwT encR 3 79 w' w.heap.size v (allR S) := by
  refine Fn_intro (n := 45) Try.func61 rfl rfl (Nat.le_of_ble_eq_true rfl) ?_
  have hB : Below w.heap.size w w := Below.refl _ _
  obtain ⟨h0, h8, h1, h4, h5, _⟩ := rightS_iff.1 hr
  have hp4 := pow4 h4
  have hrl : (rwS S).length ≤ 1048576 := (by have := rwO_len h8 (2 ^ S.on.length); show (rwO S (2 ^ S.on.length)).length ≤ _; omega)
  have hrb := rwS_b h8
  refine WC_seq (fun K1 hK2 => ?_)
  refine WC_region ?_
  refine WL_step (dd := some 1) rfl rfl rfl (Y_box (c := #[_, _, _]) rfl rfl (fun b0_0 W3 hb4 hE5 hm0_0 => ?_))
  have lo_b0_0 : w.heap.size ≤ b0_0 := hb4 ▸ (Below.size hB)
  clear hb4
  replace hB := below_ext hB hE5 (Nat.le_refl _)
  clear hE5
  refine WL_val (dd := some 2) rfl rfl rfl (r_assign (v := .slice none 0 0) rfl) ?_
  refine WL_nil ?_
  refine hK2 _ _ ?_
  clear hK2 K1
  refine WC_seq (fun K6 hK7 => ?_)
  refine WC_region ?_
  refine WL_val (dd := some 8) rfl rfl rfl (r_loadW rfl tb_ag64 rfl hm0_0) ?_
  refine WL_call (dd := some 9) rfl rfl rfl (r_call1 tb_c119 (v0 := .agg #[_, _, _]) rfl) (C_drawkniferef10_Rows S _ _  _ (Below.slT hB hon) (Below.slT hB hmay) hr) (fun v1_1 W8 hE9 hP1_1 => ?_)
  have hsz10 := (Below.size hB)
  replace hB := below_ext hB hE9 (Nat.le_refl _)
  replace hm0_0 := hE9.at hm0_0
  clear hE9
  replace hP1_1 := OwT.mono hP1_1 hsz10
  clear hsz10
  refine WL_val (dd := some 3) rfl rfl rfl (r_assign (v := v1_1) rfl) ?_
  refine WL_nil ?_
  refine hK7 _ _ ?_
  clear hK7 K6
  refine WC_seq (fun K11 hK12 => ?_)
  refine WC_region ?_
  refine WL_val (dd := some 4) rfl rfl rfl (r_assign (v := .slice none 0 0) rfl) ?_
  refine WL_nil ?_
  refine hK12 _ _ ?_
  clear hK12 K11
  refine WC_seq (fun K13 hK14 => ?_)
  refine WC_seq (fun K15 hK16 => ?_)
  refine WC_region ?_
  refine WL_val (dd := some 5) rfl rfl rfl (r_assign (v := .int .i64 0) rfl) ?_
  refine WL_nil ?_
  refine hK16 _ _ ?_
  clear hK16 K15
  refine WC_block ?_
  refine WC_loop (σ := (Nat) × (Value)) [4, 5, 6, 7, 10, 11, 12, 13, 14, 15, 16, 17, 18, 19, 20, 21, 22, 23, 24, 25, 26, 27, 28, 29, 30, 31, 32, 33, 34, 35, 36, 37, 38, 39, 40, 41, 42, 43] (fun (i, v0) => [(5, .int .i64 (i : Int)), (4, v0)]) (fun sg W => match sg with | (i, v0) => (Below w.heap.size w W) ∧ (At W b0_0 _ 64) ∧ (OwT encR 3 79 W w.heap.size v1_1 _) ∧ (OwT encR 3 79 W w.heap.size v0 (selTo (rwS S) i)) ∧ (Apart v0 v1_1) ∧ (i ≤ (rwS S).length) ∧ (True)) (fun (i, v0) => (rwS S).length - i) ((0, .slice none 0 0)) ⟨rfl, rfl, trivial⟩ ⟨hB, hm0_0, hP1_1, OwT.nil, Apart.nilL, (Nat.zero_le _), trivial⟩ ?_
  clear hB hm0_0 hP1_1
  rintro ⟨i, v0⟩ g18 W17 ⟨hB, hm0_0, hP1_1, ho, hap, hi, _⟩ J19 hJ20
  refine WC_seq (fun K21 hK22 => ?_)
  refine WC_seq (fun K23 hK24 => ?_)
  refine WC_region ?_
  refine WL_val (dd := some 10) rfl rfl rfl (r_move (v := .int .i64 _) rfl) ?_
  refine WL_val (dd := some 11) rfl rfl rfl (r_move (v := v1_1) rfl) ?_
  refine WL_val (dd := some 12) rfl rfl rfl (r_lenS (v := v1_1) rfl hP1_1.sl tb_el65) ?_
  refine WL_val (dd := some 13) rfl rfl rfl (r_lss rfl rfl) ?_
  refine WL_nil ?_
  refine hK24 _ _ ?_
  clear hK24 K23
  refine WC_cond (b := _) rfl (fun hc0 => ?_) (fun hc0 => ?_)
  ·
    try with_reducible replace hc0 := of_decide_eq_true hc0
    refine WC_skip ?_
    refine hK22 _ _ ?_
    clear hK22 K21
    refine WC_seq (fun K25 hK26 => ?_)
    refine WC_block ?_
    refine WC_seq (fun K27 hK28 => ?_)
    refine WC_region ?_
    refine WL_val (dd := some 6) rfl rfl rfl (r_assign (v := .bool true) rfl) ?_
    refine WL_nil ?_
    refine hK28 _ _ ?_
    clear hK28 K27
    refine WC_seq (fun K29 hK30 => ?_)
    refine WC_seq (fun K31 hK32 => ?_)
    refine WC_region ?_
    refine WL_val (dd := some 7) rfl rfl rfl (r_assign (v := .int .i64 0) rfl) ?_
    refine WL_nil ?_
    refine hK32 _ _ ?_
    clear hK32 K31
    refine WC_block ?_
    refine WC_loop (σ := (Nat)) [6, 7, 16, 17, 18, 19, 20, 21, 22, 23, 24, 25, 26, 27, 28, 29, 30, 31, 32, 33, 34, 35] (fun k => [(7, .int .i64 (k : Int)), (6, .bool (freeTo (rwS S) i k))]) (fun k W => (Below w.heap.size w W) ∧ (At W b0_0 _ 64) ∧ (OwT encR 3 79 W w.heap.size v1_1 _) ∧ (OwT encR 3 79 W w.heap.size v0 _) ∧ (Apart v0 v1_1) ∧ (k ≤ (rwS S).length) ∧ (True)) (fun k => (rwS S).length - k) (0) ⟨rfl, rfl, trivial⟩ ⟨hB, hm0_0, hP1_1, ho, hap, (Nat.zero_le _), trivial⟩ ?_
    clear hB hm0_0 hP1_1 ho hap
    rintro k g34 W33 ⟨hB, hm0_0, hP1_1, ho, hap, hk, _⟩ J35 hJ36
    refine WC_seq (fun K37 hK38 => ?_)
    refine WC_seq (fun K39 hK40 => ?_)
    refine WC_region ?_
    refine WL_val (dd := some 16) rfl rfl rfl (r_move (v := .int .i64 _) rfl) ?_
    refine WL_val (dd := some 17) rfl rfl rfl (r_move (v := v1_1) rfl) ?_
    refine WL_val (dd := some 18) rfl rfl rfl (r_lenS (v := v1_1) rfl hP1_1.sl tb_el65) ?_
    refine WL_val (dd := some 19) rfl rfl rfl (r_lss rfl rfl) ?_
    refine WL_nil ?_
    refine hK40 _ _ ?_
    clear hK40 K39
    refine WC_cond (b := _) rfl (fun hc1 => ?_) (fun hc1 => ?_)
    ·
      try with_reducible replace hc1 := of_decide_eq_true hc1
      refine WC_skip ?_
      refine hK38 _ _ ?_
      clear hK38 K37
      refine WC_seq (fun K41 hK42 => ?_)
      refine WC_block ?_
      refine WC_seq (fun K43 hK44 => ?_)
      have hbk := hrb.get (k := k) (by omega)
      have hbi := hrb.get (k := i) (by omega)
      refine WC_draw Ext tb_mix (fun W45 hE46 => ?_)
      replace hB := below_ext hB hE46 (Nat.le_refl _)
      replace hm0_0 := hE46.at hm0_0
      replace hP1_1 := hE46.ow hP1_1
      replace ho := hE46.ow ho
      have hS := Ext.refl W45
      refine WT_take (dd := some 22) 0 rfl (by kernel_rfl) (by kernel_rfl) (by kernel_rfl) rfl rfl rfl (fun _wq _hq => r_move (v := .int .i64 _) rfl) hS ?_
      refine WT_take (dd := some 23) 1 rfl (by kernel_rfl) (by kernel_rfl) (by kernel_rfl) rfl rfl rfl (fun _wq _hq => r_move (v := .int .i64 _) rfl) hS ?_
      refine WT_take (dd := some 24) 2 rfl (by kernel_rfl) (by kernel_rfl) (by kernel_rfl) rfl rfl rfl (fun _wq _hq => r_neq rfl rfl) hS ?_
      refine WT_split (dd := some 25) 3 rfl (by kernel_rfl) (by kernel_rfl) (by kernel_rfl) rfl rfl rfl (fun wq hq => r_move (v := .bool _) rfl) hS (fun hs10_3 => ?_) (fun hs10_3 => ?_)
      ·
        try with_reducible replace hs10_3 := of_decide_eq_true hs10_3
        refine WT_take (dd := some 26) 4 rfl (by kernel_rfl) (by kernel_rfl) (by kernel_rfl) rfl rfl rfl (fun _wq _hq => r_move (v := v1_1) rfl) hS ?_
        refine WT_take (dd := some 27) 5 rfl (by kernel_rfl) (by kernel_rfl) (by kernel_rfl) rfl rfl rfl (fun _wq _hq => r_move (v := .int .i64 _) rfl) hS ?_
        refine WT_take (dd := some 28) 6 rfl (by kernel_rfl) (by kernel_rfl) (by kernel_rfl) rfl rfl rfl (fun _wq hq => r_idxS (v := v1_1) rfl ((hq.ow hP1_1)).sl rfl tb_el65 (by omega) (by first | omega | (simp only [flagsTo_len, litsTo_len, firstF_len, ptF_len, setF_len]; omega))) hS ?_
        refine WT_take (dd := some 29) 7 rfl (by kernel_rfl) (by kernel_rfl) (by kernel_rfl) rfl rfl rfl (fun _wq hq => r_load3 rfl tb_ag79 (SlT.cell ((hq.ow hP1_1)).sl encR_len ⟨⟨0, 0⟩, 0⟩ (by omega) (by first | omega | (simp only [flagsTo_len, litsTo_len, firstF_len, ptF_len, setF_len]; omega)) 0 rfl) (SlT.cell ((hq.ow hP1_1)).sl encR_len ⟨⟨0, 0⟩, 0⟩ (by omega) (by first | omega | (simp only [flagsTo_len, litsTo_len, firstF_len, ptF_len, setF_len]; omega)) 1 rfl) (SlT.cell ((hq.ow hP1_1)).sl encR_len ⟨⟨0, 0⟩, 0⟩ (by omega) (by first | omega | (simp only [flagsTo_len, litsTo_len, firstF_len, ptF_len, setF_len]; omega)) 2 rfl)) hS ?_
        refine WT_take (dd := some 30) 8 rfl (by kernel_rfl) (by kernel_rfl) (by kernel_rfl) rfl rfl rfl (fun _wq _hq => r_move (v := v1_1) rfl) hS ?_
        refine WT_take (dd := some 31) 9 rfl (by kernel_rfl) (by kernel_rfl) (by kernel_rfl) rfl rfl rfl (fun _wq _hq => r_move (v := .int .i64 _) rfl) hS ?_
        refine WT_take (dd := some 32) 10 rfl (by kernel_rfl) (by kernel_rfl) (by kernel_rfl) rfl rfl rfl (fun _wq hq => r_idxS (v := v1_1) rfl ((hq.ow hP1_1)).sl rfl tb_el65 (by omega) (by first | omega | (simp only [flagsTo_len, litsTo_len, firstF_len, ptF_len, setF_len]; omega))) hS ?_
        refine WT_take (dd := some 33) 11 rfl (by kernel_rfl) (by kernel_rfl) (by kernel_rfl) rfl rfl rfl (fun _wq hq => r_load3 rfl tb_ag79 (SlT.cell ((hq.ow hP1_1)).sl encR_len ⟨⟨0, 0⟩, 0⟩ (by omega) (by first | omega | (simp only [flagsTo_len, litsTo_len, firstF_len, ptF_len, setF_len]; omega)) 0 rfl) (SlT.cell ((hq.ow hP1_1)).sl encR_len ⟨⟨0, 0⟩, 0⟩ (by omega) (by first | omega | (simp only [flagsTo_len, litsTo_len, firstF_len, ptF_len, setF_len]; omega)) 1 rfl) (SlT.cell ((hq.ow hP1_1)).sl encR_len ⟨⟨0, 0⟩, 0⟩ (by omega) (by first | omega | (simp only [flagsTo_len, litsTo_len, firstF_len, ptF_len, setF_len]; omega)) 2 rfl)) hS ?_
        refine WT_one (dd := some 34) 12 (by kernel_rfl) rfl rfl rfl rfl (Yd.call (r_call2 tb_c64 (v0 := .agg #[_, _, _]) rfl (v1 := .agg #[_, _, _]) rfl) (C_drawkniferef10_Holds ((rwS S).getD k ⟨⟨0, 0⟩, 0⟩) ((rwS S).getD i ⟨⟨0, 0⟩, 0⟩) _ hbk hbi) (fun v10_12 W47 hE48 hP10_12 => ⟨.inl (hS.trans hE48), ?_⟩))
        have hsz49 := (Below.size hB)
        have sv50_hB := hB
        have sv50_hm0_0 := hm0_0
        have sv50_hP1_1 := hP1_1
        have sv50_ho := ho
        replace hB := below_ext hB hE48 (Nat.le_refl _)
        replace hm0_0 := hE48.at hm0_0
        replace hP1_1 := hE48.ow hP1_1
        replace ho := hE48.ow ho
        replace hS := hS.trans hE48
        clear hE48
        clear hsz49
        obtain rfl := hP10_12
        refine WT_take (dd := some 35) 13 rfl (by kernel_rfl) (by kernel_rfl) (by kernel_rfl) rfl rfl rfl (fun _wq _hq => r_pick_t rfl (v := .bool _) rfl) hS ?_
        refine WT_done (by kernel_rfl) ?_
        try clear sv50_hB sv50_hm0_0 sv50_hP1_1 sv50_ho
        refine hK44 _ _ ?_
        clear hK44 K43
        refine WC_cond (b := _) rfl (fun hc2 => ?_) (fun hc2 => ?_)
        ·
          try with_reducible replace hc2 := of_decide_eq_true hc2
          refine WC_region ?_
          refine WL_val (dd := some 6) rfl rfl rfl (r_assign (v := .bool false) rfl) ?_
          refine WL_nil ?_
          refine hK42 _ _ ?_
          clear hK42 K41
          refine WC_region ?_
          refine WL_val (dd := some 20) rfl rfl rfl (r_move (v := .int .i64 _) rfl) ?_
          refine WL_val (dd := some 21) rfl rfl rfl (r_addI rfl rfl (by omega) (by omega)) ?_
          refine WL_val (dd := some 7) rfl rfl rfl (r_assign (v := .int .i64 _) rfl) ?_
          refine WL_nil ?_
          refine hJ36 _ _ (k + 1) ?_ ?_ ?_ ?_
          · repeat (first | exact agree.mask _ _ _ | refine agree.updo ?_ rfl _ | refine agree.updL ?_ _ rfl | refine agree.maskS rfl ?_)
          · exact ⟨rfl, (by first | exact congrArg Value.bool (free_f (fun e => hs10_3 (congrArg Int.ofNat e)) hc2) | exact congrArg Value.bool (free_t (.inr hc2)) | exact congrArg Value.bool (free_t (.inl (int_eq (Decidable.not_not.1 hs10_3))))), trivial⟩
          · exact ⟨hB, hm0_0, hP1_1, ho, hap, (by omega), trivial⟩
          · first | omega | (dsimp only; omega)
        ·
          try with_reducible replace hc2 := of_decide_eq_false hc2
          refine WC_skip ?_
          refine hK42 _ _ ?_
          clear hK42 K41
          refine WC_region ?_
          refine WL_val (dd := some 20) rfl rfl rfl (r_move (v := .int .i64 _) rfl) ?_
          refine WL_val (dd := some 21) rfl rfl rfl (r_addI rfl rfl (by omega) (by omega)) ?_
          refine WL_val (dd := some 7) rfl rfl rfl (r_assign (v := .int .i64 _) rfl) ?_
          refine WL_nil ?_
          refine hJ36 _ _ (k + 1) ?_ ?_ ?_ ?_
          · repeat (first | exact agree.mask _ _ _ | refine agree.updo ?_ rfl _ | refine agree.updL ?_ _ rfl | refine agree.maskS rfl ?_)
          · exact ⟨rfl, (by first | exact congrArg Value.bool (free_f (fun e => hs10_3 (congrArg Int.ofNat e)) hc2) | exact congrArg Value.bool (free_t (.inr hc2)) | exact congrArg Value.bool (free_t (.inl (int_eq (Decidable.not_not.1 hs10_3))))), trivial⟩
          · exact ⟨hB, hm0_0, hP1_1, ho, hap, (by omega), trivial⟩
          · first | omega | (dsimp only; omega)
      ·
        try with_reducible replace hs10_3 := of_decide_eq_false hs10_3
        refine WT_pass (dd := some 26) 4 rfl (by kernel_rfl) (by kernel_rfl) (by kernel_rfl) rfl rfl rfl hS ?_
        refine WT_pass (dd := some 27) 5 rfl (by kernel_rfl) (by kernel_rfl) (by kernel_rfl) rfl rfl rfl hS ?_
        refine WT_pass (dd := some 28) 6 rfl (by kernel_rfl) (by kernel_rfl) (by kernel_rfl) rfl rfl rfl hS ?_
        refine WT_pass (dd := some 29) 7 rfl (by kernel_rfl) (by kernel_rfl) (by kernel_rfl) rfl rfl rfl hS ?_
        refine WT_pass (dd := some 30) 8 rfl (by kernel_rfl) (by kernel_rfl) (by kernel_rfl) rfl rfl rfl hS ?_
        refine WT_pass (dd := some 31) 9 rfl (by kernel_rfl) (by kernel_rfl) (by kernel_rfl) rfl rfl rfl hS ?_
        refine WT_pass (dd := some 32) 10 rfl (by kernel_rfl) (by kernel_rfl) (by kernel_rfl) rfl rfl rfl hS ?_
        refine WT_pass (dd := some 33) 11 rfl (by kernel_rfl) (by kernel_rfl) (by kernel_rfl) rfl rfl rfl hS ?_
        refine WT_pass (dd := some 34) 12 rfl (by kernel_rfl) (by kernel_rfl) (by kernel_rfl) rfl rfl rfl hS ?_
        refine WT_take (dd := some 35) 13 rfl (by kernel_rfl) (by kernel_rfl) (by kernel_rfl) rfl rfl rfl (fun _wq _hq => r_pick_f rfl (v := .bool false) rfl) hS ?_
        refine WT_done (by kernel_rfl) ?_
        refine hK44 _ _ ?_
        clear hK44 K43
        refine WC_cond_false rfl ?_
        refine WC_skip ?_
        refine hK42 _ _ ?_
        clear hK42 K41
        refine WC_region ?_
        refine WL_val (dd := some 20) rfl rfl rfl (r_move (v := .int .i64 _) rfl) ?_
        refine WL_val (dd := some 21) rfl rfl rfl (r_addI rfl rfl (by omega) (by omega)) ?_
        refine WL_val (dd := some 7) rfl rfl rfl (r_assign (v := .int .i64 _) rfl) ?_
        refine WL_nil ?_
        refine hJ36 _ _ (k + 1) ?_ ?_ ?_ ?_
        · repeat (first | exact agree.mask _ _ _ | refine agree.updo ?_ rfl _ | refine agree.updL ?_ _ rfl | refine agree.maskS rfl ?_)
        · exact ⟨rfl, (by first | exact congrArg Value.bool (free_f (fun e => hs10_3 (congrArg Int.ofNat e)) hc2) | exact congrArg Value.bool (free_t (.inr hc2)) | exact congrArg Value.bool (free_t (.inl (int_eq (Decidable.not_not.1 hs10_3))))), trivial⟩
        · exact ⟨hB, hm0_0, hP1_1, ho, hap, (by omega), trivial⟩
        · first | omega | (dsimp only; omega)
    ·
      try with_reducible replace hc1 := of_decide_eq_false hc1
      refine WC_exit ?_
      refine hK30 _ _ ?_
      clear hK38 K37
      clear hJ36 J35
      clear hK30 K29
      refine WC_seq (fun K51 hK52 => ?_)
      obtain rfl : k = (rwS S).length := by omega
      refine WC_region ?_
      refine WL_val (dd := some 36) rfl rfl rfl (r_move (v := .bool _) rfl) ?_
      refine WL_nil ?_
      refine hK52 _ _ ?_
      clear hK52 K51
      refine WC_cond (b := _) rfl (fun hc3 => ?_) (fun hc3 => ?_)
      ·
        try with_reducible replace hc3 := of_decide_eq_true hc3
        have q1 := selTo_len (rwS S) i
        refine WC_region ?_
        refine WL_val (dd := some 37) rfl rfl rfl (r_move (v := v0) rfl) ?_
        refine WL_val (dd := some 38) rfl rfl rfl (r_move (v := v1_1) rfl) ?_
        refine WL_val (dd := some 39) rfl rfl rfl (r_move (v := .int .i64 _) rfl) ?_
        refine WL_val (dd := some 40) rfl rfl rfl (r_idxS (v := v1_1) rfl hP1_1.sl rfl tb_el65 (by omega) (by first | omega | (simp only [flagsTo_len, litsTo_len, firstF_len, ptF_len, setF_len]; omega))) ?_
        refine WL_val (dd := some 41) rfl rfl rfl (r_load3 rfl tb_ag79 (SlT.cell hP1_1.sl encR_len ⟨⟨0, 0⟩, 0⟩ (by omega) (by first | omega | (simp only [flagsTo_len, litsTo_len, firstF_len, ptF_len, setF_len]; omega)) 0 rfl) (SlT.cell hP1_1.sl encR_len ⟨⟨0, 0⟩, 0⟩ (by omega) (by first | omega | (simp only [flagsTo_len, litsTo_len, firstF_len, ptF_len, setF_len]; omega)) 1 rfl) (SlT.cell hP1_1.sl encR_len ⟨⟨0, 0⟩, 0⟩ (by omega) (by first | omega | (simp only [flagsTo_len, litsTo_len, firstF_len, ptF_len, setF_len]; omega)) 2 rfl)) ?_
        refine WL_step (dd := some 42) rfl rfl rfl (Y_lit1 (u := .agg #[_, _, _]) rfl tb_el65 tb_zs79 rfl (by decide) (by decide) (fun b13_5 W53 hb54 hE55 hm13_5 => ?_))
        have lo_b13_5 : w.heap.size ≤ b13_5 := hb54 ▸ (Below.size hB)
        have no_v1_1_b13_5 := OwT.neB (b := b13_5) hP1_1 (Nat.le_of_eq hb54.symm)
        have no_v0_b13_5 := OwT.neB (b := b13_5) ho (Nat.le_of_eq hb54.symm)
        clear hb54
        replace hB := below_ext hB hE55 (Nat.le_refl _)
        replace hm0_0 := hE55.at hm0_0
        replace hP1_1 := hE55.ow hP1_1
        replace ho := hE55.ow ho
        clear hE55
        refine WL_step (dd := some 43) rfl rfl rfl (Y_appendA (v := v0) (v2 := .slice (some ⟨b13_5, 0, none⟩) 1 1) rfl rfl tb_el65 tb_zs79 (by decide) ho (sl_lit1 hm13_5 rfl) rfl (by have := Below.size hB; omega) (by first | omega | (simp; omega) | (simp only [flagsTo_len, litsTo_len, firstF_len, ptF_len, setF_len]; omega)) (by first | omega | (simp; omega) | (simp only [flagsTo_len, litsTo_len, firstF_len, ptF_len, setF_len]; omega)) (fun v13_6 W56 hG57 ho13_6 hob58 => ?_))
        have hap59 := Apart.app hap hob58 hP1_1
        replace ho13_6 := OwT.snoc (enc := encR) (x := ⟨⟨_, _⟩, _⟩) rfl rfl rfl rfl ho13_6
        clear hm13_5
        replace hB := below_grown hB hG57 (Nat.le_refl _) (fun j hj => (OwT.lt ho j hj))
        replace hm0_0 := At.grownOw hm0_0 ho hG57 (by decide)
        replace hP1_1 := OwT.grownAp hP1_1 hap hG57
        clear hG57
        clear ho
        refine WL_val (dd := some 4) rfl rfl rfl (r_assign (v := v13_6) rfl) ?_
        refine WL_nil ?_
        refine hK26 _ _ ?_
        clear hK26 K25
        refine WC_region ?_
        refine WL_val (dd := some 14) rfl rfl rfl (r_move (v := .int .i64 _) rfl) ?_
        refine WL_val (dd := some 15) rfl rfl rfl (r_addI rfl rfl (by omega) (by omega)) ?_
        refine WL_val (dd := some 5) rfl rfl rfl (r_assign (v := .int .i64 _) rfl) ?_
        refine WL_nil ?_
        refine hJ20 _ _ ((i + 1, v13_6)) ?_ ?_ ?_ ?_
        · repeat (first | exact agree.mask _ _ _ | refine agree.updo ?_ rfl _ | refine agree.updL ?_ _ rfl | refine agree.maskS rfl ?_)
        · exact ⟨rfl, rfl, trivial⟩
        · exact ⟨hB, hm0_0, hP1_1, (by first | (rw [← sel_t hc3]; exact ho13_6) | (rw [← sel_f hc3]; exact ho13_6)), hap59, (by omega), trivial⟩
        · show (rwS S).length - (i + 1) < (rwS S).length - i; omega
      ·
        try with_reducible replace hc3 := of_decide_eq_false hc3
        refine WC_skip ?_
        refine hK26 _ _ ?_
        clear hK26 K25
        refine WC_region ?_
        refine WL_val (dd := some 14) rfl rfl rfl (r_move (v := .int .i64 _) rfl) ?_
        refine WL_val (dd := some 15) rfl rfl rfl (r_addI rfl rfl (by omega) (by omega)) ?_
        refine WL_val (dd := some 5) rfl rfl rfl (r_assign (v := .int .i64 _) rfl) ?_
        refine WL_nil ?_
        refine hJ20 _ _ ((i + 1, v0)) ?_ ?_ ?_ ?_
        · repeat (first | exact agree.mask _ _ _ | refine agree.updo ?_ rfl _ | refine agree.updL ?_ _ rfl | refine agree.maskS rfl ?_)
        · exact ⟨rfl, rfl, trivial⟩
        · exact ⟨hB, hm0_0, hP1_1, (by first | (rw [← sel_t hc3]; exact ho) | (rw [← sel_f hc3]; exact ho)), hap, (by omega), trivial⟩
        · show (rwS S).length - (i + 1) < (rwS S).length - i; omega
  ·
    try with_reducible replace hc0 := of_decide_eq_false hc0
    refine WC_exit ?_
    refine hK14 _ _ ?_
    clear hK22 K21
    clear hJ20 J19
    clear hK14 K13
    refine WC_seq (fun K60 hK61 => ?_)
    refine WC_region ?_
    refine WL_val (dd := some 44) rfl rfl rfl (r_move (v := v0) rfl) ?_
    refine WL_val (dd := some 2) rfl rfl rfl (r_assign (v := v0) rfl) ?_
    refine WL_nil ?_
    refine hK61 _ _ ?_
    clear hK61 K60
    refine WC_ret ?_
    repeat (first | refine thenQ_ret ?_ | refine blockQ_ret ?_)
    refine ret_t (v := v0) rfl ?_
    refine ⟨hB, ?_⟩
    obtain rfl : i = (rwS S).length := by omega
    rw [← sel_all hr]
    exact ho

theorem C_drawkniferef10_Grow (S : Sp) (onV mayV : Value) (x : Rw) (w : World) (hon : SlT encS 4 w onV S.on) (hmay : SlT encS 4 w mayV S.may) (hi : inR S x = true) (hbx : x.c.m < 256 ∧ x.c.v < 256 ∧ x.o < 256) :
    Fn Try.prog 70 #[.agg #[.int .i64 S.n, onV, mayV], .agg #[.int .u8 (x.c.m : Int), .int .u8 (x.c.v : Int), .int .u8 (x.o : Int)]] w fun v w' => v = .agg #[.int .u8 ((growR S x).c.m : Int), .int .u8 ((growR S x).c.v : Int), .int .u8 ((growR S x).o : Int)] := by
  refine Fn_intro (n := 62) Try.func70 rfl rfl (Nat.le_of_ble_eq_true rfl) ?_
  have hB : Below w.heap.size w w := Below.refl _ _
  obtain ⟨h0, h8, h1, h4, h5, _⟩ := rightS_iff.1 (inR_iff.1 hi).1
  refine WC_seq (fun K1 hK2 => ?_)
  refine WC_region ?_
  refine WL_step (dd := some 2) rfl rfl rfl (Y_box (c := #[_, _, _]) rfl rfl (fun b0_0 W3 hb4 hE5 hm0_0 => ?_))
  have lo_b0_0 : w.heap.size ≤ b0_0 := hb4 ▸ (Below.size hB)
  clear hb4
  replace hB := below_ext hB hE5 (Nat.le_refl _)
  clear hE5
  refine WL_step (dd := some 3) rfl rfl rfl (Y_box (c := #[_, _, _]) rfl rfl (fun b0_1 W6 hb7 hE8 hm0_1 => ?_))
  have lo_b0_1 : w.heap.size ≤ b0_1 := hb7 ▸ (Below.size hB)
  clear hb7
  replace hB := below_ext hB hE8 (Nat.le_refl _)
  replace hm0_0 := hE8.at hm0_0
  clear hE8
  refine WL_step (dd := some 4) rfl rfl rfl (Y_alloc tb_z79 rfl (fun b0_2 W9 hb10 hE11 hm0_2 => ?_))
  have lo_b0_2 : w.heap.size ≤ b0_2 := hb10 ▸ (Below.size hB)
  have ne_b0_1_b0_2 : b0_1 ≠ b0_2 := Nat.ne_of_lt (hb10 ▸ hm0_1.lt)
  clear hb10
  replace hB := below_ext hB hE11 (Nat.le_refl _)
  replace hm0_0 := hE11.at hm0_0
  replace hm0_1 := hE11.at hm0_1
  clear hE11
  refine WL_nil ?_
  refine hK2 _ _ ?_
  clear hK2 K1
  refine WC_seq (fun K12 hK13 => ?_)
  refine WC_seq (fun K14 hK15 => ?_)
  refine WC_region ?_
  refine WL_val (dd := some 5) rfl rfl rfl (r_assign (v := .int .i64 0) rfl) ?_
  refine WL_nil ?_
  refine hK15 _ _ ?_
  clear hK15 K14
  refine WC_block ?_
  refine WC_loop (σ := (Nat)) [5, 6, 7, 10, 11, 12, 13, 14, 15, 16, 17, 18, 19, 20, 21, 22, 23, 24, 25, 26, 27, 28, 29, 30] (fun i => [(5, .int .i64 (i : Int))]) (fun i W => (Below w.heap.size w W) ∧ (At W b0_0 _ 64) ∧ (At W b0_2 _ 79) ∧ (At W b0_1 #[.int .u8 ((growRTo S x i).m : Int), .int .u8 ((growRTo S x i).v : Int), .int .u8 (x.o : Int)] 79) ∧ ((i : Int) ≤ S.n) ∧ (True)) (fun i => S.n.toNat - i) (0) ⟨rfl, trivial⟩ ⟨hB, hm0_0, hm0_2, hm0_1, (by omega), trivial⟩ ?_
  clear hB hm0_0 hm0_1 hm0_2
  rintro i g17 W16 ⟨hB, hm0_0, hm0_2, hm0_1, hi2, _⟩ J18 hJ19
  refine WC_seq (fun K20 hK21 => ?_)
  refine WC_seq (fun K22 hK23 => ?_)
  refine WC_region ?_
  refine WL_val (dd := some 10) rfl rfl rfl (r_move (v := .int .i64 _) rfl) ?_
  refine WL_val (dd := some 11) rfl rfl rfl (r_fieldAddr (b := _) (o := _) rfl tb_fo64_0) ?_
  refine WL_val (dd := some 12) rfl rfl rfl (r_load1 (v := .int .i64 _) rfl tb_sc3 (At.cell hm0_0 rfl)) ?_
  refine WL_val (dd := some 13) rfl rfl rfl (r_lss rfl rfl) ?_
  refine WL_nil ?_
  refine hK23 _ _ ?_
  clear hK23 K22
  refine WC_cond (b := _) rfl (fun hc0 => ?_) (fun hc0 => ?_)
  ·
    try with_reducible replace hc0 := of_decide_eq_true hc0
    refine WC_skip ?_
    refine hK21 _ _ ?_
    clear hK21 K20
    refine WC_seq (fun K24 hK25 => ?_)
    refine WC_block ?_
    refine WC_seq (fun K26 hK27 => ?_)
    have hg := growR_lt (S := S) (x := x) ⟨hbx.1, hbx.2.1⟩ i
    have hw := wo_cube (c := growRTo S x i) (i := i) (by omega) hg.1 hg.2
    have hwl := wo_lits (c := growRTo S x i) (i := i) (by omega)
    have hle := woM_le (growRTo S x i).m (i : Int)
    have hle2 : (growRTo S x i).v &&& woM (growRTo S x i).m (i : Int) ≤ (growRTo S x i).v := Nat.and_le_left
    refine WC_region ?_
    refine WL_val (dd := some 16) rfl rfl rfl (r_fieldAddr (b := _) (o := _) rfl tb_fo79_0) ?_
    refine WL_val (dd := some 17) rfl rfl rfl (r_load2 rfl tb_ag34 (At.cell hm0_1 rfl) (At.cell hm0_1 rfl)) ?_
    refine WL_call (dd := some 18) rfl rfl rfl (r_call1 tb_c86 (v0 := .agg #[_, _]) rfl) (C_drawkniferef02_Literals _ _ _ hg.1 hg.2) (fun v4_2 W28 hE29 hP4_2 => ?_)
    have hsz30 := (Below.size hB)
    replace hB := below_ext hB hE29 (Nat.le_refl _)
    replace hm0_0 := hE29.at hm0_0
    replace hm0_2 := hE29.at hm0_2
    replace hm0_1 := hE29.at hm0_1
    clear hE29
    replace hP4_2 := OwT.mono hP4_2 hsz30
    clear hsz30
    refine WL_val (dd := some 6) rfl rfl rfl (r_assign (v := v4_2) rfl) ?_
    refine WL_nil ?_
    refine hK27 _ _ ?_
    clear hK27 K26
    refine WC_seq (fun K31 hK32 => ?_)
    refine WC_region ?_
    refine WL_val (dd := some 19) rfl rfl rfl (r_move (v := v4_2) rfl) ?_
    refine WL_val (dd := some 20) rfl rfl rfl (r_move (v := .int .i64 _) rfl) ?_
    refine WL_val (dd := some 21) rfl rfl rfl (r_idxS (v := v4_2) rfl hP4_2.sl rfl tb_el57 (by omega) (by first | omega | (simp only [flagsTo_len, litsTo_len, firstF_len, ptF_len, setF_len]; omega))) ?_
    refine WL_step (dd := none) rfl rfl rfl (Y_storeE (v := v4_2) (u := .int .i64 2) (a := 2) (j := _) rfl rfl (.inl ⟨tb_sc3, rfl⟩) encI_len rfl rfl hP4_2 (by omega) (by first | omega | (simp only [flagsTo_len, litsTo_len, firstF_len, ptF_len, setF_len]; omega)) (fun W33 hG34 hm35 => ?_))
    replace hB := below_grown hB hG34 (Nat.le_refl _) (fun j hj => (OwT.lt hP4_2 j hj))
    replace hm0_0 := At.grownOw hm0_0 hP4_2 hG34 (by decide)
    replace hm0_2 := At.grownOw hm0_2 hP4_2 hG34 (by decide)
    replace hm0_1 := At.grownOw hm0_1 hP4_2 hG34 (by decide)
    clear hG34 hP4_2
    have hP4_2 := hm35
    clear hm35
    refine WL_nil ?_
    refine hK32 _ _ ?_
    clear hK32 K31
    refine WC_seq (fun K36 hK37 => ?_)
    refine WC_draw Ext tb_mix (fun W38 hE39 => ?_)
    replace hB := below_ext hB hE39 (Nat.le_refl _)
    replace hm0_0 := hE39.at hm0_0
    replace hm0_2 := hE39.at hm0_2
    replace hm0_1 := hE39.at hm0_1
    replace hP4_2 := hE39.ow hP4_2
    have hS := Ext.refl W38
    refine WT_take (dd := some 22) 0 rfl (by kernel_rfl) (by kernel_rfl) (by kernel_rfl) rfl rfl rfl (fun _wq _hq => r_move (v := v4_2) rfl) hS ?_
    refine WT_take (dd := some 24) 2 rfl (by kernel_rfl) (by kernel_rfl) (by kernel_rfl) rfl rfl rfl (fun _wq _hq => r_fieldAddr (b := _) (o := _) rfl tb_fo79_1) hS ?_
    refine WT_take (dd := some 25) 3 rfl (by kernel_rfl) (by kernel_rfl) (by kernel_rfl) rfl rfl rfl (fun _wq hq => r_load1 (v := .int .u8 _) rfl tb_sc5 (At.cell (hq.at hm0_1) rfl)) hS ?_
    refine WT_two 1 5 (by kernel_rfl) rfl rfl rfl rfl rfl rfl rfl rfl (Yd.call (r_call1 tb_c127 (v0 := v4_2) rfl) (C_drawkniferef02_Cube _ _ _ hP4_2.sl hwl) (fun v6_1 W40 hE41 hP6_1 => ⟨.inl (hS.trans hE41), ?_⟩)) (Y_alloc tb_z79 rfl (fun b6_5 W44 hb45 hE46 hm6_5 => ⟨.inl (hS.trans hE46), ?_⟩))
    ·
      have hsz42 := (Below.size hB)
      have sv43_hB := hB
      have sv43_hm0_0 := hm0_0
      have sv43_hm0_2 := hm0_2
      have sv43_hm0_1 := hm0_1
      have sv43_hP4_2 := hP4_2
      replace hB := below_ext hB hE41 (Nat.le_refl _)
      replace hm0_0 := hE41.at hm0_0
      replace hm0_2 := hE41.at hm0_2
      replace hm0_1 := hE41.at hm0_1
      replace hP4_2 := hE41.ow hP4_2
      replace hS := hS.trans hE41
      clear hE41
      rw [hw.1, hw.2] at hP6_1
      obtain rfl := hP6_1
      clear hsz42
      refine WT_take (dd := some 26) 4 rfl (by kernel_rfl) (by kernel_rfl) (by kernel_rfl) rfl rfl rfl (fun _wq _hq => tb_build79_0_1 (h0 := rfl) (h1 := rfl) (k1 := rfl) (c1_0 := .int .u8 _)) hS ?_
      refine WT_one (dd := some 7) 5 (by kernel_rfl) rfl rfl rfl rfl (Y_alloc tb_z79 rfl (fun b6_5 W48 hb49 hE50 hm6_5 => ⟨.inl (hS.trans hE50), ?_⟩))
      have lo_b6_5 : w.heap.size ≤ b6_5 := hb49 ▸ (Below.size hB)
      have ne_b0_2_b6_5 : b0_2 ≠ b6_5 := Nat.ne_of_lt (hb49 ▸ hm0_2.lt)
      have ne_b0_1_b6_5 : b0_1 ≠ b6_5 := Nat.ne_of_lt (hb49 ▸ hm0_1.lt)
      clear hb49
      replace hB := below_ext hB hE50 (Nat.le_refl _)
      replace hm0_0 := hE50.at hm0_0
      replace hm0_2 := hE50.at hm0_2
      replace hm0_1 := hE50.at hm0_1
      replace hP4_2 := hE50.ow hP4_2
      replace hS := hS.trans hE50
      clear hE50
      refine WT_one (dd := none) 6 (by kernel_rfl) rfl rfl rfl rfl (Y_storeW rfl rfl tb_ag79 rfl hm6_5 rfl (by rfl) (fun W51 hG52 hm53 => ⟨.inr (by kernel_rfl), ?_⟩))
      replace hB := below_grown hB hG52 (Nat.le_refl _) (fun j hj => by cases hj; exact lo_b6_5)
      replace hm0_0 := At.grownAt hm0_0 hm6_5 hG52 (by decide)
      replace hm0_2 := At.grownNe hm0_2 ne_b0_2_b6_5 hG52
      replace hm0_1 := At.grownNe hm0_1 ne_b0_1_b6_5 hG52
      replace hP4_2 := OwT.grownAt hP4_2 hm6_5 hG52 (by decide)
      clear hG52 hm6_5
      have hm6_5 := hm53
      clear hm53
      refine WT_done (by kernel_rfl) ?_
      try clear sv43_hB sv43_hm0_0 sv43_hm0_2 sv43_hm0_1 sv43_hP4_2
      refine hK37 _ _ ?_
      clear hK37 K36
      refine WC_seq (fun K54 hK55 => ?_)
      refine WC_region ?_
      refine WL_val (dd := some 27) rfl rfl rfl (r_loadW rfl tb_ag64 rfl hm0_0) ?_
      refine WL_val (dd := some 28) rfl rfl rfl (r_loadW rfl tb_ag79 rfl hm6_5) ?_
      refine WL_call (dd := some 29) rfl rfl rfl (r_call2 tb_c65 (v0 := .agg #[_, _, _]) rfl (v1 := .agg #[_, _, _]) rfl) (C_drawkniferef10_Within S _ _ (woC (growRTo S x i) i).m (woC (growRTo S x i) i).v x.o _ (Below.slT hB hon) (Below.slT hB hmay) (inR_iff.1 hi).1 (by show woM (growRTo S x i).m (i : Int) < 256; omega) (by show (growRTo S x i).v &&& woM (growRTo S x i).m (i : Int) < 256; omega) hbx.2.2) (fun v7_2 W56 hE57 hP7_2 => ?_)
      have hsz58 := (Below.size hB)
      replace hB := below_ext hB hE57 (Nat.le_refl _)
      replace hm0_0 := hE57.at hm0_0
      replace hm0_2 := hE57.at hm0_2
      replace hm0_1 := hE57.at hm0_1
      replace hP4_2 := hE57.ow hP4_2
      replace hm6_5 := hE57.at hm6_5
      clear hE57
      clear hsz58
      obtain rfl := hP7_2
      refine WL_nil ?_
      refine hK55 _ _ ?_
      clear hK55 K54
      refine WC_cond (b := _) rfl (fun hc1 => ?_) (fun hc1 => ?_)
      ·
        try with_reducible replace hc1 := of_decide_eq_true hc1
        refine WC_region ?_
        refine WL_val (dd := some 30) rfl rfl rfl (r_loadW rfl tb_ag79 rfl hm6_5) ?_
        refine WL_step (dd := none) rfl rfl rfl (Y_storeW rfl rfl tb_ag79 rfl hm0_1 rfl (by rfl) (fun W59 hG60 hm61 => ?_))
        replace hB := below_grown hB hG60 (Nat.le_refl _) (fun j hj => by cases hj; exact lo_b0_1)
        replace hm0_0 := At.grownAt hm0_0 hm0_1 hG60 (by decide)
        replace hm0_2 := At.grownNe hm0_2 (Ne.symm ne_b0_1_b0_2) hG60
        replace hP4_2 := OwT.grownAt hP4_2 hm0_1 hG60 (by decide)
        replace hm6_5 := At.grownNe hm6_5 (Ne.symm ne_b0_1_b6_5) hG60
        clear hG60 hm0_1
        have hm0_1 := hm61
        clear hm61
        refine WL_nil ?_
        refine hK25 _ _ ?_
        clear hK25 K24
        refine WC_region ?_
        refine WL_val (dd := some 14) rfl rfl rfl (r_move (v := .int .i64 _) rfl) ?_
        refine WL_val (dd := some 15) rfl rfl rfl (r_addI rfl rfl (by omega) (by omega)) ?_
        refine WL_val (dd := some 5) rfl rfl rfl (r_assign (v := .int .i64 _) rfl) ?_
        refine WL_nil ?_
        refine hJ19 _ _ (i + 1) ?_ ?_ ?_ ?_
        · repeat (first | exact agree.mask _ _ _ | refine agree.updo ?_ rfl _ | refine agree.updL ?_ _ rfl | refine agree.maskS rfl ?_)
        · exact ⟨rfl, trivial⟩
        · exact ⟨hB, hm0_0, hm0_2, (by first | (rw [← growR_t hc1]; exact hm0_1) | (rw [← growR_f hc1]; exact hm0_1)), (by omega), trivial⟩
        · first | omega | (dsimp only; omega)
      ·
        try with_reducible replace hc1 := of_decide_eq_false hc1
        refine WC_skip ?_
        refine hK25 _ _ ?_
        clear hK25 K24
        refine WC_region ?_
        refine WL_val (dd := some 14) rfl rfl rfl (r_move (v := .int .i64 _) rfl) ?_
        refine WL_val (dd := some 15) rfl rfl rfl (r_addI rfl rfl (by omega) (by omega)) ?_
        refine WL_val (dd := some 5) rfl rfl rfl (r_assign (v := .int .i64 _) rfl) ?_
        refine WL_nil ?_
        refine hJ19 _ _ (i + 1) ?_ ?_ ?_ ?_
        · repeat (first | exact agree.mask _ _ _ | refine agree.updo ?_ rfl _ | refine agree.updL ?_ _ rfl | refine agree.maskS rfl ?_)
        · exact ⟨rfl, trivial⟩
        · exact ⟨hB, hm0_0, hm0_2, (by first | (rw [← growR_t hc1]; exact hm0_1) | (rw [← growR_f hc1]; exact hm0_1)), (by omega), trivial⟩
        · first | omega | (dsimp only; omega)
    ·
      have lo_b6_5 : w.heap.size ≤ b6_5 := hb45 ▸ (Below.size hB)
      have ne_b0_2_b6_5 : b0_2 ≠ b6_5 := Nat.ne_of_lt (hb45 ▸ hm0_2.lt)
      have ne_b0_1_b6_5 : b0_1 ≠ b6_5 := Nat.ne_of_lt (hb45 ▸ hm0_1.lt)
      clear hb45
      have sv47_hB := hB
      have sv47_hm0_0 := hm0_0
      have sv47_hm0_2 := hm0_2
      have sv47_hm0_1 := hm0_1
      have sv47_hP4_2 := hP4_2
      replace hB := below_ext hB hE46 (Nat.le_refl _)
      replace hm0_0 := hE46.at hm0_0
      replace hm0_2 := hE46.at hm0_2
      replace hm0_1 := hE46.at hm0_1
      replace hP4_2 := hE46.ow hP4_2
      replace hS := hS.trans hE46
      clear hE46
      refine WT_one (dd := some 23) 1 (by kernel_rfl) rfl rfl rfl rfl (Yd.call (r_call1 tb_c127 (v0 := v4_2) rfl) (C_drawkniferef02_Cube _ _ _ hP4_2.sl hwl) (fun v6_1 W62 hE63 hP6_1 => ⟨.inl (hS.trans hE63), ?_⟩))
      have hsz64 := (Below.size hB)
      replace hB := below_ext hB hE63 (Nat.le_refl _)
      replace hm0_0 := hE63.at hm0_0
      replace hm0_2 := hE63.at hm0_2
      replace hm0_1 := hE63.at hm0_1
      replace hP4_2 := hE63.ow hP4_2
      replace hm6_5 := hE63.at hm6_5
      replace hS := hS.trans hE63
      clear hE63
      rw [hw.1, hw.2] at hP6_1
      obtain rfl := hP6_1
      clear hsz64
      refine WT_take (dd := some 26) 4 rfl (by kernel_rfl) (by kernel_rfl) (by kernel_rfl) rfl rfl rfl (fun _wq _hq => tb_build79_0_1 (h0 := rfl) (h1 := rfl) (k1 := rfl) (c1_0 := .int .u8 _)) hS ?_
      refine WT_one (dd := none) 6 (by kernel_rfl) rfl rfl rfl rfl (Y_storeW rfl rfl tb_ag79 rfl hm6_5 rfl (by rfl) (fun W65 hG66 hm67 => ⟨.inr (by kernel_rfl), ?_⟩))
      replace hB := below_grown hB hG66 (Nat.le_refl _) (fun j hj => by cases hj; exact lo_b6_5)
      replace hm0_0 := At.grownAt hm0_0 hm6_5 hG66 (by decide)
      replace hm0_2 := At.grownNe hm0_2 ne_b0_2_b6_5 hG66
      replace hm0_1 := At.grownNe hm0_1 ne_b0_1_b6_5 hG66
      replace hP4_2 := OwT.grownAt hP4_2 hm6_5 hG66 (by decide)
      clear hG66 hm6_5
      have hm6_5 := hm67
      clear hm67
      refine WT_done (by kernel_rfl) ?_
      try clear sv47_hB sv47_hm0_0 sv47_hm0_2 sv47_hm0_1 sv47_hP4_2
      refine hK37 _ _ ?_
      clear hK37 K36
      refine WC_seq (fun K68 hK69 => ?_)
      refine WC_region ?_
      refine WL_val (dd := some 27) rfl rfl rfl (r_loadW rfl tb_ag64 rfl hm0_0) ?_
      refine WL_val (dd := some 28) rfl rfl rfl (r_loadW rfl tb_ag79 rfl hm6_5) ?_
      refine WL_call (dd := some 29) rfl rfl rfl (r_call2 tb_c65 (v0 := .agg #[_, _, _]) rfl (v1 := .agg #[_, _, _]) rfl) (C_drawkniferef10_Within S _ _ (woC (growRTo S x i) i).m (woC (growRTo S x i) i).v x.o _ (Below.slT hB hon) (Below.slT hB hmay) (inR_iff.1 hi).1 (by show woM (growRTo S x i).m (i : Int) < 256; omega) (by show (growRTo S x i).v &&& woM (growRTo S x i).m (i : Int) < 256; omega) hbx.2.2) (fun v7_2 W70 hE71 hP7_2 => ?_)
      have hsz72 := (Below.size hB)
      replace hB := below_ext hB hE71 (Nat.le_refl _)
      replace hm0_0 := hE71.at hm0_0
      replace hm0_2 := hE71.at hm0_2
      replace hm0_1 := hE71.at hm0_1
      replace hP4_2 := hE71.ow hP4_2
      replace hm6_5 := hE71.at hm6_5
      clear hE71
      clear hsz72
      obtain rfl := hP7_2
      refine WL_nil ?_
      refine hK69 _ _ ?_
      clear hK69 K68
      refine WC_cond (b := _) rfl (fun hc1 => ?_) (fun hc1 => ?_)
      ·
        try with_reducible replace hc1 := of_decide_eq_true hc1
        refine WC_region ?_
        refine WL_val (dd := some 30) rfl rfl rfl (r_loadW rfl tb_ag79 rfl hm6_5) ?_
        refine WL_step (dd := none) rfl rfl rfl (Y_storeW rfl rfl tb_ag79 rfl hm0_1 rfl (by rfl) (fun W73 hG74 hm75 => ?_))
        replace hB := below_grown hB hG74 (Nat.le_refl _) (fun j hj => by cases hj; exact lo_b0_1)
        replace hm0_0 := At.grownAt hm0_0 hm0_1 hG74 (by decide)
        replace hm0_2 := At.grownNe hm0_2 (Ne.symm ne_b0_1_b0_2) hG74
        replace hP4_2 := OwT.grownAt hP4_2 hm0_1 hG74 (by decide)
        replace hm6_5 := At.grownNe hm6_5 (Ne.symm ne_b0_1_b6_5) hG74
        clear hG74 hm0_1
        have hm0_1 := hm75
        clear hm75
        refine WL_nil ?_
        refine hK25 _ _ ?_
        clear hK25 K24
        refine WC_region ?_
        refine WL_val (dd := some 14) rfl rfl rfl (r_move (v := .int .i64 _) rfl) ?_
        refine WL_val (dd := some 15) rfl rfl rfl (r_addI rfl rfl (by omega) (by omega)) ?_
        refine WL_val (dd := some 5) rfl rfl rfl (r_assign (v := .int .i64 _) rfl) ?_
        refine WL_nil ?_
        refine hJ19 _ _ (i + 1) ?_ ?_ ?_ ?_
        · repeat (first | exact agree.mask _ _ _ | refine agree.updo ?_ rfl _ | refine agree.updL ?_ _ rfl | refine agree.maskS rfl ?_)
        · exact ⟨rfl, trivial⟩
        · exact ⟨hB, hm0_0, hm0_2, (by first | (rw [← growR_t hc1]; exact hm0_1) | (rw [← growR_f hc1]; exact hm0_1)), (by omega), trivial⟩
        · first | omega | (dsimp only; omega)
      ·
        try with_reducible replace hc1 := of_decide_eq_false hc1
        refine WC_skip ?_
        refine hK25 _ _ ?_
        clear hK25 K24
        refine WC_region ?_
        refine WL_val (dd := some 14) rfl rfl rfl (r_move (v := .int .i64 _) rfl) ?_
        refine WL_val (dd := some 15) rfl rfl rfl (r_addI rfl rfl (by omega) (by omega)) ?_
        refine WL_val (dd := some 5) rfl rfl rfl (r_assign (v := .int .i64 _) rfl) ?_
        refine WL_nil ?_
        refine hJ19 _ _ (i + 1) ?_ ?_ ?_ ?_
        · repeat (first | exact agree.mask _ _ _ | refine agree.updo ?_ rfl _ | refine agree.updL ?_ _ rfl | refine agree.maskS rfl ?_)
        · exact ⟨rfl, trivial⟩
        · exact ⟨hB, hm0_0, hm0_2, (by first | (rw [← growR_t hc1]; exact hm0_1) | (rw [← growR_f hc1]; exact hm0_1)), (by omega), trivial⟩
        · first | omega | (dsimp only; omega)
  ·
    try with_reducible replace hc0 := of_decide_eq_false hc0
    refine WC_exit ?_
    refine hK13 _ _ ?_
    clear hK21 K20
    clear hJ19 J18
    clear hK13 K12
    refine WC_seq (fun K76 hK77 => ?_)
    obtain rfl : i = S.n.toNat := by omega
    have hin2 := growRTo_in hi S.n.toNat
    have hg2 := growR_lt (S := S) (x := x) ⟨hbx.1, hbx.2.1⟩ S.n.toNat
    refine WC_region ?_
    refine WL_val (dd := some 8) rfl rfl rfl (r_assign (v := .int .u8 1) rfl) ?_
    refine WL_nil ?_
    refine hK77 _ _ ?_
    clear hK77 K76
    refine WC_seq (fun K78 hK79 => ?_)
    refine WC_seq (fun K80 hK81 => ?_)
    refine WC_region ?_
    refine WL_val (dd := some 9) rfl rfl rfl (r_assign (v := .int .i64 0) rfl) ?_
    refine WL_nil ?_
    refine hK81 _ _ ?_
    clear hK81 K80
    refine WC_block ?_
    refine WC_loop (σ := (Nat)) [8, 9, 31, 32, 33, 34, 35, 36, 37, 38, 39, 40, 41, 42, 43, 44, 45, 46, 47, 48, 49, 50, 51, 52, 53, 54, 55, 56, 57, 58, 59, 60] (fun j => [(9, .int .i64 (j : Int)), (8, .int .u8 ((2 ^ j % 256 : Nat) : Int))]) (fun j W => (Below w.heap.size w W) ∧ (At W b0_0 _ 64) ∧ (At W b0_2 _ 79) ∧ (At W b0_1 #[.int .u8 ((growRTo S x S.n.toNat).m : Int), .int .u8 ((growRTo S x S.n.toNat).v : Int), .int .u8 ((addTo S (growRTo S x S.n.toNat) x.o j : Nat) : Int)] 79) ∧ (j ≤ S.on.length) ∧ (True)) (fun j => S.on.length - j) (0) ⟨rfl, rfl, trivial⟩ ⟨hB, hm0_0, hm0_2, hm0_1, (Nat.zero_le _), trivial⟩ ?_
    clear hB hm0_0 hm0_2 hm0_1
    rintro j g83 W82 ⟨hB, hm0_0, hm0_2, hm0_1, hj, _⟩ J84 hJ85
    refine WC_seq (fun K86 hK87 => ?_)
    refine WC_seq (fun K88 hK89 => ?_)
    refine WC_region ?_
    refine WL_val (dd := some 31) rfl rfl rfl (r_move (v := .int .i64 _) rfl) ?_
    refine WL_val (dd := some 32) rfl rfl rfl (r_fieldAddr (b := _) (o := _) rfl tb_fo64_1) ?_
    refine WL_val (dd := some 33) rfl rfl rfl (r_load1 (v := onV) rfl tb_sc62 (At.cell hm0_0 rfl)) ?_
    refine WL_val (dd := some 34) rfl rfl rfl (r_lenS (v := onV) rfl (Below.slT hB hon) tb_el62) ?_
    refine WL_val (dd := some 35) rfl rfl rfl (r_lss rfl rfl) ?_
    refine WL_nil ?_
    refine hK89 _ _ ?_
    clear hK89 K88
    refine WC_cond (b := _) rfl (fun hc2 => ?_) (fun hc2 => ?_)
    ·
      try with_reducible replace hc2 := of_decide_eq_true hc2
      refine WC_skip ?_
      refine hK87 _ _ ?_
      clear hK87 K86
      refine WC_seq (fun K90 hK91 => ?_)
      refine WC_block ?_
      refine WC_seq (fun K92 hK93 => ?_)
      refine WC_seq (fun K94 hK95 => ?_)
      have hal := add_lt hin2 j
      have h7 := pow7 (show j < 8 by omega)
      have hmod : 2 ^ j % 256 = 2 ^ j := Nat.mod_eq_of_lt (by omega)
      rw [hmod]
      refine WC_region ?_
      refine WL_val (dd := some 38) rfl rfl rfl (r_fieldAddr (b := _) (o := _) rfl tb_fo79_1) ?_
      refine WL_val (dd := some 39) rfl rfl rfl (r_load1 (v := .int .u8 _) rfl tb_sc5 (At.cell hm0_1 rfl)) ?_
      refine WL_val (dd := some 40) rfl rfl rfl (r_move (v := .int .i64 _) rfl) ?_
      refine WL_call (dd := some 41) rfl rfl rfl (r_call2 tb_c112 (v0 := .int .u8 _) rfl (v1 := .int .i64 _) rfl) (C_drawkniferef04_Bit _ _ _ (by omega) (by omega)) (fun v13_3 W96 hE97 hP13_3 => ?_)
      have hsz98 := (Below.size hB)
      replace hB := below_ext hB hE97 (Nat.le_refl _)
      replace hm0_0 := hE97.at hm0_0
      replace hm0_2 := hE97.at hm0_2
      replace hm0_1 := hE97.at hm0_1
      clear hE97
      clear hsz98
      obtain rfl := hP13_3
      refine WL_val (dd := some 42) rfl rfl rfl (r_not rfl) ?_
      refine WL_split (dd := some 43) rfl rfl rfl (r_move (v := .bool _) rfl) (fun hs13_5 => ?_) (fun hs13_5 => ?_)
      ·
        try with_reducible replace hs13_5 := of_decide_eq_true hs13_5
        refine WL_val (dd := some 44) rfl rfl rfl (r_loadW rfl tb_ag64 rfl hm0_0) ?_
        refine WL_val (dd := some 45) rfl rfl rfl (r_fieldAddr (b := _) (o := _) rfl tb_fo79_0) ?_
        refine WL_val (dd := some 46) rfl rfl rfl (r_load2 rfl tb_ag34 (At.cell hm0_1 rfl) (At.cell hm0_1 rfl)) ?_
        refine WL_val (dd := some 47) rfl rfl rfl (r_fieldAddr (b := _) (o := _) rfl tb_fo79_1) ?_
        refine WL_val (dd := some 48) rfl rfl rfl (r_load1 (v := .int .u8 _) rfl tb_sc5 (At.cell hm0_1 rfl)) ?_
        refine WL_val (dd := some 49) rfl rfl rfl (r_move (v := .int .u8 _) rfl) ?_
        refine WL_val (dd := some 50) rfl rfl rfl (r_addN rfl (n := (2 ^ j)) rfl rfl (by simp only [topN]; omega)) ?_
        refine WL_val (dd := some 51) rfl rfl rfl (tb_build79_0_1 (h0 := rfl) (h1 := rfl) (k1 := rfl) (c1_0 := .int .u8 _)) ?_
        refine WL_call (dd := some 52) rfl rfl rfl (r_call2 tb_c65 (v0 := .agg #[_, _, _]) rfl (v1 := .agg #[_, _, _]) rfl) (C_drawkniferef10_Within S _ _ (growRTo S x S.n.toNat).m (growRTo S x S.n.toNat).v (addTo S (growRTo S x S.n.toNat) x.o j + 2 ^ j) _ (Below.slT hB hon) (Below.slT hB hmay) (inR_iff.1 hi).1 hg2.1 hg2.2 (by omega)) (fun v13_14 W99 hE100 hP13_14 => ?_)
        have hsz101 := (Below.size hB)
        replace hB := below_ext hB hE100 (Nat.le_refl _)
        replace hm0_0 := hE100.at hm0_0
        replace hm0_2 := hE100.at hm0_2
        replace hm0_1 := hE100.at hm0_1
        clear hE100
        clear hsz101
        obtain rfl := hP13_14
        refine WL_val (dd := some 53) rfl rfl rfl (r_pick_t rfl (v := .bool _) rfl) ?_
        refine WL_nil ?_
        refine hK95 _ _ ?_
        clear hK95 K94
        refine WC_cond (b := _) rfl (fun hc3 => ?_) (fun hc3 => ?_)
        ·
          try with_reducible replace hc3 := of_decide_eq_true hc3
          refine WC_region ?_
          refine WL_val (dd := some 54) rfl rfl rfl (r_fieldAddr (b := _) (o := _) rfl tb_fo79_1) ?_
          refine WL_val (dd := some 55) rfl rfl rfl (r_load1 (v := .int .u8 _) rfl tb_sc5 (At.cell hm0_1 rfl)) ?_
          refine WL_val (dd := some 56) rfl rfl rfl (r_move (v := .int .u8 _) rfl) ?_
          refine WL_val (dd := some 57) rfl rfl rfl (r_addN rfl (n := (2 ^ j)) rfl rfl (by simp only [topN]; omega)) ?_
          refine WL_val (dd := some 58) rfl rfl rfl (r_fieldAddr (b := _) (o := _) rfl tb_fo79_1) ?_
          refine WL_step (dd := none) rfl rfl rfl (Y_store1 (v := .int .u8 _) rfl rfl tb_sc5 rfl hm0_1 (by simp) (fun W102 hG103 hm104 => ?_))
          replace hB := below_grown hB hG103 (Nat.le_refl _) (fun j hj => by cases hj; exact lo_b0_1)
          replace hm0_0 := At.grownAt hm0_0 hm0_1 hG103 (by decide)
          replace hm0_2 := At.grownNe hm0_2 (Ne.symm ne_b0_1_b0_2) hG103
          clear hG103 hm0_1
          have hm0_1 := hm104
          clear hm104
          replace hm0_1 : At _ _ #[_, _, _] _ := hm0_1
          refine WL_nil ?_
          refine hK93 _ _ ?_
          clear hK93 K92
          refine WC_region ?_
          refine WL_val (dd := some 59) rfl rfl rfl (r_move (v := .int .u8 _) rfl) ?_
          refine WL_val (dd := some 60) rfl rfl rfl (r_mulW8 (n := 2) rfl rfl rfl) ?_
          refine WL_val (dd := some 8) rfl rfl rfl (r_assign (v := .int .u8 _) rfl) ?_
          refine WL_nil ?_
          refine hK91 _ _ ?_
          clear hK91 K90
          refine WC_region ?_
          refine WL_val (dd := some 36) rfl rfl rfl (r_move (v := .int .i64 _) rfl) ?_
          refine WL_val (dd := some 37) rfl rfl rfl (r_addI rfl rfl (by omega) (by omega)) ?_
          refine WL_val (dd := some 9) rfl rfl rfl (r_assign (v := .int .i64 _) rfl) ?_
          refine WL_nil ?_
          refine hJ85 _ _ (j + 1) ?_ ?_ ?_ ?_
          · repeat (first | exact agree.mask _ _ _ | refine agree.updo ?_ rfl _ | refine agree.updL ?_ _ rfl | refine agree.maskS rfl ?_)
          · exact ⟨rfl, congrArg (fun q : Nat => Value.int .u8 (q : Int)) (by first | exact two8_step (by omega) | (rw [hmod]; exact two8_step (by omega))), trivial⟩
          · exact ⟨hB, hm0_0, hm0_2, (by first | (rw [← add_t (not_t hs13_5) hc3]; exact hm0_1) | (rw [← add_f2 (not_t hs13_5) hc3]; exact hm0_1) | (rw [← add_f1 (not_f hs13_5)]; exact hm0_1)), (by omega), trivial⟩
          · first | omega | (dsimp only; omega)
        ·
          try with_reducible replace hc3 := of_decide_eq_false hc3
          refine WC_skip ?_
          refine hK93 _ _ ?_
          clear hK93 K92
          refine WC_region ?_
          refine WL_val (dd := some 59) rfl rfl rfl (r_move (v := .int .u8 _) rfl) ?_
          refine WL_val (dd := some 60) rfl rfl rfl (r_mulW8 (n := 2) rfl rfl rfl) ?_
          refine WL_val (dd := some 8) rfl rfl rfl (r_assign (v := .int .u8 _) rfl) ?_
          refine WL_nil ?_
          refine hK91 _ _ ?_
          clear hK91 K90
          refine WC_region ?_
          refine WL_val (dd := some 36) rfl rfl rfl (r_move (v := .int .i64 _) rfl) ?_
          refine WL_val (dd := some 37) rfl rfl rfl (r_addI rfl rfl (by omega) (by omega)) ?_
          refine WL_val (dd := some 9) rfl rfl rfl (r_assign (v := .int .i64 _) rfl) ?_
          refine WL_nil ?_
          refine hJ85 _ _ (j + 1) ?_ ?_ ?_ ?_
          · repeat (first | exact agree.mask _ _ _ | refine agree.updo ?_ rfl _ | refine agree.updL ?_ _ rfl | refine agree.maskS rfl ?_)
          · exact ⟨rfl, congrArg (fun q : Nat => Value.int .u8 (q : Int)) (by first | exact two8_step (by omega) | (rw [hmod]; exact two8_step (by omega))), trivial⟩
          · exact ⟨hB, hm0_0, hm0_2, (by first | (rw [← add_t (not_t hs13_5) hc3]; exact hm0_1) | (rw [← add_f2 (not_t hs13_5) hc3]; exact hm0_1) | (rw [← add_f1 (not_f hs13_5)]; exact hm0_1)), (by omega), trivial⟩
          · first | omega | (dsimp only; omega)
      ·
        try with_reducible replace hs13_5 := of_decide_eq_false hs13_5
        refine WL_skip (dd := some 44) rfl rfl rfl ?_
        refine WL_skip (dd := some 45) rfl rfl rfl ?_
        refine WL_skip (dd := some 46) rfl rfl rfl ?_
        refine WL_skip (dd := some 47) rfl rfl rfl ?_
        refine WL_skip (dd := some 48) rfl rfl rfl ?_
        refine WL_skip (dd := some 49) rfl rfl rfl ?_
        refine WL_skip (dd := some 50) rfl rfl rfl ?_
        refine WL_skip (dd := some 51) rfl rfl rfl ?_
        refine WL_skip (dd := some 52) rfl rfl rfl ?_
        refine WL_val (dd := some 53) rfl rfl rfl (r_pick_f rfl (v := .bool false) rfl) ?_
        refine WL_nil ?_
        refine hK95 _ _ ?_
        clear hK95 K94
        refine WC_cond_false rfl ?_
        refine WC_skip ?_
        refine hK93 _ _ ?_
        clear hK93 K92
        refine WC_region ?_
        refine WL_val (dd := some 59) rfl rfl rfl (r_move (v := .int .u8 _) rfl) ?_
        refine WL_val (dd := some 60) rfl rfl rfl (r_mulW8 (n := 2) rfl rfl rfl) ?_
        refine WL_val (dd := some 8) rfl rfl rfl (r_assign (v := .int .u8 _) rfl) ?_
        refine WL_nil ?_
        refine hK91 _ _ ?_
        clear hK91 K90
        refine WC_region ?_
        refine WL_val (dd := some 36) rfl rfl rfl (r_move (v := .int .i64 _) rfl) ?_
        refine WL_val (dd := some 37) rfl rfl rfl (r_addI rfl rfl (by omega) (by omega)) ?_
        refine WL_val (dd := some 9) rfl rfl rfl (r_assign (v := .int .i64 _) rfl) ?_
        refine WL_nil ?_
        refine hJ85 _ _ (j + 1) ?_ ?_ ?_ ?_
        · repeat (first | exact agree.mask _ _ _ | refine agree.updo ?_ rfl _ | refine agree.updL ?_ _ rfl | refine agree.maskS rfl ?_)
        · exact ⟨rfl, congrArg (fun q : Nat => Value.int .u8 (q : Int)) (by first | exact two8_step (by omega) | (rw [hmod]; exact two8_step (by omega))), trivial⟩
        · exact ⟨hB, hm0_0, hm0_2, (by first | (rw [← add_t (not_t hs13_5) hc3]; exact hm0_1) | (rw [← add_f2 (not_t hs13_5) hc3]; exact hm0_1) | (rw [← add_f1 (not_f hs13_5)]; exact hm0_1)), (by omega), trivial⟩
        · first | omega | (dsimp only; omega)
    ·
      try with_reducible replace hc2 := of_decide_eq_false hc2
      refine WC_exit ?_
      refine hK79 _ _ ?_
      clear hK87 K86
      clear hJ85 J84
      clear hK79 K78
      refine WC_seq (fun K105 hK106 => ?_)
      refine WC_region ?_
      refine WL_val (dd := some 61) rfl rfl rfl (r_loadW rfl tb_ag79 rfl hm0_1) ?_
      refine WL_step (dd := none) rfl rfl rfl (Y_storeW rfl rfl tb_ag79 rfl hm0_2 rfl (by rfl) (fun W107 hG108 hm109 => ?_))
      replace hB := below_grown hB hG108 (Nat.le_refl _) (fun j hj => by cases hj; exact lo_b0_2)
      replace hm0_0 := At.grownAt hm0_0 hm0_2 hG108 (by decide)
      replace hm0_1 := At.grownNe hm0_1 ne_b0_1_b0_2 hG108
      clear hG108 hm0_2
      have hm0_2 := hm109
      clear hm109
      refine WL_nil ?_
      refine hK106 _ _ ?_
      clear hK106 K105
      refine WC_ret ?_
      repeat (first | refine thenQ_ret ?_ | refine blockQ_ret ?_)
      refine ret_c rfl tb_ag79 hm0_2 rfl ?_
      refine ⟨hB, ?_⟩
      obtain rfl : j = S.on.length := by omega
      rw [← growR_in hi, ← h5]

theorem C_drawknifelaw10_Great (S : Sp) (onV mayV : Value) (w : World) (hon : SlT encS 4 w onV S.on) (hmay : SlT encS 4 w mayV S.may) :
    Fn Try.prog 57 #[.agg #[.int .i64 S.n, onV, mayV]] w fun v w' => v = .bool (greatS S) := by
  refine Fn_intro (n := 13) Try.func57 rfl rfl (Nat.le_of_ble_eq_true rfl) ?_
  have hB : Below w.heap.size w w := Below.refl _ _
  refine WC_seq (fun K1 hK2 => ?_)
  refine WC_region ?_
  refine WL_step (dd := some 1) rfl rfl rfl (Y_box (c := #[_, _, _]) rfl rfl (fun b0_0 W3 hb4 hE5 hm0_0 => ?_))
  have lo_b0_0 : w.heap.size ≤ b0_0 := hb4 ▸ (Below.size hB)
  clear hb4
  replace hB := below_ext hB hE5 (Nat.le_refl _)
  clear hE5
  refine WL_val (dd := some 2) rfl rfl rfl (r_assign (v := .bool false) rfl) ?_
  refine WL_nil ?_
  refine hK2 _ _ ?_
  clear hK2 K1
  refine WC_seq (fun K6 hK7 => ?_)
  refine WC_region ?_
  refine WL_val (dd := some 3) rfl rfl rfl (r_fieldAddr (b := _) (o := _) rfl tb_fo64_1) ?_
  refine WL_val (dd := some 4) rfl rfl rfl (r_load1 (v := onV) rfl tb_sc62 (At.cell hm0_0 rfl)) ?_
  refine WL_val (dd := some 5) rfl rfl rfl (r_lenS (v := onV) rfl (Below.slT hB hon) tb_el62) ?_
  refine WL_val (dd := some 6) rfl rfl rfl (r_gtr rfl rfl) ?_
  refine WL_split (dd := some 7) rfl rfl rfl (r_move (v := .bool _) rfl) (fun hs1_4 => ?_) (fun hs1_4 => ?_)
  ·
    try with_reducible replace hs1_4 := of_decide_eq_true hs1_4
    refine WL_skip (dd := some 8) rfl rfl rfl ?_
    refine WL_skip (dd := some 9) rfl rfl rfl ?_
    refine WL_skip (dd := some 10) rfl rfl rfl ?_
    refine WL_skip (dd := some 11) rfl rfl rfl ?_
    refine WL_val (dd := some 12) rfl rfl rfl (r_pick_t rfl (v := .bool true) rfl) ?_
    refine WL_val (dd := some 2) rfl rfl rfl (r_assign (v := .bool true) rfl) ?_
    refine WL_nil ?_
    refine hK7 _ _ ?_
    clear hK7 K6
    refine WC_ret ?_
    repeat (first | refine thenQ_ret ?_ | refine blockQ_ret ?_)
    refine ret_t (v := .bool true) rfl ?_
    refine ⟨hB, ?_⟩
    first | exact congrArg Value.bool (great_1 hs1_4) | exact congrArg Value.bool (great_2 hs1_4)
  ·
    try with_reducible replace hs1_4 := of_decide_eq_false hs1_4
    refine WL_val (dd := some 8) rfl rfl rfl (r_fieldAddr (b := _) (o := _) rfl tb_fo64_2) ?_
    refine WL_val (dd := some 9) rfl rfl rfl (r_load1 (v := mayV) rfl tb_sc62 (At.cell hm0_0 rfl)) ?_
    refine WL_val (dd := some 10) rfl rfl rfl (r_lenS (v := mayV) rfl (Below.slT hB hmay) tb_el62) ?_
    refine WL_val (dd := some 11) rfl rfl rfl (r_gtr rfl rfl) ?_
    refine WL_val (dd := some 12) rfl rfl rfl (r_pick_f rfl (v := .bool _) rfl) ?_
    refine WL_val (dd := some 2) rfl rfl rfl (r_assign (v := .bool _) rfl) ?_
    refine WL_nil ?_
    refine hK7 _ _ ?_
    clear hK7 K6
    refine WC_ret ?_
    repeat (first | refine thenQ_ret ?_ | refine blockQ_ret ?_)
    refine ret_t (v := .bool _) rfl ?_
    refine ⟨hB, ?_⟩
    first | exact congrArg Value.bool (great_1 hs1_4) | exact congrArg Value.bool (great_2 hs1_4)

set_option maxRecDepth 10000 in
theorem C_drawknifelaw10_knows  (w : World) :
    Fn Try.prog 58 #[] w fun v w' => v = .bool true := by
  refine Fn_intro (n := 63) Try.func58 rfl rfl (Nat.le_of_ble_eq_true rfl) ?_
  have hB : Below w.heap.size w w := Below.refl _ _
  refine WC_seq (fun K1 hK2 => ?_)
  refine WC_region ?_
  refine WL_val (dd := some 0) rfl rfl rfl (r_assign (v := .bool false) rfl) ?_
  refine WL_nil ?_
  refine hK2 _ _ ?_
  clear hK2 K1
  refine WC_seq (fun K3 hK4 => ?_)
  refine WC_region ?_
  refine WL_val (dd := some 6) (v := setV 0) rfl rfl rfl (tb_build24_ ) ?_
  refine WL_val (dd := some 7) (v := setV 0) rfl rfl rfl (tb_build24_ ) ?_
  refine WL_step (dd := some 8) rfl rfl rfl (Y_lit2 (u0 := .agg #[_, _, _, _]) (u1 := .agg #[_, _, _, _]) rfl rfl tb_el62 tb_zs24 rfl rfl (by decide) (by decide) (fun b1_2 W5 hb6 hE7 hm1_2 => ?_))
  have lo_b1_2 : w.heap.size ≤ b1_2 := hb6 ▸ (Below.size hB)
  clear hb6
  replace hB := below_ext hB hE7 (Nat.le_refl _)
  clear hE7
  have ho1_2 := own_lit2 (enc := encS) (a0 := 0) (a1 := 0) hm1_2 rfl rfl rfl rfl lo_b1_2
  clear hm1_2
  refine WL_val (dd := some 9) (v := setV 2) rfl rfl rfl (tb_build24_0 (h0 := rfl) (k0 := rfl) (c0_0 := .int .u64 2)) ?_
  refine WL_val (dd := some 10) (v := setV 3) rfl rfl rfl (tb_build24_0 (h0 := rfl) (k0 := rfl) (c0_0 := .int .u64 3)) ?_
  refine WL_step (dd := some 11) rfl rfl rfl (Y_lit2 (u0 := .agg #[_, _, _, _]) (u1 := .agg #[_, _, _, _]) rfl rfl tb_el62 tb_zs24 rfl rfl (by decide) (by decide) (fun b1_5 W8 hb9 hE10 hm1_5 => ?_))
  have lo_b1_5 : w.heap.size ≤ b1_5 := hb9 ▸ (Below.size hB)
  have olt_ho1_2 := OwT.lt2 ho1_2
  have hap11 : Apart (.slice (some ⟨b1_2, 0, none⟩) 2 2) (.slice (some ⟨b1_5, 0, none⟩) 2 2) := fun j h1 h2 => by cases h2; exact absurd (olt_ho1_2 _ h1) (by rw [hb9]; exact Nat.lt_irrefl _)
  clear hb9
  replace hB := below_ext hB hE10 (Nat.le_refl _)
  replace ho1_2 := hE10.ow ho1_2
  clear hE10
  have ho1_5 := own_lit2 (enc := encS) (a0 := 2) (a1 := 3) hm1_5 rfl rfl rfl rfl lo_b1_5
  clear hm1_5
  refine WL_val (dd := some 12) rfl rfl rfl (tb_build64_0_1_2 (h0 := rfl) (k0 := rfl) (h1 := rfl) (k1 := rfl) (h2 := rfl) (k2 := rfl) (c0_0 := .int .i64 1) (c1_0 := .slice (some ⟨b1_2, 0, none⟩) 2 2) (c2_0 := .slice (some ⟨b1_5, 0, none⟩) 2 2)) ?_
  refine WL_step (dd := some 1) rfl rfl rfl (Y_alloc tb_z64 rfl (fun b1_7 W12 hb13 hE14 hm1_7 => ?_))
  have lo_b1_7 : w.heap.size ≤ b1_7 := hb13 ▸ (Below.size hB)
  clear hb13
  replace hB := below_ext hB hE14 (Nat.le_refl _)
  replace ho1_2 := hE14.ow ho1_2
  replace ho1_5 := hE14.ow ho1_5
  clear hE14
  refine WL_step (dd := none) rfl rfl rfl (Y_storeW rfl rfl tb_ag64 rfl hm1_7 rfl (by rfl) (fun W15 hG16 hm17 => ?_))
  replace hB := below_grown hB hG16 (Nat.le_refl _) (fun j hj => by cases hj; exact lo_b1_7)
  replace ho1_2 := OwT.grownAt ho1_2 hm1_7 hG16 (by decide)
  replace ho1_5 := OwT.grownAt ho1_5 hm1_7 hG16 (by decide)
  clear hG16 hm1_7
  have hm1_7 := hm17
  clear hm17
  refine WL_nil ?_
  refine hK4 _ _ ?_
  clear hK4 K3
  refine WC_seq (fun K18 hK19 => ?_)
  refine WC_region ?_
  refine WL_val (dd := some 14) rfl rfl rfl (r_loadW rfl tb_ag64 rfl hm1_7) ?_
  refine WL_call (dd := some 15) rfl rfl rfl (r_call1 tb_c59 (v0 := .agg #[_, _, _]) rfl) (C_multi_All KS _ _ _ ho1_2.sl ho1_5.sl) (fun v2_1 W20 hE21 hP2_1 => ?_)
  have hsz22 := (Below.size hB)
  replace hB := below_ext hB hE21 (Nat.le_refl _)
  replace ho1_2 := hE21.ow ho1_2
  replace ho1_5 := hE21.ow ho1_5
  replace hm1_7 := hE21.at hm1_7
  clear hE21
  obtain ⟨x_hP2_1, er_hP2_1, l_hP2_1, rfl, ho_hP2_1, hc_hP2_1⟩ := own_res hP2_1
  replace ho_hP2_1 := OwT.mono ho_hP2_1 hsz22
  obtain ⟨her, hle⟩ : er_hP2_1 = 0 ∧ l_hP2_1 = allR KS := hc_hP2_1.elim (fun h => h.2) (fun h => absurd h.1 (by rw [right_knows]; decide))
  subst her
  rw [all_knows] at hle
  subst hle
  clear hsz22
  refine WL_val (dd := some 13) rfl rfl rfl (r_move (v := .tuple #[x_hP2_1, .int .i64 _]) rfl) ?_
  refine WL_val (dd := some 16) rfl rfl rfl (r_ext2_0 (h := rfl)) ?_
  refine WL_val (dd := some 17) rfl rfl rfl (r_ext2_1 (h := rfl)) ?_
  refine WL_val (dd := some 2) rfl rfl rfl (r_assign (v := x_hP2_1) rfl) ?_
  refine WL_val (dd := some 3) rfl rfl rfl (r_assign (v := .int .i64 _) rfl) ?_
  refine WL_nil ?_
  refine hK19 _ _ ?_
  clear hK19 K18
  refine WC_seq (fun K23 hK24 => ?_)
  refine WC_region ?_
  refine WL_val (dd := some 19) rfl rfl rfl (r_loadW rfl tb_ag64 rfl hm1_7) ?_
  refine WL_val (dd := some 20) rfl rfl rfl (tb_build34_0_1 (h0 := rfl) (k0 := rfl) (h1 := rfl) (k1 := rfl) (c0_0 := .int .u8 1) (c1_0 := .int .u8 1)) ?_
  refine WL_val (dd := some 21) rfl rfl rfl (tb_build79_0_1 (h0 := rfl) (h1 := rfl) (k1 := rfl) (c1_0 := .int .u8 1)) ?_
  refine WL_call (dd := some 22) rfl rfl rfl (r_call2 tb_c62 (v0 := .agg #[_, _, _]) rfl (v1 := .agg #[_, _, _]) rfl) (C_multi_Grow KS _ _ ⟨⟨1, 1⟩, 1⟩ _ ho1_2.sl ho1_5.sl (by decide)) (fun v3_3 W25 hE26 hP3_3 => ?_)
  have hsz27 := (Below.size hB)
  replace hB := below_ext hB hE26 (Nat.le_refl _)
  replace ho1_2 := hE26.ow ho1_2
  replace ho1_5 := hE26.ow ho1_5
  replace hm1_7 := hE26.at hm1_7
  replace ho_hP2_1 := hE26.ow ho_hP2_1
  clear hE26
  rw [if_pos in_knows, grow_knows] at hP3_3
  obtain rfl := hP3_3
  clear hsz27
  refine WL_val (dd := some 18) rfl rfl rfl (r_move (v := .tuple #[.agg #[_, _, _], .int .i64 _]) rfl) ?_
  refine WL_val (dd := some 23) rfl rfl rfl (r_ext2_0 (h := rfl)) ?_
  refine WL_val (dd := some 24) rfl rfl rfl (r_ext2_1 (h := rfl)) ?_
  refine WL_step (dd := some 4) rfl rfl rfl (Y_alloc tb_z79 rfl (fun b3_7 W28 hb29 hE30 hm3_7 => ?_))
  have lo_b3_7 : w.heap.size ≤ b3_7 := hb29 ▸ (Below.size hB)
  have no_x_hP2_1_b3_7 := OwT.neB (b := b3_7) ho_hP2_1 (Nat.le_of_eq hb29.symm)
  clear hb29
  replace hB := below_ext hB hE30 (Nat.le_refl _)
  replace ho1_2 := hE30.ow ho1_2
  replace ho1_5 := hE30.ow ho1_5
  replace hm1_7 := hE30.at hm1_7
  replace ho_hP2_1 := hE30.ow ho_hP2_1
  clear hE30
  refine WL_step (dd := none) rfl rfl rfl (Y_storeW rfl rfl tb_ag79 rfl hm3_7 rfl (by rfl) (fun W31 hG32 hm33 => ?_))
  replace hB := below_grown hB hG32 (Nat.le_refl _) (fun j hj => by cases hj; exact lo_b3_7)
  replace ho1_2 := OwT.grownAt ho1_2 hm3_7 hG32 (by decide)
  replace ho1_5 := OwT.grownAt ho1_5 hm3_7 hG32 (by decide)
  replace hm1_7 := At.grownAt hm1_7 hm3_7 hG32 (by decide)
  replace ho_hP2_1 := OwT.grownAtNe ho_hP2_1 no_x_hP2_1_b3_7 hG32
  clear hG32 hm3_7
  have hm3_7 := hm33
  clear hm33
  refine WL_val (dd := some 5) rfl rfl rfl (r_assign (v := .int .i64 _) rfl) ?_
  refine WL_nil ?_
  refine hK24 _ _ ?_
  clear hK24 K23
  refine WC_seq (fun K34 hK35 => ?_)
  refine WC_draw Ext tb_mix (fun W36 hE37 => ?_)
  replace hB := below_ext hB hE37 (Nat.le_refl _)
  replace ho1_2 := hE37.ow ho1_2
  replace ho1_5 := hE37.ow ho1_5
  replace hm1_7 := hE37.at hm1_7
  replace ho_hP2_1 := hE37.ow ho_hP2_1
  replace hm3_7 := hE37.at hm3_7
  have hS := Ext.refl W36
  refine WT_take (dd := some 25) 0 rfl (by kernel_rfl) (by kernel_rfl) (by kernel_rfl) rfl rfl rfl (fun _wq _hq => r_move (v := x_hP2_1) rfl) hS ?_
  refine WT_take (dd := some 26) 1 rfl (by kernel_rfl) (by kernel_rfl) (by kernel_rfl) rfl rfl rfl (fun _wq hq => r_lenS (v := x_hP2_1) rfl ((hq.ow ho_hP2_1)).sl tb_el65) hS ?_
  refine WT_take (dd := some 27) 2 rfl (by kernel_rfl) (by kernel_rfl) (by kernel_rfl) rfl rfl rfl (fun _wq _hq => r_eql rfl rfl) hS ?_
  refine WT_split (dd := some 28) 3 rfl (by kernel_rfl) (by kernel_rfl) (by kernel_rfl) rfl rfl rfl (fun wq hq => r_move (v := .bool _) rfl) hS (fun hs4_3 => ?_) (fun hs4_3 => ?_)
  ·
    try with_reducible replace hs4_3 := of_decide_eq_true hs4_3
    refine WT_take (dd := some 29) 4 rfl (by kernel_rfl) (by kernel_rfl) (by kernel_rfl) rfl rfl rfl (fun _wq _hq => r_move (v := x_hP2_1) rfl) hS ?_
    refine WT_take (dd := some 30) 5 rfl (by kernel_rfl) (by kernel_rfl) (by kernel_rfl) rfl rfl rfl (fun _wq hq => r_idxS (j := 0) (v := x_hP2_1) rfl ((hq.ow ho_hP2_1)).sl rfl tb_el65 (by omega) (by first | omega | (simp only [flagsTo_len, litsTo_len, firstF_len, ptF_len, setF_len]; omega))) hS ?_
    refine WT_take (dd := some 31) 6 rfl (by kernel_rfl) (by kernel_rfl) (by kernel_rfl) rfl rfl rfl (fun _wq hq => r_load3 rfl tb_ag79 (SlT.cell (j := 0) ((hq.ow ho_hP2_1)).sl encR_len ⟨⟨0, 0⟩, 0⟩ (by omega) (by first | omega | (simp only [flagsTo_len, litsTo_len, firstF_len, ptF_len, setF_len]; omega)) 0 rfl) (SlT.cell (j := 0) ((hq.ow ho_hP2_1)).sl encR_len ⟨⟨0, 0⟩, 0⟩ (by omega) (by first | omega | (simp only [flagsTo_len, litsTo_len, firstF_len, ptF_len, setF_len]; omega)) 1 rfl) (SlT.cell (j := 0) ((hq.ow ho_hP2_1)).sl encR_len ⟨⟨0, 0⟩, 0⟩ (by omega) (by first | omega | (simp only [flagsTo_len, litsTo_len, firstF_len, ptF_len, setF_len]; omega)) 2 rfl)) hS ?_
    refine WT_take (dd := some 32) 7 rfl (by kernel_rfl) (by kernel_rfl) (by kernel_rfl) rfl rfl rfl (fun _wq _hq => tb_build79_1 (h0 := rfl) (k0 := rfl) (c0_0 := .int .u8 2)) hS ?_
    refine WT_take (dd := some 33) 8 rfl (by kernel_rfl) (by kernel_rfl) (by kernel_rfl) rfl rfl rfl (fun _wq _hq => tb_eq79 rfl rfl) hS ?_
    refine WT_take (dd := some 34) 9 rfl (by kernel_rfl) (by kernel_rfl) (by kernel_rfl) rfl rfl rfl (fun _wq _hq => r_pick_t rfl (v := .bool _) rfl) hS ?_
    refine WT_split (dd := some 35) 10 rfl (by kernel_rfl) (by kernel_rfl) (by kernel_rfl) rfl rfl rfl (fun wq hq => r_move (v := .bool _) rfl) hS (fun hs4_10 => ?_) (fun hs4_10 => ?_)
    ·
      try with_reducible replace hs4_10 := of_decide_eq_true hs4_10
      refine WT_take (dd := some 36) 11 rfl (by kernel_rfl) (by kernel_rfl) (by kernel_rfl) rfl rfl rfl (fun _wq _hq => r_move (v := x_hP2_1) rfl) hS ?_
      refine WT_take (dd := some 37) 12 rfl (by kernel_rfl) (by kernel_rfl) (by kernel_rfl) rfl rfl rfl (fun _wq hq => r_idxS (j := 1) (v := x_hP2_1) rfl ((hq.ow ho_hP2_1)).sl rfl tb_el65 (by omega) (by first | omega | (simp only [flagsTo_len, litsTo_len, firstF_len, ptF_len, setF_len]; omega))) hS ?_
      refine WT_take (dd := some 38) 13 rfl (by kernel_rfl) (by kernel_rfl) (by kernel_rfl) rfl rfl rfl (fun _wq hq => r_load3 rfl tb_ag79 (SlT.cell (j := 1) ((hq.ow ho_hP2_1)).sl encR_len ⟨⟨0, 0⟩, 0⟩ (by omega) (by first | omega | (simp only [flagsTo_len, litsTo_len, firstF_len, ptF_len, setF_len]; omega)) 0 rfl) (SlT.cell (j := 1) ((hq.ow ho_hP2_1)).sl encR_len ⟨⟨0, 0⟩, 0⟩ (by omega) (by first | omega | (simp only [flagsTo_len, litsTo_len, firstF_len, ptF_len, setF_len]; omega)) 1 rfl) (SlT.cell (j := 1) ((hq.ow ho_hP2_1)).sl encR_len ⟨⟨0, 0⟩, 0⟩ (by omega) (by first | omega | (simp only [flagsTo_len, litsTo_len, firstF_len, ptF_len, setF_len]; omega)) 2 rfl)) hS ?_
      refine WT_take (dd := some 39) 14 rfl (by kernel_rfl) (by kernel_rfl) (by kernel_rfl) rfl rfl rfl (fun _wq _hq => tb_build34_0_1 (h0 := rfl) (k0 := rfl) (h1 := rfl) (k1 := rfl) (c0_0 := .int .u8 1) (c1_0 := .int .u8 1)) hS ?_
      refine WT_take (dd := some 40) 15 rfl (by kernel_rfl) (by kernel_rfl) (by kernel_rfl) rfl rfl rfl (fun _wq _hq => tb_build79_0_1 (h0 := rfl) (h1 := rfl) (k1 := rfl) (c1_0 := .int .u8 3)) hS ?_
      refine WT_take (dd := some 41) 16 rfl (by kernel_rfl) (by kernel_rfl) (by kernel_rfl) rfl rfl rfl (fun _wq _hq => tb_eq79 rfl rfl) hS ?_
      refine WT_take (dd := some 42) 17 rfl (by kernel_rfl) (by kernel_rfl) (by kernel_rfl) rfl rfl rfl (fun _wq _hq => r_pick_t rfl (v := .bool _) rfl) hS ?_
      refine WT_split (dd := some 43) 18 rfl (by kernel_rfl) (by kernel_rfl) (by kernel_rfl) rfl rfl rfl (fun wq hq => r_move (v := .bool _) rfl) hS (fun hs4_18 => ?_) (fun hs4_18 => ?_)
      ·
        try with_reducible replace hs4_18 := of_decide_eq_true hs4_18
        refine WT_take (dd := some 44) 19 rfl (by kernel_rfl) (by kernel_rfl) (by kernel_rfl) rfl rfl rfl (fun _wq _hq => r_move (v := .int .i64 _) rfl) hS ?_
        refine WT_take (dd := some 45) 20 rfl (by kernel_rfl) (by kernel_rfl) (by kernel_rfl) rfl rfl rfl (fun _wq _hq => r_eql rfl rfl) hS ?_
        refine WT_take (dd := some 46) 21 rfl (by kernel_rfl) (by kernel_rfl) (by kernel_rfl) rfl rfl rfl (fun _wq _hq => r_pick_t rfl (v := .bool _) rfl) hS ?_
        refine WT_split (dd := some 47) 22 rfl (by kernel_rfl) (by kernel_rfl) (by kernel_rfl) rfl rfl rfl (fun wq hq => r_move (v := .bool _) rfl) hS (fun hs4_22 => ?_) (fun hs4_22 => ?_)
        ·
          try with_reducible replace hs4_22 := of_decide_eq_true hs4_22
          refine WT_take (dd := some 48) 23 rfl (by kernel_rfl) (by kernel_rfl) (by kernel_rfl) rfl rfl rfl (fun _wq hq => r_loadW rfl tb_ag79 rfl (hq.at hm3_7)) hS ?_
          refine WT_take (dd := some 49) 24 rfl (by kernel_rfl) (by kernel_rfl) (by kernel_rfl) rfl rfl rfl (fun _wq _hq => r_move (v := x_hP2_1) rfl) hS ?_
          refine WT_take (dd := some 50) 25 rfl (by kernel_rfl) (by kernel_rfl) (by kernel_rfl) rfl rfl rfl (fun _wq hq => r_idxS (j := 1) (v := x_hP2_1) rfl ((hq.ow ho_hP2_1)).sl rfl tb_el65 (by omega) (by first | omega | (simp only [flagsTo_len, litsTo_len, firstF_len, ptF_len, setF_len]; omega))) hS ?_
          refine WT_take (dd := some 51) 26 rfl (by kernel_rfl) (by kernel_rfl) (by kernel_rfl) rfl rfl rfl (fun _wq hq => r_load3 rfl tb_ag79 (SlT.cell (j := 1) ((hq.ow ho_hP2_1)).sl encR_len ⟨⟨0, 0⟩, 0⟩ (by omega) (by first | omega | (simp only [flagsTo_len, litsTo_len, firstF_len, ptF_len, setF_len]; omega)) 0 rfl) (SlT.cell (j := 1) ((hq.ow ho_hP2_1)).sl encR_len ⟨⟨0, 0⟩, 0⟩ (by omega) (by first | omega | (simp only [flagsTo_len, litsTo_len, firstF_len, ptF_len, setF_len]; omega)) 1 rfl) (SlT.cell (j := 1) ((hq.ow ho_hP2_1)).sl encR_len ⟨⟨0, 0⟩, 0⟩ (by omega) (by first | omega | (simp only [flagsTo_len, litsTo_len, firstF_len, ptF_len, setF_len]; omega)) 2 rfl)) hS ?_
          refine WT_take (dd := some 52) 27 rfl (by kernel_rfl) (by kernel_rfl) (by kernel_rfl) rfl rfl rfl (fun _wq _hq => tb_eq79 rfl rfl) hS ?_
          refine WT_take (dd := some 53) 28 rfl (by kernel_rfl) (by kernel_rfl) (by kernel_rfl) rfl rfl rfl (fun _wq _hq => r_pick_t rfl (v := .bool _) rfl) hS ?_
          refine WT_split (dd := some 54) 29 rfl (by kernel_rfl) (by kernel_rfl) (by kernel_rfl) rfl rfl rfl (fun wq hq => r_move (v := .bool _) rfl) hS (fun hs4_29 => ?_) (fun hs4_29 => ?_)
          ·
            try with_reducible replace hs4_29 := of_decide_eq_true hs4_29
            refine WT_take (dd := some 55) 30 rfl (by kernel_rfl) (by kernel_rfl) (by kernel_rfl) rfl rfl rfl (fun _wq _hq => r_move (v := .int .i64 _) rfl) hS ?_
            refine WT_take (dd := some 56) 31 rfl (by kernel_rfl) (by kernel_rfl) (by kernel_rfl) rfl rfl rfl (fun _wq _hq => r_eql rfl rfl) hS ?_
            refine WT_take (dd := some 57) 32 rfl (by kernel_rfl) (by kernel_rfl) (by kernel_rfl) rfl rfl rfl (fun _wq _hq => r_pick_t rfl (v := .bool _) rfl) hS ?_
            refine WT_split (dd := some 58) 33 rfl (by kernel_rfl) (by kernel_rfl) (by kernel_rfl) rfl rfl rfl (fun wq hq => r_move (v := .bool _) rfl) hS (fun hs4_33 => ?_) (fun hs4_33 => ?_)
            ·
              try with_reducible replace hs4_33 := of_decide_eq_true hs4_33
              refine WT_take (dd := some 59) 34 rfl (by kernel_rfl) (by kernel_rfl) (by kernel_rfl) rfl rfl rfl (fun _wq hq => r_loadW rfl tb_ag64 rfl (hq.at hm1_7)) hS ?_
              refine WT_take (dd := some 60) 35 rfl (by kernel_rfl) (by kernel_rfl) (by kernel_rfl) rfl rfl rfl (fun _wq hq => r_loadW rfl tb_ag79 rfl (hq.at hm3_7)) hS ?_
              refine WT_one (dd := some 61) 36 (by kernel_rfl) rfl rfl rfl rfl (Yd.call (r_call2 tb_c63 (v0 := .agg #[_, _, _]) rfl (v1 := .agg #[_, _, _]) rfl) (C_multi_Prime KS _ _ ⟨⟨1, 1⟩, 3⟩ _ ho1_2.sl ho1_5.sl (by decide)) (fun v4_36 W38 hE39 hP4_36 => ⟨.inl (hS.trans hE39), ?_⟩))
              have hsz40 := (Below.size hB)
              have sv41_hB := hB
              have sv41_ho1_2 := ho1_2
              have sv41_ho1_5 := ho1_5
              have sv41_hm1_7 := hm1_7
              have sv41_ho_hP2_1 := ho_hP2_1
              have sv41_hm3_7 := hm3_7
              replace hB := below_ext hB hE39 (Nat.le_refl _)
              replace ho1_2 := hE39.ow ho1_2
              replace ho1_5 := hE39.ow ho1_5
              replace hm1_7 := hE39.at hm1_7
              replace ho_hP2_1 := hE39.ow ho_hP2_1
              replace hm3_7 := hE39.at hm3_7
              replace hS := hS.trans hE39
              clear hE39
              clear hsz40
              obtain rfl := hP4_36
              refine WT_take (dd := some 62) 37 rfl (by kernel_rfl) (by kernel_rfl) (by kernel_rfl) rfl rfl rfl (fun _wq _hq => r_pick_t rfl (v := .bool _) rfl) hS ?_
              refine WT_take (dd := some 0) 38 rfl (by kernel_rfl) (by kernel_rfl) (by kernel_rfl) rfl rfl rfl (fun _wq _hq => r_assign (v := .bool _) rfl) hS ?_
              refine WT_done (by kernel_rfl) ?_
              try clear sv41_hB sv41_ho1_2 sv41_ho1_5 sv41_hm1_7 sv41_ho_hP2_1 sv41_hm3_7
              refine hK35 _ _ ?_
              clear hK35 K34
              refine WC_ret ?_
              repeat (first | refine thenQ_ret ?_ | refine blockQ_ret ?_)
              refine ret_t (v := .bool _) rfl ?_
              refine ⟨hB, ?_⟩
              exact congrArg Value.bool prime_knows
            ·
              try with_reducible replace hs4_33 := of_decide_eq_false hs4_33
              first | exact absurd (by decide +kernel) hs4_33 | exact absurd hs4_33 (by decide +kernel)
          ·
            try with_reducible replace hs4_29 := of_decide_eq_false hs4_29
            first | exact absurd (by decide +kernel) hs4_29 | exact absurd hs4_29 (by decide +kernel)
        ·
          try with_reducible replace hs4_22 := of_decide_eq_false hs4_22
          first | exact absurd (by decide +kernel) hs4_22 | exact absurd hs4_22 (by decide +kernel)
      ·
        try with_reducible replace hs4_18 := of_decide_eq_false hs4_18
        first | exact absurd (by decide +kernel) hs4_18 | exact absurd hs4_18 (by decide +kernel)
    ·
      try with_reducible replace hs4_10 := of_decide_eq_false hs4_10
      first | exact absurd (by decide +kernel) hs4_10 | exact absurd hs4_10 (by decide +kernel)
  ·
    try with_reducible replace hs4_3 := of_decide_eq_false hs4_3
    first | exact absurd (by decide +kernel) hs4_3 | exact absurd hs4_3 (by decide +kernel)

theorem C_drawknifelaw10_MultiAll (S : Sp) (onV mayV : Value) (w : World) (hon : SlT encS 4 w onV S.on) (hmay : SlT encS 4 w mayV S.may) :
    Fn Try.prog 13 #[.agg #[.int .i64 S.n, onV, mayV]] w fun v w' => v = .bool true := by
  refine Fn_intro (n := 53) Try.func13 rfl rfl (Nat.le_of_ble_eq_true rfl) ?_
  have hB : Below w.heap.size w w := Below.refl _ _
  refine WC_seq (fun K1 hK2 => ?_)
  refine WC_region ?_
  refine WL_step (dd := some 1) rfl rfl rfl (Y_box (c := #[_, _, _]) rfl rfl (fun b0_0 W3 hb4 hE5 hm0_0 => ?_))
  have lo_b0_0 : w.heap.size ≤ b0_0 := hb4 ▸ (Below.size hB)
  clear hb4
  replace hB := below_ext hB hE5 (Nat.le_refl _)
  clear hE5
  refine WL_val (dd := some 2) rfl rfl rfl (r_assign (v := .bool false) rfl) ?_
  refine WL_nil ?_
  refine hK2 _ _ ?_
  clear hK2 K1
  refine WC_seq (fun K6 hK7 => ?_)
  refine WC_region ?_
  refine WL_val (dd := some 6) rfl rfl rfl (r_loadW rfl tb_ag64 rfl hm0_0) ?_
  refine WL_call (dd := some 7) rfl rfl rfl (r_call1 tb_c56 (v0 := .agg #[_, _, _]) rfl) (C_drawkniferef04_Right S _ _  _ (Below.slT hB hon) (Below.slT hB hmay) ) (fun v1_1 W8 hE9 hP1_1 => ?_)
  have hsz10 := (Below.size hB)
  replace hB := below_ext hB hE9 (Nat.le_refl _)
  replace hm0_0 := hE9.at hm0_0
  clear hE9
  clear hsz10
  obtain rfl := hP1_1
  refine WL_val (dd := some 3) rfl rfl rfl (r_assign (v := .bool _) rfl) ?_
  refine WL_nil ?_
  refine hK7 _ _ ?_
  clear hK7 K6
  refine WC_seq (fun K11 hK12 => ?_)
  refine WC_seq (fun K13 hK14 => ?_)
  refine WC_region ?_
  refine WL_val (dd := some 8) rfl rfl rfl (r_loadW rfl tb_ag64 rfl hm0_0) ?_
  refine WL_call (dd := some 9) rfl rfl rfl (r_call1 tb_c57 (v0 := .agg #[_, _, _]) rfl) (C_drawknifelaw10_Great S _ _  _ (Below.slT hB hon) (Below.slT hB hmay) ) (fun v2_1 W15 hE16 hP2_1 => ?_)
  have hsz17 := (Below.size hB)
  replace hB := below_ext hB hE16 (Nat.le_refl _)
  replace hm0_0 := hE16.at hm0_0
  clear hE16
  clear hsz17
  obtain rfl := hP2_1
  refine WL_split (dd := some 10) rfl rfl rfl (r_move (v := .bool _) rfl) (fun hs2_2 => ?_) (fun hs2_2 => ?_)
  ·
    try with_reducible replace hs2_2 := of_decide_eq_true hs2_2
    refine WL_skip (dd := some 11) rfl rfl rfl ?_
    refine WL_skip (dd := some 12) rfl rfl rfl ?_
    refine WL_skip (dd := some 13) rfl rfl rfl ?_
    refine WL_skip (dd := some 14) rfl rfl rfl ?_
    refine WL_skip (dd := some 15) rfl rfl rfl ?_
    refine WL_skip (dd := some 16) rfl rfl rfl ?_
    refine WL_skip (dd := some 17) rfl rfl rfl ?_
    refine WL_skip (dd := some 18) rfl rfl rfl ?_
    refine WL_skip (dd := some 19) rfl rfl rfl ?_
    refine WL_skip (dd := some 20) rfl rfl rfl ?_
    refine WL_skip (dd := some 21) rfl rfl rfl ?_
    refine WL_skip (dd := some 22) rfl rfl rfl ?_
    refine WL_val (dd := some 23) rfl rfl rfl (r_pick_t rfl (v := .bool true) rfl) ?_
    refine WL_nil ?_
    refine hK14 _ _ ?_
    clear hK14 K13
    refine WC_cond_true rfl ?_
    refine WC_seq (fun K18 hK19 => ?_)
    refine WC_region ?_
    refine WL_call (dd := some 24) rfl rfl rfl (r_call0 tb_c58) (C_drawknifelaw10_knows _) (fun v3_0 W20 hE21 hP3_0 => ?_)
    have hsz22 := (Below.size hB)
    replace hB := below_ext hB hE21 (Nat.le_refl _)
    replace hm0_0 := hE21.at hm0_0
    clear hE21
    clear hsz22
    obtain rfl := hP3_0
    refine WL_val (dd := some 2) rfl rfl rfl (r_assign (v := .bool _) rfl) ?_
    refine WL_nil ?_
    refine hK19 _ _ ?_
    clear hK19 K18
    refine WC_ret ?_
    repeat (first | refine thenQ_ret ?_ | refine blockQ_ret ?_)
    try clear hK12 K11
    refine ret_t (v := .bool _) rfl ?_
    refine ⟨hB, ?_⟩
    rfl
  ·
    try with_reducible replace hs2_2 := of_decide_eq_false hs2_2
    refine WL_val (dd := some 11) rfl rfl rfl (r_move (v := .bool _) rfl) ?_
    refine WL_split (dd := some 12) rfl rfl rfl (r_move (v := .bool _) rfl) (fun hs2_4 => ?_) (fun hs2_4 => ?_)
    ·
      try with_reducible replace hs2_4 := of_decide_eq_true hs2_4
      refine WL_val (dd := some 13) rfl rfl rfl (r_fieldAddr (b := _) (o := _) rfl tb_fo64_0) ?_
      refine WL_val (dd := some 14) rfl rfl rfl (r_load1 (v := .int .i64 _) rfl tb_sc3 (At.cell hm0_0 rfl)) ?_
      refine WL_val (dd := some 15) rfl rfl rfl (r_gtr rfl rfl) ?_
      refine WL_split (dd := some 16) rfl rfl rfl (r_move (v := .bool _) rfl) (fun hs2_8 => ?_) (fun hs2_8 => ?_)
      ·
        try with_reducible replace hs2_8 := of_decide_eq_true hs2_8
        refine WL_skip (dd := some 17) rfl rfl rfl ?_
        refine WL_skip (dd := some 18) rfl rfl rfl ?_
        refine WL_skip (dd := some 19) rfl rfl rfl ?_
        refine WL_skip (dd := some 20) rfl rfl rfl ?_
        refine WL_val (dd := some 21) rfl rfl rfl (r_pick_t rfl (v := .bool true) rfl) ?_
        refine WL_val (dd := some 22) rfl rfl rfl (r_pick_t rfl (v := .bool true) rfl) ?_
        refine WL_val (dd := some 23) rfl rfl rfl (r_pick_f rfl (v := .bool true) rfl) ?_
        refine WL_nil ?_
        refine hK14 _ _ ?_
        clear hK14 K13
        refine WC_cond_true rfl ?_
        refine WC_seq (fun K23 hK24 => ?_)
        refine WC_region ?_
        refine WL_call (dd := some 24) rfl rfl rfl (r_call0 tb_c58) (C_drawknifelaw10_knows _) (fun v3_0 W25 hE26 hP3_0 => ?_)
        have hsz27 := (Below.size hB)
        replace hB := below_ext hB hE26 (Nat.le_refl _)
        replace hm0_0 := hE26.at hm0_0
        clear hE26
        clear hsz27
        obtain rfl := hP3_0
        refine WL_val (dd := some 2) rfl rfl rfl (r_assign (v := .bool _) rfl) ?_
        refine WL_nil ?_
        refine hK24 _ _ ?_
        clear hK24 K23
        refine WC_ret ?_
        repeat (first | refine thenQ_ret ?_ | refine blockQ_ret ?_)
        try clear hK12 K11
        refine ret_t (v := .bool _) rfl ?_
        refine ⟨hB, ?_⟩
        rfl
      ·
        try with_reducible replace hs2_8 := of_decide_eq_false hs2_8
        refine WL_val (dd := some 17) rfl rfl rfl (r_fieldAddr (b := _) (o := _) rfl tb_fo64_1) ?_
        refine WL_val (dd := some 18) rfl rfl rfl (r_load1 (v := onV) rfl tb_sc62 (At.cell hm0_0 rfl)) ?_
        refine WL_val (dd := some 19) rfl rfl rfl (r_lenS (v := onV) rfl (Below.slT hB hon) tb_el62) ?_
        refine WL_val (dd := some 20) rfl rfl rfl (r_gtr rfl rfl) ?_
        refine WL_val (dd := some 21) rfl rfl rfl (r_pick_f rfl (v := .bool _) rfl) ?_
        refine WL_val (dd := some 22) rfl rfl rfl (r_pick_t rfl (v := .bool _) rfl) ?_
        refine WL_val (dd := some 23) rfl rfl rfl (r_pick_f rfl (v := .bool _) rfl) ?_
        refine WL_nil ?_
        refine hK14 _ _ ?_
        clear hK14 K13
        refine WC_cond (b := _) rfl (fun hc0 => ?_) (fun hc0 => ?_)
        ·
          try with_reducible replace hc0 := of_decide_eq_true hc0
          refine WC_seq (fun K28 hK29 => ?_)
          refine WC_region ?_
          refine WL_call (dd := some 24) rfl rfl rfl (r_call0 tb_c58) (C_drawknifelaw10_knows _) (fun v3_0 W30 hE31 hP3_0 => ?_)
          have hsz32 := (Below.size hB)
          replace hB := below_ext hB hE31 (Nat.le_refl _)
          replace hm0_0 := hE31.at hm0_0
          clear hE31
          clear hsz32
          obtain rfl := hP3_0
          refine WL_val (dd := some 2) rfl rfl rfl (r_assign (v := .bool _) rfl) ?_
          refine WL_nil ?_
          refine hK29 _ _ ?_
          clear hK29 K28
          refine WC_ret ?_
          repeat (first | refine thenQ_ret ?_ | refine blockQ_ret ?_)
          try clear hK12 K11
          refine ret_t (v := .bool _) rfl ?_
          refine ⟨hB, ?_⟩
          rfl
        ·
          try with_reducible replace hc0 := of_decide_eq_false hc0
          refine WC_skip ?_
          refine hK12 _ _ ?_
          clear hK12 K11
          refine WC_seq (fun K33 hK34 => ?_)
          refine WC_region ?_
          refine WL_val (dd := some 26) rfl rfl rfl (r_loadW rfl tb_ag64 rfl hm0_0) ?_
          refine WL_call (dd := some 27) rfl rfl rfl (r_call1 tb_c59 (v0 := .agg #[_, _, _]) rfl) (C_multi_All S _ _  _ (Below.slT hB hon) (Below.slT hB hmay) ) (fun v4_1 W35 hE36 hP4_1 => ?_)
          have hsz37 := (Below.size hB)
          replace hB := below_ext hB hE36 (Nat.le_refl _)
          replace hm0_0 := hE36.at hm0_0
          clear hE36
          obtain ⟨x_hP4_1, er_hP4_1, l_hP4_1, rfl, ho_hP4_1, hc_hP4_1⟩ := own_res hP4_1
          replace ho_hP4_1 := OwT.mono ho_hP4_1 hsz37
          clear hsz37
          refine WL_val (dd := some 25) rfl rfl rfl (r_move (v := .tuple #[x_hP4_1, .int .i64 _]) rfl) ?_
          refine WL_val (dd := some 28) rfl rfl rfl (r_ext2_0 (h := rfl)) ?_
          refine WL_val (dd := some 29) rfl rfl rfl (r_ext2_1 (h := rfl)) ?_
          refine WL_val (dd := some 4) rfl rfl rfl (r_assign (v := x_hP4_1) rfl) ?_
          refine WL_val (dd := some 5) rfl rfl rfl (r_assign (v := .int .i64 _) rfl) ?_
          refine WL_nil ?_
          refine hK34 _ _ ?_
          clear hK34 K33
          refine WC_seq (fun K38 hK39 => ?_)
          refine WC_seq (fun K40 hK41 => ?_)
          refine WC_region ?_
          refine WL_val (dd := some 30) rfl rfl rfl (r_move (v := .bool _) rfl) ?_
          refine WL_val (dd := some 31) rfl rfl rfl (r_not rfl) ?_
          refine WL_nil ?_
          refine hK41 _ _ ?_
          clear hK41 K40
          refine WC_cond (b := _) rfl (fun hc1 => ?_) (fun hc1 => ?_)
          ·
            try with_reducible replace hc1 := of_decide_eq_true hc1
            refine WC_seq (fun K42 hK43 => ?_)
            have hr : rightS S = false := not_t hc1
            obtain ⟨q2, q3⟩ := hc_hP4_1.elim (fun h => absurd h.1 (by rw [hr]; decide)) (fun h => h.2)
            subst q2 q3
            refine WC_region ?_
            refine WL_val (dd := some 32) rfl rfl rfl (r_move (v := x_hP4_1) rfl) ?_
            refine WL_val (dd := some 33) rfl rfl rfl (r_lenS (v := x_hP4_1) rfl ho_hP4_1.sl tb_el65) ?_
            refine WL_val (dd := some 34) rfl rfl rfl (r_eql rfl rfl) ?_
            refine WL_split (dd := some 35) rfl rfl rfl (r_move (v := .bool _) rfl) (fun hs6_3 => ?_) (fun hs6_3 => ?_)
            ·
              try with_reducible replace hs6_3 := of_decide_eq_true hs6_3
              refine WL_val (dd := some 36) rfl rfl rfl (r_move (v := .int .i64 _) rfl) ?_
              refine WL_val (dd := some 37) rfl rfl rfl (r_eql rfl rfl) ?_
              refine WL_val (dd := some 38) rfl rfl rfl (r_pick_t rfl (v := .bool _) rfl) ?_
              refine WL_split (dd := some 39) rfl rfl rfl (r_move (v := .bool _) rfl) (fun hs6_7 => ?_) (fun hs6_7 => ?_)
              ·
                try with_reducible replace hs6_7 := of_decide_eq_true hs6_7
                refine WL_call (dd := some 40) rfl rfl rfl (r_call0 tb_c58) (C_drawknifelaw10_knows _) (fun v6_8 W44 hE45 hP6_8 => ?_)
                have hsz46 := (Below.size hB)
                replace hB := below_ext hB hE45 (Nat.le_refl _)
                replace hm0_0 := hE45.at hm0_0
                replace ho_hP4_1 := hE45.ow ho_hP4_1
                clear hE45
                clear hsz46
                obtain rfl := hP6_8
                refine WL_val (dd := some 41) rfl rfl rfl (r_pick_t rfl (v := .bool _) rfl) ?_
                refine WL_val (dd := some 2) rfl rfl rfl (r_assign (v := .bool _) rfl) ?_
                refine WL_nil ?_
                refine hK43 _ _ ?_
                clear hK43 K42
                refine WC_ret ?_
                repeat (first | refine thenQ_ret ?_ | refine blockQ_ret ?_)
                try clear hK39 K38
                refine ret_t (v := .bool _) rfl ?_
                refine ⟨hB, ?_⟩
                rfl
              ·
                try with_reducible replace hs6_7 := of_decide_eq_false hs6_7
                exact absurd rfl hs6_7
            ·
              try with_reducible replace hs6_3 := of_decide_eq_false hs6_3
              exact absurd rfl hs6_3
          ·
            try with_reducible replace hc1 := of_decide_eq_false hc1
            refine WC_skip ?_
            refine hK39 _ _ ?_
            clear hK39 K38
            refine WC_seq (fun K47 hK48 => ?_)
            have hr : rightS S = true := not_f hc1
            obtain ⟨q2, q3⟩ := hc_hP4_1.elim (fun h => h.2) (fun h => absurd hr (by rw [h.1]; decide))
            subst q2 q3
            refine WC_region ?_
            refine WL_val (dd := some 42) rfl rfl rfl (r_move (v := x_hP4_1) rfl) ?_
            refine WL_val (dd := some 43) rfl rfl rfl (r_loadW rfl tb_ag64 rfl hm0_0) ?_
            refine WL_call (dd := some 44) rfl rfl rfl (r_call1 tb_c61 (v0 := .agg #[_, _, _]) rfl) (C_drawkniferef10_All S _ _  _ (Below.slT hB hon) (Below.slT hB hmay) hr) (fun v7_2 W49 hE50 hP7_2 => ?_)
            have hlt51 := OwT.lt2 ho_hP4_1
            have hsz52 := (Below.size hB)
            replace hB := below_ext hB hE50 (Nat.le_refl _)
            replace hm0_0 := hE50.at hm0_0
            replace ho_hP4_1 := hE50.ow ho_hP4_1
            clear hE50
            have hap53 := Apart.new hlt51 hP7_2
            replace hP7_2 := OwT.mono hP7_2 hsz52
            clear hsz52
            refine WL_call (dd := some 45) rfl rfl rfl (r_call2 tb_c60 (v0 := x_hP4_1) rfl (v1 := v7_2) rfl) (C_drawkniferef10_Same _ _ _ _ _ ho_hP4_1.sl hP7_2.sl (by have := allR_len hr; omega)) (fun v7_3 W54 hE55 hP7_3 => ?_)
            have hsz56 := (Below.size hB)
            replace hB := below_ext hB hE55 (Nat.le_refl _)
            replace hm0_0 := hE55.at hm0_0
            replace ho_hP4_1 := hE55.ow ho_hP4_1
            replace hP7_2 := hE55.ow hP7_2
            clear hE55
            clear hsz56
            obtain rfl := hP7_3
            refine WL_split (dd := some 46) rfl rfl rfl (r_move (v := .bool _) rfl) (fun hs7_4 => ?_) (fun hs7_4 => ?_)
            ·
              try with_reducible replace hs7_4 := of_decide_eq_true hs7_4
              refine WL_val (dd := some 47) rfl rfl rfl (r_move (v := .int .i64 _) rfl) ?_
              refine WL_val (dd := some 48) rfl rfl rfl (r_eql rfl rfl) ?_
              refine WL_val (dd := some 49) rfl rfl rfl (r_pick_t rfl (v := .bool _) rfl) ?_
              refine WL_split (dd := some 50) rfl rfl rfl (r_move (v := .bool _) rfl) (fun hs7_8 => ?_) (fun hs7_8 => ?_)
              ·
                try with_reducible replace hs7_8 := of_decide_eq_true hs7_8
                refine WL_call (dd := some 51) rfl rfl rfl (r_call0 tb_c58) (C_drawknifelaw10_knows _) (fun v7_9 W57 hE58 hP7_9 => ?_)
                have hsz59 := (Below.size hB)
                replace hB := below_ext hB hE58 (Nat.le_refl _)
                replace hm0_0 := hE58.at hm0_0
                replace ho_hP4_1 := hE58.ow ho_hP4_1
                replace hP7_2 := hE58.ow hP7_2
                clear hE58
                clear hsz59
                obtain rfl := hP7_9
                refine WL_val (dd := some 52) rfl rfl rfl (r_pick_t rfl (v := .bool _) rfl) ?_
                refine WL_val (dd := some 2) rfl rfl rfl (r_assign (v := .bool _) rfl) ?_
                refine WL_nil ?_
                refine hK48 _ _ ?_
                clear hK48 K47
                refine WC_ret ?_
                repeat (first | refine thenQ_ret ?_ | refine blockQ_ret ?_)
                refine ret_t (v := .bool _) rfl ?_
                refine ⟨hB, ?_⟩
                rfl
              ·
                try with_reducible replace hs7_8 := of_decide_eq_false hs7_8
                exact absurd rfl hs7_8
            ·
              try with_reducible replace hs7_4 := of_decide_eq_false hs7_4
              exact absurd rfl hs7_4
    ·
      try with_reducible replace hs2_4 := of_decide_eq_false hs2_4
      refine WL_skip (dd := some 13) rfl rfl rfl ?_
      refine WL_skip (dd := some 14) rfl rfl rfl ?_
      refine WL_skip (dd := some 15) rfl rfl rfl ?_
      refine WL_skip (dd := some 16) rfl rfl rfl ?_
      refine WL_skip (dd := some 17) rfl rfl rfl ?_
      refine WL_skip (dd := some 18) rfl rfl rfl ?_
      refine WL_skip (dd := some 19) rfl rfl rfl ?_
      refine WL_skip (dd := some 20) rfl rfl rfl ?_
      refine WL_skip (dd := some 21) rfl rfl rfl ?_
      refine WL_val (dd := some 22) rfl rfl rfl (r_pick_f rfl (v := .bool false) rfl) ?_
      refine WL_val (dd := some 23) rfl rfl rfl (r_pick_f rfl (v := .bool false) rfl) ?_
      refine WL_nil ?_
      refine hK14 _ _ ?_
      clear hK14 K13
      refine WC_cond_false rfl ?_
      refine WC_skip ?_
      refine hK12 _ _ ?_
      clear hK12 K11
      refine WC_seq (fun K60 hK61 => ?_)
      refine WC_region ?_
      refine WL_val (dd := some 26) rfl rfl rfl (r_loadW rfl tb_ag64 rfl hm0_0) ?_
      refine WL_call (dd := some 27) rfl rfl rfl (r_call1 tb_c59 (v0 := .agg #[_, _, _]) rfl) (C_multi_All S _ _  _ (Below.slT hB hon) (Below.slT hB hmay) ) (fun v4_1 W62 hE63 hP4_1 => ?_)
      have hsz64 := (Below.size hB)
      replace hB := below_ext hB hE63 (Nat.le_refl _)
      replace hm0_0 := hE63.at hm0_0
      clear hE63
      obtain ⟨x_hP4_1, er_hP4_1, l_hP4_1, rfl, ho_hP4_1, hc_hP4_1⟩ := own_res hP4_1
      replace ho_hP4_1 := OwT.mono ho_hP4_1 hsz64
      clear hsz64
      refine WL_val (dd := some 25) rfl rfl rfl (r_move (v := .tuple #[x_hP4_1, .int .i64 _]) rfl) ?_
      refine WL_val (dd := some 28) rfl rfl rfl (r_ext2_0 (h := rfl)) ?_
      refine WL_val (dd := some 29) rfl rfl rfl (r_ext2_1 (h := rfl)) ?_
      refine WL_val (dd := some 4) rfl rfl rfl (r_assign (v := x_hP4_1) rfl) ?_
      refine WL_val (dd := some 5) rfl rfl rfl (r_assign (v := .int .i64 _) rfl) ?_
      refine WL_nil ?_
      refine hK61 _ _ ?_
      clear hK61 K60
      refine WC_seq (fun K65 hK66 => ?_)
      refine WC_seq (fun K67 hK68 => ?_)
      refine WC_region ?_
      refine WL_val (dd := some 30) rfl rfl rfl (r_move (v := .bool _) rfl) ?_
      refine WL_val (dd := some 31) rfl rfl rfl (r_not rfl) ?_
      refine WL_nil ?_
      refine hK68 _ _ ?_
      clear hK68 K67
      refine WC_cond (b := _) rfl (fun hc1 => ?_) (fun hc1 => ?_)
      ·
        try with_reducible replace hc1 := of_decide_eq_true hc1
        refine WC_seq (fun K69 hK70 => ?_)
        have hr : rightS S = false := not_t hc1
        obtain ⟨q2, q3⟩ := hc_hP4_1.elim (fun h => absurd h.1 (by rw [hr]; decide)) (fun h => h.2)
        subst q2 q3
        refine WC_region ?_
        refine WL_val (dd := some 32) rfl rfl rfl (r_move (v := x_hP4_1) rfl) ?_
        refine WL_val (dd := some 33) rfl rfl rfl (r_lenS (v := x_hP4_1) rfl ho_hP4_1.sl tb_el65) ?_
        refine WL_val (dd := some 34) rfl rfl rfl (r_eql rfl rfl) ?_
        refine WL_split (dd := some 35) rfl rfl rfl (r_move (v := .bool _) rfl) (fun hs6_3 => ?_) (fun hs6_3 => ?_)
        ·
          try with_reducible replace hs6_3 := of_decide_eq_true hs6_3
          refine WL_val (dd := some 36) rfl rfl rfl (r_move (v := .int .i64 _) rfl) ?_
          refine WL_val (dd := some 37) rfl rfl rfl (r_eql rfl rfl) ?_
          refine WL_val (dd := some 38) rfl rfl rfl (r_pick_t rfl (v := .bool _) rfl) ?_
          refine WL_split (dd := some 39) rfl rfl rfl (r_move (v := .bool _) rfl) (fun hs6_7 => ?_) (fun hs6_7 => ?_)
          ·
            try with_reducible replace hs6_7 := of_decide_eq_true hs6_7
            refine WL_call (dd := some 40) rfl rfl rfl (r_call0 tb_c58) (C_drawknifelaw10_knows _) (fun v6_8 W71 hE72 hP6_8 => ?_)
            have hsz73 := (Below.size hB)
            replace hB := below_ext hB hE72 (Nat.le_refl _)
            replace hm0_0 := hE72.at hm0_0
            replace ho_hP4_1 := hE72.ow ho_hP4_1
            clear hE72
            clear hsz73
            obtain rfl := hP6_8
            refine WL_val (dd := some 41) rfl rfl rfl (r_pick_t rfl (v := .bool _) rfl) ?_
            refine WL_val (dd := some 2) rfl rfl rfl (r_assign (v := .bool _) rfl) ?_
            refine WL_nil ?_
            refine hK70 _ _ ?_
            clear hK70 K69
            refine WC_ret ?_
            repeat (first | refine thenQ_ret ?_ | refine blockQ_ret ?_)
            try clear hK66 K65
            refine ret_t (v := .bool _) rfl ?_
            refine ⟨hB, ?_⟩
            rfl
          ·
            try with_reducible replace hs6_7 := of_decide_eq_false hs6_7
            exact absurd rfl hs6_7
        ·
          try with_reducible replace hs6_3 := of_decide_eq_false hs6_3
          exact absurd rfl hs6_3
      ·
        try with_reducible replace hc1 := of_decide_eq_false hc1
        refine WC_skip ?_
        refine hK66 _ _ ?_
        clear hK66 K65
        refine WC_seq (fun K74 hK75 => ?_)
        have hr : rightS S = true := not_f hc1
        obtain ⟨q2, q3⟩ := hc_hP4_1.elim (fun h => h.2) (fun h => absurd hr (by rw [h.1]; decide))
        subst q2 q3
        refine WC_region ?_
        refine WL_val (dd := some 42) rfl rfl rfl (r_move (v := x_hP4_1) rfl) ?_
        refine WL_val (dd := some 43) rfl rfl rfl (r_loadW rfl tb_ag64 rfl hm0_0) ?_
        refine WL_call (dd := some 44) rfl rfl rfl (r_call1 tb_c61 (v0 := .agg #[_, _, _]) rfl) (C_drawkniferef10_All S _ _  _ (Below.slT hB hon) (Below.slT hB hmay) hr) (fun v7_2 W76 hE77 hP7_2 => ?_)
        have hlt78 := OwT.lt2 ho_hP4_1
        have hsz79 := (Below.size hB)
        replace hB := below_ext hB hE77 (Nat.le_refl _)
        replace hm0_0 := hE77.at hm0_0
        replace ho_hP4_1 := hE77.ow ho_hP4_1
        clear hE77
        have hap80 := Apart.new hlt78 hP7_2
        replace hP7_2 := OwT.mono hP7_2 hsz79
        clear hsz79
        refine WL_call (dd := some 45) rfl rfl rfl (r_call2 tb_c60 (v0 := x_hP4_1) rfl (v1 := v7_2) rfl) (C_drawkniferef10_Same _ _ _ _ _ ho_hP4_1.sl hP7_2.sl (by have := allR_len hr; omega)) (fun v7_3 W81 hE82 hP7_3 => ?_)
        have hsz83 := (Below.size hB)
        replace hB := below_ext hB hE82 (Nat.le_refl _)
        replace hm0_0 := hE82.at hm0_0
        replace ho_hP4_1 := hE82.ow ho_hP4_1
        replace hP7_2 := hE82.ow hP7_2
        clear hE82
        clear hsz83
        obtain rfl := hP7_3
        refine WL_split (dd := some 46) rfl rfl rfl (r_move (v := .bool _) rfl) (fun hs7_4 => ?_) (fun hs7_4 => ?_)
        ·
          try with_reducible replace hs7_4 := of_decide_eq_true hs7_4
          refine WL_val (dd := some 47) rfl rfl rfl (r_move (v := .int .i64 _) rfl) ?_
          refine WL_val (dd := some 48) rfl rfl rfl (r_eql rfl rfl) ?_
          refine WL_val (dd := some 49) rfl rfl rfl (r_pick_t rfl (v := .bool _) rfl) ?_
          refine WL_split (dd := some 50) rfl rfl rfl (r_move (v := .bool _) rfl) (fun hs7_8 => ?_) (fun hs7_8 => ?_)
          ·
            try with_reducible replace hs7_8 := of_decide_eq_true hs7_8
            refine WL_call (dd := some 51) rfl rfl rfl (r_call0 tb_c58) (C_drawknifelaw10_knows _) (fun v7_9 W84 hE85 hP7_9 => ?_)
            have hsz86 := (Below.size hB)
            replace hB := below_ext hB hE85 (Nat.le_refl _)
            replace hm0_0 := hE85.at hm0_0
            replace ho_hP4_1 := hE85.ow ho_hP4_1
            replace hP7_2 := hE85.ow hP7_2
            clear hE85
            clear hsz86
            obtain rfl := hP7_9
            refine WL_val (dd := some 52) rfl rfl rfl (r_pick_t rfl (v := .bool _) rfl) ?_
            refine WL_val (dd := some 2) rfl rfl rfl (r_assign (v := .bool _) rfl) ?_
            refine WL_nil ?_
            refine hK75 _ _ ?_
            clear hK75 K74
            refine WC_ret ?_
            repeat (first | refine thenQ_ret ?_ | refine blockQ_ret ?_)
            refine ret_t (v := .bool _) rfl ?_
            refine ⟨hB, ?_⟩
            rfl
          ·
            try with_reducible replace hs7_8 := of_decide_eq_false hs7_8
            exact absurd rfl hs7_8
        ·
          try with_reducible replace hs7_4 := of_decide_eq_false hs7_4
          exact absurd rfl hs7_4

theorem C_drawknifelaw10_MultiTells (S : Sp) (onV mayV : Value) (x y : Rw) (w : World) (hon : SlT encS 4 w onV S.on) (hmay : SlT encS 4 w mayV S.may) (hbx : x.c.m < 256 ∧ x.c.v < 256 ∧ x.o < 256) (hby : y.c.m < 256 ∧ y.c.v < 256 ∧ y.o < 256) :
    Fn Try.prog 17 #[.agg #[.int .i64 S.n, onV, mayV], .agg #[.int .u8 (x.c.m : Int), .int .u8 (x.c.v : Int), .int .u8 (x.o : Int)], .agg #[.int .u8 (y.c.m : Int), .int .u8 (y.c.v : Int), .int .u8 (y.o : Int)]] w fun v w' => v = .bool true := by
  refine Fn_intro (n := 70) Try.func17 rfl rfl (Nat.le_of_ble_eq_true rfl) ?_
  have hB : Below w.heap.size w w := Below.refl _ _
  refine WC_seq (fun K1 hK2 => ?_)
  refine WC_region ?_
  refine WL_step (dd := some 3) rfl rfl rfl (Y_box (c := #[_, _, _]) rfl rfl (fun b0_0 W3 hb4 hE5 hm0_0 => ?_))
  have lo_b0_0 : w.heap.size ≤ b0_0 := hb4 ▸ (Below.size hB)
  clear hb4
  replace hB := below_ext hB hE5 (Nat.le_refl _)
  clear hE5
  refine WL_step (dd := some 4) rfl rfl rfl (Y_box (c := #[_, _, _]) rfl rfl (fun b0_1 W6 hb7 hE8 hm0_1 => ?_))
  have lo_b0_1 : w.heap.size ≤ b0_1 := hb7 ▸ (Below.size hB)
  clear hb7
  replace hB := below_ext hB hE8 (Nat.le_refl _)
  replace hm0_0 := hE8.at hm0_0
  clear hE8
  refine WL_step (dd := some 5) rfl rfl rfl (Y_box (c := #[_, _, _]) rfl rfl (fun b0_2 W9 hb10 hE11 hm0_2 => ?_))
  have lo_b0_2 : w.heap.size ≤ b0_2 := hb10 ▸ (Below.size hB)
  have ne_b0_1_b0_2 : b0_1 ≠ b0_2 := Nat.ne_of_lt (hb10 ▸ hm0_1.lt)
  clear hb10
  replace hB := below_ext hB hE11 (Nat.le_refl _)
  replace hm0_0 := hE11.at hm0_0
  replace hm0_1 := hE11.at hm0_1
  clear hE11
  refine WL_val (dd := some 6) rfl rfl rfl (r_assign (v := .bool false) rfl) ?_
  refine WL_nil ?_
  refine hK2 _ _ ?_
  clear hK2 K1
  refine WC_seq (fun K12 hK13 => ?_)
  refine WC_seq (fun K14 hK15 => ?_)
  refine WC_region ?_
  refine WL_val (dd := some 10) rfl rfl rfl (r_loadW rfl tb_ag64 rfl hm0_0) ?_
  refine WL_call (dd := some 11) rfl rfl rfl (r_call1 tb_c57 (v0 := .agg #[_, _, _]) rfl) (C_drawknifelaw10_Great S _ _  _ (Below.slT hB hon) (Below.slT hB hmay) ) (fun v1_1 W16 hE17 hP1_1 => ?_)
  have hsz18 := (Below.size hB)
  replace hB := below_ext hB hE17 (Nat.le_refl _)
  replace hm0_0 := hE17.at hm0_0
  replace hm0_1 := hE17.at hm0_1
  replace hm0_2 := hE17.at hm0_2
  clear hE17
  clear hsz18
  obtain rfl := hP1_1
  refine WL_nil ?_
  refine hK15 _ _ ?_
  clear hK15 K14
  refine WC_cond (b := _) rfl (fun hc0 => ?_) (fun hc0 => ?_)
  ·
    try with_reducible replace hc0 := of_decide_eq_true hc0
    refine WC_seq (fun K19 hK20 => ?_)
    refine WC_region ?_
    refine WL_call (dd := some 12) rfl rfl rfl (r_call0 tb_c58) (C_drawknifelaw10_knows _) (fun v2_0 W21 hE22 hP2_0 => ?_)
    have hsz23 := (Below.size hB)
    replace hB := below_ext hB hE22 (Nat.le_refl _)
    replace hm0_0 := hE22.at hm0_0
    replace hm0_1 := hE22.at hm0_1
    replace hm0_2 := hE22.at hm0_2
    clear hE22
    clear hsz23
    obtain rfl := hP2_0
    refine WL_val (dd := some 6) rfl rfl rfl (r_assign (v := .bool _) rfl) ?_
    refine WL_nil ?_
    refine hK20 _ _ ?_
    clear hK20 K19
    refine WC_ret ?_
    repeat (first | refine thenQ_ret ?_ | refine blockQ_ret ?_)
    try clear hK13 K12
    refine ret_t (v := .bool _) rfl ?_
    refine ⟨hB, ?_⟩
    rfl
  ·
    try with_reducible replace hc0 := of_decide_eq_false hc0
    refine WC_skip ?_
    refine hK13 _ _ ?_
    clear hK13 K12
    refine WC_seq (fun K24 hK25 => ?_)
    refine WC_region ?_
    refine WL_val (dd := some 14) rfl rfl rfl (r_loadW rfl tb_ag64 rfl hm0_0) ?_
    refine WL_val (dd := some 15) rfl rfl rfl (r_loadW rfl tb_ag79 rfl hm0_1) ?_
    refine WL_call (dd := some 16) rfl rfl rfl (r_call2 tb_c62 (v0 := .agg #[_, _, _]) rfl (v1 := .agg #[_, _, _]) rfl) (C_multi_Grow S _ _ x _ (Below.slT hB hon) (Below.slT hB hmay) hbx) (fun v3_2 W26 hE27 hP3_2 => ?_)
    have hsz28 := (Below.size hB)
    replace hB := below_ext hB hE27 (Nat.le_refl _)
    replace hm0_0 := hE27.at hm0_0
    replace hm0_1 := hE27.at hm0_1
    replace hm0_2 := hE27.at hm0_2
    clear hE27
    obtain ⟨g_hP3_2, er_hP3_2, rfl, hg_hP3_2⟩ := grow_cases hP3_2
    clear hsz28
    refine WL_val (dd := some 13) rfl rfl rfl (r_move (v := .tuple #[.agg #[_, _, _], .int .i64 _]) rfl) ?_
    refine WL_val (dd := some 17) rfl rfl rfl (r_ext2_0 (h := rfl)) ?_
    refine WL_val (dd := some 18) rfl rfl rfl (r_ext2_1 (h := rfl)) ?_
    refine WL_step (dd := some 7) rfl rfl rfl (Y_alloc tb_z79 rfl (fun b3_6 W29 hb30 hE31 hm3_6 => ?_))
    have lo_b3_6 : w.heap.size ≤ b3_6 := hb30 ▸ (Below.size hB)
    have ne_b0_1_b3_6 : b0_1 ≠ b3_6 := Nat.ne_of_lt (hb30 ▸ hm0_1.lt)
    have ne_b0_2_b3_6 : b0_2 ≠ b3_6 := Nat.ne_of_lt (hb30 ▸ hm0_2.lt)
    clear hb30
    replace hB := below_ext hB hE31 (Nat.le_refl _)
    replace hm0_0 := hE31.at hm0_0
    replace hm0_1 := hE31.at hm0_1
    replace hm0_2 := hE31.at hm0_2
    clear hE31
    refine WL_step (dd := none) rfl rfl rfl (Y_storeW rfl rfl tb_ag79 rfl hm3_6 rfl (by rfl) (fun W32 hG33 hm34 => ?_))
    replace hB := below_grown hB hG33 (Nat.le_refl _) (fun j hj => by cases hj; exact lo_b3_6)
    replace hm0_0 := At.grownAt hm0_0 hm3_6 hG33 (by decide)
    replace hm0_1 := At.grownNe hm0_1 ne_b0_1_b3_6 hG33
    replace hm0_2 := At.grownNe hm0_2 ne_b0_2_b3_6 hG33
    clear hG33 hm3_6
    have hm3_6 := hm34
    clear hm34
    refine WL_val (dd := some 8) rfl rfl rfl (r_assign (v := .int .i64 _) rfl) ?_
    refine WL_nil ?_
    refine hK25 _ _ ?_
    clear hK25 K24
    refine WC_seq (fun K35 hK36 => ?_)
    refine WC_region ?_
    refine WL_val (dd := some 19) rfl rfl rfl (r_loadW rfl tb_ag64 rfl hm0_0) ?_
    refine WL_call (dd := some 20) rfl rfl rfl (r_call1 tb_c56 (v0 := .agg #[_, _, _]) rfl) (C_drawkniferef04_Right S _ _  _ (Below.slT hB hon) (Below.slT hB hmay) ) (fun v4_1 W37 hE38 hP4_1 => ?_)
    have hsz39 := (Below.size hB)
    replace hB := below_ext hB hE38 (Nat.le_refl _)
    replace hm0_0 := hE38.at hm0_0
    replace hm0_1 := hE38.at hm0_1
    replace hm0_2 := hE38.at hm0_2
    replace hm3_6 := hE38.at hm3_6
    clear hE38
    clear hsz39
    obtain rfl := hP4_1
    refine WL_split (dd := some 21) rfl rfl rfl (r_move (v := .bool _) rfl) (fun hs4_2 => ?_) (fun hs4_2 => ?_)
    ·
      try with_reducible replace hs4_2 := of_decide_eq_true hs4_2
      refine WL_val (dd := some 22) rfl rfl rfl (r_loadW rfl tb_ag64 rfl hm0_0) ?_
      refine WL_val (dd := some 23) rfl rfl rfl (r_loadW rfl tb_ag79 rfl hm0_1) ?_
      refine WL_call (dd := some 24) rfl rfl rfl (r_call2 tb_c65 (v0 := .agg #[_, _, _]) rfl (v1 := .agg #[_, _, _]) rfl) (C_drawkniferef10_Within S _ _ _ _ _ _ (Below.slT hB hon) (Below.slT hB hmay) hs4_2 hbx.1 hbx.2.1 hbx.2.2) (fun v4_5 W40 hE41 hP4_5 => ?_)
      have hsz42 := (Below.size hB)
      replace hB := below_ext hB hE41 (Nat.le_refl _)
      replace hm0_0 := hE41.at hm0_0
      replace hm0_1 := hE41.at hm0_1
      replace hm0_2 := hE41.at hm0_2
      replace hm3_6 := hE41.at hm3_6
      clear hE41
      clear hsz42
      obtain rfl := hP4_5
      refine WL_val (dd := some 25) rfl rfl rfl (r_pick_t rfl (v := .bool _) rfl) ?_
      refine WL_val (dd := some 9) rfl rfl rfl (r_assign (v := .bool _) rfl) ?_
      refine WL_nil ?_
      refine hK36 _ _ ?_
      clear hK36 K35
      refine WC_seq (fun K43 hK44 => ?_)
      refine WC_seq (fun K45 hK46 => ?_)
      refine WC_draw Ext tb_mix (fun W47 hE48 => ?_)
      replace hB := below_ext hB hE48 (Nat.le_refl _)
      replace hm0_0 := hE48.at hm0_0
      replace hm0_1 := hE48.at hm0_1
      replace hm0_2 := hE48.at hm0_2
      replace hm3_6 := hE48.at hm3_6
      have hS := Ext.refl W47
      refine WT_take (dd := some 26) 0 rfl (by kernel_rfl) (by kernel_rfl) (by kernel_rfl) rfl rfl rfl (fun _wq hq => r_loadW rfl tb_ag64 rfl (hq.at hm0_0)) hS ?_
      refine WT_take (dd := some 27) 1 rfl (by kernel_rfl) (by kernel_rfl) (by kernel_rfl) rfl rfl rfl (fun _wq hq => r_loadW rfl tb_ag79 rfl (hq.at hm0_1)) hS ?_
      refine WT_take (dd := some 29) 3 rfl (by kernel_rfl) (by kernel_rfl) (by kernel_rfl) rfl rfl rfl (fun _wq _hq => r_move (v := .bool _) rfl) hS ?_
      refine WT_one (dd := some 28) 2 (by kernel_rfl) rfl rfl rfl rfl (Yd.call (r_call2 tb_c68 (v0 := .agg #[_, _, _]) rfl (v1 := .agg #[_, _, _]) rfl) (C_multi_Within S _ _ _ _ _ _ (Below.slT hB hon) (Below.slT hB hmay) hbx.1 hbx.2.1 hbx.2.2) (fun v5_2 W49 hE50 hP5_2 => ⟨.inl (hS.trans hE50), ?_⟩))
      have hsz51 := (Below.size hB)
      have sv52_hB := hB
      have sv52_hm0_0 := hm0_0
      have sv52_hm0_1 := hm0_1
      have sv52_hm0_2 := hm0_2
      have sv52_hm3_6 := hm3_6
      replace hB := below_ext hB hE50 (Nat.le_refl _)
      replace hm0_0 := hE50.at hm0_0
      replace hm0_1 := hE50.at hm0_1
      replace hm0_2 := hE50.at hm0_2
      replace hm3_6 := hE50.at hm3_6
      replace hS := hS.trans hE50
      clear hE50
      clear hsz51
      obtain rfl := hP5_2
      refine WT_take (dd := some 30) 4 rfl (by kernel_rfl) (by kernel_rfl) (by kernel_rfl) rfl rfl rfl (fun _wq _hq => r_neqB rfl rfl Try.underlying4) hS ?_
      refine WT_split (dd := some 31) 5 rfl (by kernel_rfl) (by kernel_rfl) (by kernel_rfl) rfl rfl rfl (fun wq hq => r_move (v := .bool _) rfl) hS (fun hs5_5 => ?_) (fun hs5_5 => ?_)
      ·
        try with_reducible replace hs5_5 := of_decide_eq_true hs5_5
        first | exact absurd rfl hs5_5 | exact absurd (show inR S x = false from Bool.eq_false_iff.2 (in_v3 hs4_2)) hs5_5
      ·
        try with_reducible replace hs5_5 := of_decide_eq_false hs5_5
        refine WT_take (dd := some 32) 6 rfl (by kernel_rfl) (by kernel_rfl) (by kernel_rfl) rfl rfl rfl (fun _wq hq => r_loadW rfl tb_ag79 rfl (hq.at sv52_hm0_1)) hS ?_
        refine WT_take (dd := some 33) 7 rfl (by kernel_rfl) (by kernel_rfl) (by kernel_rfl) rfl rfl rfl (fun _wq hq => r_loadW rfl tb_ag79 rfl (hq.at sv52_hm0_2)) hS ?_
        refine WT_take (dd := some 35) 9 rfl (by kernel_rfl) (by kernel_rfl) (by kernel_rfl) rfl rfl rfl (fun _wq hq => r_loadW rfl tb_ag79 rfl (hq.at sv52_hm0_1)) hS ?_
        refine WT_take (dd := some 36) 10 rfl (by kernel_rfl) (by kernel_rfl) (by kernel_rfl) rfl rfl rfl (fun _wq hq => r_loadW rfl tb_ag79 rfl (hq.at sv52_hm0_2)) hS ?_
        refine WT_one (dd := some 34) 8 (by kernel_rfl) rfl rfl rfl rfl (Yd.call (r_call2 tb_c69 (v0 := .agg #[_, _, _]) rfl (v1 := .agg #[_, _, _]) rfl) (C_multi_Holds _ _ _ _ _ _ _ hbx.1 hbx.2.1 hbx.2.2 hby.1 hby.2.1 hby.2.2) (fun v5_8 W53 hE54 hP5_8 => ⟨.inl (hS.trans hE54), ?_⟩))
        have hsz55 := (Below.size hB)
        replace hB := below_ext hB hE54 (Nat.le_refl _)
        replace hm0_0 := hE54.at hm0_0
        replace hm0_1 := hE54.at hm0_1
        replace hm0_2 := hE54.at hm0_2
        replace hm3_6 := hE54.at hm3_6
        replace hS := hS.trans hE54
        clear hE54
        clear hsz55
        obtain rfl := hP5_8
        refine WT_one (dd := some 37) 11 (by kernel_rfl) rfl rfl rfl rfl (Yd.call (r_call2 tb_c64 (v0 := .agg #[_, _, _]) rfl (v1 := .agg #[_, _, _]) rfl) (C_drawkniferef10_Holds x y _ hbx hby) (fun v5_11 W56 hE57 hP5_11 => ⟨.inl (hS.trans hE57), ?_⟩))
        have hsz58 := (Below.size hB)
        replace hB := below_ext hB hE57 (Nat.le_refl _)
        replace hm0_0 := hE57.at hm0_0
        replace hm0_1 := hE57.at hm0_1
        replace hm0_2 := hE57.at hm0_2
        replace hm3_6 := hE57.at hm3_6
        replace hS := hS.trans hE57
        clear hE57
        clear hsz58
        obtain rfl := hP5_11
        refine WT_take (dd := some 38) 12 rfl (by kernel_rfl) (by kernel_rfl) (by kernel_rfl) rfl rfl rfl (fun _wq _hq => r_neqB rfl rfl Try.underlying4) hS ?_
        refine WT_take (dd := some 39) 13 rfl (by kernel_rfl) (by kernel_rfl) (by kernel_rfl) rfl rfl rfl (fun _wq _hq => r_pick_f rfl (v := .bool _) rfl) hS ?_
        refine WT_done (by kernel_rfl) ?_
        try clear sv52_hB sv52_hm0_0 sv52_hm0_1 sv52_hm0_2 sv52_hm3_6
        refine hK46 _ _ ?_
        clear hK46 K45
        refine WC_cond (b := _) rfl (fun hc1 => ?_) (fun hc1 => ?_)
        ·
          try with_reducible replace hc1 := of_decide_eq_true hc1
          first | exact absurd rfl hc1 | exact absurd (show inR S x = false from Bool.eq_false_iff.2 (in_v3 hs4_2)) hc1
        ·
          try with_reducible replace hc1 := of_decide_eq_false hc1
          refine WC_skip ?_
          refine hK44 _ _ ?_
          clear hK44 K43
          refine WC_seq (fun K59 hK60 => ?_)
          refine WC_seq (fun K61 hK62 => ?_)
          refine WC_region ?_
          refine WL_val (dd := some 40) rfl rfl rfl (r_move (v := .bool _) rfl) ?_
          refine WL_val (dd := some 41) rfl rfl rfl (r_not rfl) ?_
          refine WL_nil ?_
          refine hK62 _ _ ?_
          clear hK62 K61
          refine WC_cond (b := _) rfl (fun hc2 => ?_) (fun hc2 => ?_)
          ·
            try with_reducible replace hc2 := of_decide_eq_true hc2
            refine WC_seq (fun K63 hK64 => ?_)
            have hi : inR S x = false := by first | exact not_t hc2 | exact Bool.eq_false_iff.2 (in_v3 hs4_2)
            obtain ⟨q2, q3⟩ := (hg_hP3_2.resolve_left (fun h => Bool.noConfusion (h.1.symm.trans hi))).2
            subst q2 q3
            refine WC_region ?_
            refine WL_val (dd := some 42) rfl rfl rfl (r_loadW rfl tb_ag79 rfl hm3_6) ?_
            refine WL_val (dd := some 43) rfl rfl rfl (tb_build79_ ) ?_
            refine WL_val (dd := some 44) rfl rfl rfl (tb_eq79 rfl rfl) ?_
            refine WL_split (dd := some 45) rfl rfl rfl (r_move (v := .bool _) rfl) (fun hs8_3 => ?_) (fun hs8_3 => ?_)
            ·
              try with_reducible replace hs8_3 := of_decide_eq_true hs8_3
              refine WL_val (dd := some 46) rfl rfl rfl (r_move (v := .int .i64 _) rfl) ?_
              refine WL_val (dd := some 47) rfl rfl rfl (r_eql rfl rfl) ?_
              refine WL_val (dd := some 48) rfl rfl rfl (r_pick_t rfl (v := .bool _) rfl) ?_
              refine WL_split (dd := some 49) rfl rfl rfl (r_move (v := .bool _) rfl) (fun hs8_7 => ?_) (fun hs8_7 => ?_)
              ·
                try with_reducible replace hs8_7 := of_decide_eq_true hs8_7
                refine WL_val (dd := some 50) rfl rfl rfl (r_loadW rfl tb_ag64 rfl hm0_0) ?_
                refine WL_val (dd := some 51) rfl rfl rfl (r_loadW rfl tb_ag79 rfl hm0_1) ?_
                refine WL_call (dd := some 52) rfl rfl rfl (r_call2 tb_c63 (v0 := .agg #[_, _, _]) rfl (v1 := .agg #[_, _, _]) rfl) (C_multi_Prime S _ _ x _ (Below.slT hB hon) (Below.slT hB hmay) hbx) (fun v8_10 W65 hE66 hP8_10 => ?_)
                have hsz67 := (Below.size hB)
                replace hB := below_ext hB hE66 (Nat.le_refl _)
                replace hm0_0 := hE66.at hm0_0
                replace hm0_1 := hE66.at hm0_1
                replace hm0_2 := hE66.at hm0_2
                replace hm3_6 := hE66.at hm3_6
                clear hE66
                clear hsz67
                obtain rfl := hP8_10
                refine WL_val (dd := some 53) rfl rfl rfl (r_not rfl) ?_
                refine WL_val (dd := some 54) rfl rfl rfl (r_pick_t rfl (v := .bool _) rfl) ?_
                refine WL_split (dd := some 55) rfl rfl rfl (r_move (v := .bool _) rfl) (fun hs8_13 => ?_) (fun hs8_13 => ?_)
                ·
                  try with_reducible replace hs8_13 := of_decide_eq_true hs8_13
                  refine WL_call (dd := some 56) rfl rfl rfl (r_call0 tb_c58) (C_drawknifelaw10_knows _) (fun v8_14 W68 hE69 hP8_14 => ?_)
                  have hsz70 := (Below.size hB)
                  replace hB := below_ext hB hE69 (Nat.le_refl _)
                  replace hm0_0 := hE69.at hm0_0
                  replace hm0_1 := hE69.at hm0_1
                  replace hm0_2 := hE69.at hm0_2
                  replace hm3_6 := hE69.at hm3_6
                  clear hE69
                  clear hsz70
                  obtain rfl := hP8_14
                  refine WL_val (dd := some 57) rfl rfl rfl (r_pick_t rfl (v := .bool _) rfl) ?_
                  refine WL_val (dd := some 6) rfl rfl rfl (r_assign (v := .bool _) rfl) ?_
                  refine WL_nil ?_
                  refine hK64 _ _ ?_
                  clear hK64 K63
                  refine WC_ret ?_
                  repeat (first | refine thenQ_ret ?_ | refine blockQ_ret ?_)
                  try clear hK60 K59
                  refine ret_t (v := .bool _) rfl ?_
                  refine ⟨hB, ?_⟩
                  rfl
                ·
                  try with_reducible replace hs8_13 := of_decide_eq_false hs8_13
                  exact absurd (not_f hs8_13) (pr_v3 hi)
              ·
                try with_reducible replace hs8_7 := of_decide_eq_false hs8_7
                exact absurd rfl hs8_7
            ·
              try with_reducible replace hs8_3 := of_decide_eq_false hs8_3
              exact absurd ⟨rfl, rfl, rfl⟩ hs8_3
          ·
            try with_reducible replace hc2 := of_decide_eq_false hc2
            refine WC_skip ?_
            refine hK60 _ _ ?_
            clear hK60 K59
            refine WC_seq (fun K71 hK72 => ?_)
            have hi : inR S x = true := by first | exact not_f hc2 | exact absurd hc2 (by decide)
            obtain ⟨q2, q3⟩ := (hg_hP3_2.resolve_right (fun h => Bool.noConfusion (h.1.symm.trans hi))).2
            subst q2 q3
            refine WC_draw Ext tb_mix (fun W73 hE74 => ?_)
            replace hB := below_ext hB hE74 (Nat.le_refl _)
            replace hm0_0 := hE74.at hm0_0
            replace hm0_1 := hE74.at hm0_1
            replace hm0_2 := hE74.at hm0_2
            replace hm3_6 := hE74.at hm3_6
            have hS := Ext.refl W73
            refine WT_take (dd := some 58) 0 rfl (by kernel_rfl) (by kernel_rfl) (by kernel_rfl) rfl rfl rfl (fun _wq hq => r_loadW rfl tb_ag79 rfl (hq.at hm3_6)) hS ?_
            refine WT_take (dd := some 59) 1 rfl (by kernel_rfl) (by kernel_rfl) (by kernel_rfl) rfl rfl rfl (fun _wq hq => r_loadW rfl tb_ag64 rfl (hq.at hm0_0)) hS ?_
            refine WT_take (dd := some 60) 2 rfl (by kernel_rfl) (by kernel_rfl) (by kernel_rfl) rfl rfl rfl (fun _wq hq => r_loadW rfl tb_ag79 rfl (hq.at hm0_1)) hS ?_
            refine WT_one (dd := some 61) 3 (by kernel_rfl) rfl rfl rfl rfl (Yd.call (r_call2 tb_c70 (v0 := .agg #[_, _, _]) rfl (v1 := .agg #[_, _, _]) rfl) (C_drawkniferef10_Grow S _ _ x _ (Below.slT hB hon) (Below.slT hB hmay) hi hbx) (fun v9_3 W75 hE76 hP9_3 => ⟨.inl (hS.trans hE76), ?_⟩))
            have hsz77 := (Below.size hB)
            have sv78_hB := hB
            have sv78_hm0_0 := hm0_0
            have sv78_hm0_1 := hm0_1
            have sv78_hm0_2 := hm0_2
            have sv78_hm3_6 := hm3_6
            replace hB := below_ext hB hE76 (Nat.le_refl _)
            replace hm0_0 := hE76.at hm0_0
            replace hm0_1 := hE76.at hm0_1
            replace hm0_2 := hE76.at hm0_2
            replace hm3_6 := hE76.at hm3_6
            replace hS := hS.trans hE76
            clear hE76
            clear hsz77
            obtain rfl := hP9_3
            refine WT_take (dd := some 62) 4 rfl (by kernel_rfl) (by kernel_rfl) (by kernel_rfl) rfl rfl rfl (fun _wq _hq => tb_eq79 rfl rfl) hS ?_
            refine WT_split (dd := some 63) 5 rfl (by kernel_rfl) (by kernel_rfl) (by kernel_rfl) rfl rfl rfl (fun wq hq => r_move (v := .bool _) rfl) hS (fun hs9_5 => ?_) (fun hs9_5 => ?_)
            ·
              try with_reducible replace hs9_5 := of_decide_eq_true hs9_5
              refine WT_take (dd := some 64) 6 rfl (by kernel_rfl) (by kernel_rfl) (by kernel_rfl) rfl rfl rfl (fun _wq _hq => r_move (v := .int .i64 _) rfl) hS ?_
              refine WT_take (dd := some 65) 7 rfl (by kernel_rfl) (by kernel_rfl) (by kernel_rfl) rfl rfl rfl (fun _wq _hq => r_eql rfl rfl) hS ?_
              refine WT_take (dd := some 66) 8 rfl (by kernel_rfl) (by kernel_rfl) (by kernel_rfl) rfl rfl rfl (fun _wq _hq => r_pick_t rfl (v := .bool _) rfl) hS ?_
              refine WT_split (dd := some 67) 9 rfl (by kernel_rfl) (by kernel_rfl) (by kernel_rfl) rfl rfl rfl (fun wq hq => r_move (v := .bool _) rfl) hS (fun hs9_9 => ?_) (fun hs9_9 => ?_)
              ·
                try with_reducible replace hs9_9 := of_decide_eq_true hs9_9
                refine WT_one (dd := some 68) 10 (by kernel_rfl) rfl rfl rfl rfl (Yd.call (r_call0 tb_c58) (C_drawknifelaw10_knows _) (fun v9_10 W79 hE80 hP9_10 => ⟨.inl (hS.trans hE80), ?_⟩))
                have hsz81 := (Below.size hB)
                replace hB := below_ext hB hE80 (Nat.le_refl _)
                replace hm0_0 := hE80.at hm0_0
                replace hm0_1 := hE80.at hm0_1
                replace hm0_2 := hE80.at hm0_2
                replace hm3_6 := hE80.at hm3_6
                replace hS := hS.trans hE80
                clear hE80
                clear hsz81
                obtain rfl := hP9_10
                refine WT_take (dd := some 69) 11 rfl (by kernel_rfl) (by kernel_rfl) (by kernel_rfl) rfl rfl rfl (fun _wq _hq => r_pick_t rfl (v := .bool _) rfl) hS ?_
                refine WT_take (dd := some 6) 12 rfl (by kernel_rfl) (by kernel_rfl) (by kernel_rfl) rfl rfl rfl (fun _wq _hq => r_assign (v := .bool _) rfl) hS ?_
                refine WT_done (by kernel_rfl) ?_
                try clear sv78_hB sv78_hm0_0 sv78_hm0_1 sv78_hm0_2 sv78_hm3_6
                refine hK72 _ _ ?_
                clear hK72 K71
                refine WC_ret ?_
                repeat (first | refine thenQ_ret ?_ | refine blockQ_ret ?_)
                refine ret_t (v := .bool _) rfl ?_
                refine ⟨hB, ?_⟩
                rfl
              ·
                try with_reducible replace hs9_9 := of_decide_eq_false hs9_9
                exact absurd rfl hs9_9
            ·
              try with_reducible replace hs9_5 := of_decide_eq_false hs9_5
              exact absurd ⟨rfl, rfl, rfl⟩ hs9_5
    ·
      try with_reducible replace hs4_2 := of_decide_eq_false hs4_2
      refine WL_skip (dd := some 22) rfl rfl rfl ?_
      refine WL_skip (dd := some 23) rfl rfl rfl ?_
      refine WL_skip (dd := some 24) rfl rfl rfl ?_
      refine WL_val (dd := some 25) rfl rfl rfl (r_pick_f rfl (v := .bool false) rfl) ?_
      refine WL_val (dd := some 9) rfl rfl rfl (r_assign (v := .bool false) rfl) ?_
      refine WL_nil ?_
      refine hK36 _ _ ?_
      clear hK36 K35
      refine WC_seq (fun K82 hK83 => ?_)
      refine WC_seq (fun K84 hK85 => ?_)
      refine WC_draw Ext tb_mix (fun W86 hE87 => ?_)
      replace hB := below_ext hB hE87 (Nat.le_refl _)
      replace hm0_0 := hE87.at hm0_0
      replace hm0_1 := hE87.at hm0_1
      replace hm0_2 := hE87.at hm0_2
      replace hm3_6 := hE87.at hm3_6
      have hS := Ext.refl W86
      refine WT_take (dd := some 26) 0 rfl (by kernel_rfl) (by kernel_rfl) (by kernel_rfl) rfl rfl rfl (fun _wq hq => r_loadW rfl tb_ag64 rfl (hq.at hm0_0)) hS ?_
      refine WT_take (dd := some 27) 1 rfl (by kernel_rfl) (by kernel_rfl) (by kernel_rfl) rfl rfl rfl (fun _wq hq => r_loadW rfl tb_ag79 rfl (hq.at hm0_1)) hS ?_
      refine WT_take (dd := some 29) 3 rfl (by kernel_rfl) (by kernel_rfl) (by kernel_rfl) rfl rfl rfl (fun _wq _hq => r_move (v := .bool false) rfl) hS ?_
      refine WT_one (dd := some 28) 2 (by kernel_rfl) rfl rfl rfl rfl (Yd.call (r_call2 tb_c68 (v0 := .agg #[_, _, _]) rfl (v1 := .agg #[_, _, _]) rfl) (C_multi_Within S _ _ _ _ _ _ (Below.slT hB hon) (Below.slT hB hmay) hbx.1 hbx.2.1 hbx.2.2) (fun v5_2 W88 hE89 hP5_2 => ⟨.inl (hS.trans hE89), ?_⟩))
      have hsz90 := (Below.size hB)
      have sv91_hB := hB
      have sv91_hm0_0 := hm0_0
      have sv91_hm0_1 := hm0_1
      have sv91_hm0_2 := hm0_2
      have sv91_hm3_6 := hm3_6
      replace hB := below_ext hB hE89 (Nat.le_refl _)
      replace hm0_0 := hE89.at hm0_0
      replace hm0_1 := hE89.at hm0_1
      replace hm0_2 := hE89.at hm0_2
      replace hm3_6 := hE89.at hm3_6
      replace hS := hS.trans hE89
      clear hE89
      clear hsz90
      obtain rfl := hP5_2
      refine WT_take (dd := some 30) 4 rfl (by kernel_rfl) (by kernel_rfl) (by kernel_rfl) rfl rfl rfl (fun _wq _hq => r_neqB rfl rfl Try.underlying4) hS ?_
      refine WT_split (dd := some 31) 5 rfl (by kernel_rfl) (by kernel_rfl) (by kernel_rfl) rfl rfl rfl (fun wq hq => r_move (v := .bool _) rfl) hS (fun hs5_5 => ?_) (fun hs5_5 => ?_)
      ·
        try with_reducible replace hs5_5 := of_decide_eq_true hs5_5
        first | exact absurd rfl hs5_5 | exact absurd (show inR S x = false from Bool.eq_false_iff.2 (in_v3 hs4_2)) hs5_5
      ·
        try with_reducible replace hs5_5 := of_decide_eq_false hs5_5
        refine WT_take (dd := some 32) 6 rfl (by kernel_rfl) (by kernel_rfl) (by kernel_rfl) rfl rfl rfl (fun _wq hq => r_loadW rfl tb_ag79 rfl (hq.at sv91_hm0_1)) hS ?_
        refine WT_take (dd := some 33) 7 rfl (by kernel_rfl) (by kernel_rfl) (by kernel_rfl) rfl rfl rfl (fun _wq hq => r_loadW rfl tb_ag79 rfl (hq.at sv91_hm0_2)) hS ?_
        refine WT_take (dd := some 35) 9 rfl (by kernel_rfl) (by kernel_rfl) (by kernel_rfl) rfl rfl rfl (fun _wq hq => r_loadW rfl tb_ag79 rfl (hq.at sv91_hm0_1)) hS ?_
        refine WT_take (dd := some 36) 10 rfl (by kernel_rfl) (by kernel_rfl) (by kernel_rfl) rfl rfl rfl (fun _wq hq => r_loadW rfl tb_ag79 rfl (hq.at sv91_hm0_2)) hS ?_
        refine WT_one (dd := some 34) 8 (by kernel_rfl) rfl rfl rfl rfl (Yd.call (r_call2 tb_c69 (v0 := .agg #[_, _, _]) rfl (v1 := .agg #[_, _, _]) rfl) (C_multi_Holds _ _ _ _ _ _ _ hbx.1 hbx.2.1 hbx.2.2 hby.1 hby.2.1 hby.2.2) (fun v5_8 W92 hE93 hP5_8 => ⟨.inl (hS.trans hE93), ?_⟩))
        have hsz94 := (Below.size hB)
        replace hB := below_ext hB hE93 (Nat.le_refl _)
        replace hm0_0 := hE93.at hm0_0
        replace hm0_1 := hE93.at hm0_1
        replace hm0_2 := hE93.at hm0_2
        replace hm3_6 := hE93.at hm3_6
        replace hS := hS.trans hE93
        clear hE93
        clear hsz94
        obtain rfl := hP5_8
        refine WT_one (dd := some 37) 11 (by kernel_rfl) rfl rfl rfl rfl (Yd.call (r_call2 tb_c64 (v0 := .agg #[_, _, _]) rfl (v1 := .agg #[_, _, _]) rfl) (C_drawkniferef10_Holds x y _ hbx hby) (fun v5_11 W95 hE96 hP5_11 => ⟨.inl (hS.trans hE96), ?_⟩))
        have hsz97 := (Below.size hB)
        replace hB := below_ext hB hE96 (Nat.le_refl _)
        replace hm0_0 := hE96.at hm0_0
        replace hm0_1 := hE96.at hm0_1
        replace hm0_2 := hE96.at hm0_2
        replace hm3_6 := hE96.at hm3_6
        replace hS := hS.trans hE96
        clear hE96
        clear hsz97
        obtain rfl := hP5_11
        refine WT_take (dd := some 38) 12 rfl (by kernel_rfl) (by kernel_rfl) (by kernel_rfl) rfl rfl rfl (fun _wq _hq => r_neqB rfl rfl Try.underlying4) hS ?_
        refine WT_take (dd := some 39) 13 rfl (by kernel_rfl) (by kernel_rfl) (by kernel_rfl) rfl rfl rfl (fun _wq _hq => r_pick_f rfl (v := .bool _) rfl) hS ?_
        refine WT_done (by kernel_rfl) ?_
        try clear sv91_hB sv91_hm0_0 sv91_hm0_1 sv91_hm0_2 sv91_hm3_6
        refine hK85 _ _ ?_
        clear hK85 K84
        refine WC_cond (b := _) rfl (fun hc1 => ?_) (fun hc1 => ?_)
        ·
          try with_reducible replace hc1 := of_decide_eq_true hc1
          first | exact absurd rfl hc1 | exact absurd (show inR S x = false from Bool.eq_false_iff.2 (in_v3 hs4_2)) hc1
        ·
          try with_reducible replace hc1 := of_decide_eq_false hc1
          refine WC_skip ?_
          refine hK83 _ _ ?_
          clear hK83 K82
          refine WC_seq (fun K98 hK99 => ?_)
          refine WC_seq (fun K100 hK101 => ?_)
          refine WC_region ?_
          refine WL_val (dd := some 40) rfl rfl rfl (r_move (v := .bool false) rfl) ?_
          refine WL_val (dd := some 41) rfl rfl rfl (r_not rfl) ?_
          refine WL_nil ?_
          refine hK101 _ _ ?_
          clear hK101 K100
          refine WC_cond (b := _) rfl (fun hc2 => ?_) (fun hc2 => ?_)
          ·
            try with_reducible replace hc2 := of_decide_eq_true hc2
            refine WC_seq (fun K102 hK103 => ?_)
            have hi : inR S x = false := by first | exact not_t hc2 | exact Bool.eq_false_iff.2 (in_v3 hs4_2)
            obtain ⟨q2, q3⟩ := (hg_hP3_2.resolve_left (fun h => Bool.noConfusion (h.1.symm.trans hi))).2
            subst q2 q3
            refine WC_region ?_
            refine WL_val (dd := some 42) rfl rfl rfl (r_loadW rfl tb_ag79 rfl hm3_6) ?_
            refine WL_val (dd := some 43) rfl rfl rfl (tb_build79_ ) ?_
            refine WL_val (dd := some 44) rfl rfl rfl (tb_eq79 rfl rfl) ?_
            refine WL_split (dd := some 45) rfl rfl rfl (r_move (v := .bool _) rfl) (fun hs8_3 => ?_) (fun hs8_3 => ?_)
            ·
              try with_reducible replace hs8_3 := of_decide_eq_true hs8_3
              refine WL_val (dd := some 46) rfl rfl rfl (r_move (v := .int .i64 _) rfl) ?_
              refine WL_val (dd := some 47) rfl rfl rfl (r_eql rfl rfl) ?_
              refine WL_val (dd := some 48) rfl rfl rfl (r_pick_t rfl (v := .bool _) rfl) ?_
              refine WL_split (dd := some 49) rfl rfl rfl (r_move (v := .bool _) rfl) (fun hs8_7 => ?_) (fun hs8_7 => ?_)
              ·
                try with_reducible replace hs8_7 := of_decide_eq_true hs8_7
                refine WL_val (dd := some 50) rfl rfl rfl (r_loadW rfl tb_ag64 rfl hm0_0) ?_
                refine WL_val (dd := some 51) rfl rfl rfl (r_loadW rfl tb_ag79 rfl hm0_1) ?_
                refine WL_call (dd := some 52) rfl rfl rfl (r_call2 tb_c63 (v0 := .agg #[_, _, _]) rfl (v1 := .agg #[_, _, _]) rfl) (C_multi_Prime S _ _ x _ (Below.slT hB hon) (Below.slT hB hmay) hbx) (fun v8_10 W104 hE105 hP8_10 => ?_)
                have hsz106 := (Below.size hB)
                replace hB := below_ext hB hE105 (Nat.le_refl _)
                replace hm0_0 := hE105.at hm0_0
                replace hm0_1 := hE105.at hm0_1
                replace hm0_2 := hE105.at hm0_2
                replace hm3_6 := hE105.at hm3_6
                clear hE105
                clear hsz106
                obtain rfl := hP8_10
                refine WL_val (dd := some 53) rfl rfl rfl (r_not rfl) ?_
                refine WL_val (dd := some 54) rfl rfl rfl (r_pick_t rfl (v := .bool _) rfl) ?_
                refine WL_split (dd := some 55) rfl rfl rfl (r_move (v := .bool _) rfl) (fun hs8_13 => ?_) (fun hs8_13 => ?_)
                ·
                  try with_reducible replace hs8_13 := of_decide_eq_true hs8_13
                  refine WL_call (dd := some 56) rfl rfl rfl (r_call0 tb_c58) (C_drawknifelaw10_knows _) (fun v8_14 W107 hE108 hP8_14 => ?_)
                  have hsz109 := (Below.size hB)
                  replace hB := below_ext hB hE108 (Nat.le_refl _)
                  replace hm0_0 := hE108.at hm0_0
                  replace hm0_1 := hE108.at hm0_1
                  replace hm0_2 := hE108.at hm0_2
                  replace hm3_6 := hE108.at hm3_6
                  clear hE108
                  clear hsz109
                  obtain rfl := hP8_14
                  refine WL_val (dd := some 57) rfl rfl rfl (r_pick_t rfl (v := .bool _) rfl) ?_
                  refine WL_val (dd := some 6) rfl rfl rfl (r_assign (v := .bool _) rfl) ?_
                  refine WL_nil ?_
                  refine hK103 _ _ ?_
                  clear hK103 K102
                  refine WC_ret ?_
                  repeat (first | refine thenQ_ret ?_ | refine blockQ_ret ?_)
                  try clear hK99 K98
                  refine ret_t (v := .bool _) rfl ?_
                  refine ⟨hB, ?_⟩
                  rfl
                ·
                  try with_reducible replace hs8_13 := of_decide_eq_false hs8_13
                  exact absurd (not_f hs8_13) (pr_v3 hi)
              ·
                try with_reducible replace hs8_7 := of_decide_eq_false hs8_7
                exact absurd rfl hs8_7
            ·
              try with_reducible replace hs8_3 := of_decide_eq_false hs8_3
              exact absurd ⟨rfl, rfl, rfl⟩ hs8_3
          ·
            try with_reducible replace hc2 := of_decide_eq_false hc2
            refine WC_skip ?_
            refine hK99 _ _ ?_
            clear hK99 K98
            refine WC_seq (fun K110 hK111 => ?_)
            have hi : inR S x = true := by first | exact not_f hc2 | exact absurd hc2 (by decide)
            obtain ⟨q2, q3⟩ := (hg_hP3_2.resolve_right (fun h => Bool.noConfusion (h.1.symm.trans hi))).2
            subst q2 q3
            refine WC_draw Ext tb_mix (fun W112 hE113 => ?_)
            replace hB := below_ext hB hE113 (Nat.le_refl _)
            replace hm0_0 := hE113.at hm0_0
            replace hm0_1 := hE113.at hm0_1
            replace hm0_2 := hE113.at hm0_2
            replace hm3_6 := hE113.at hm3_6
            have hS := Ext.refl W112
            refine WT_take (dd := some 58) 0 rfl (by kernel_rfl) (by kernel_rfl) (by kernel_rfl) rfl rfl rfl (fun _wq hq => r_loadW rfl tb_ag79 rfl (hq.at hm3_6)) hS ?_
            refine WT_take (dd := some 59) 1 rfl (by kernel_rfl) (by kernel_rfl) (by kernel_rfl) rfl rfl rfl (fun _wq hq => r_loadW rfl tb_ag64 rfl (hq.at hm0_0)) hS ?_
            refine WT_take (dd := some 60) 2 rfl (by kernel_rfl) (by kernel_rfl) (by kernel_rfl) rfl rfl rfl (fun _wq hq => r_loadW rfl tb_ag79 rfl (hq.at hm0_1)) hS ?_
            refine WT_one (dd := some 61) 3 (by kernel_rfl) rfl rfl rfl rfl (Yd.call (r_call2 tb_c70 (v0 := .agg #[_, _, _]) rfl (v1 := .agg #[_, _, _]) rfl) (C_drawkniferef10_Grow S _ _ x _ (Below.slT hB hon) (Below.slT hB hmay) hi hbx) (fun v9_3 W114 hE115 hP9_3 => ⟨.inl (hS.trans hE115), ?_⟩))
            have hsz116 := (Below.size hB)
            have sv117_hB := hB
            have sv117_hm0_0 := hm0_0
            have sv117_hm0_1 := hm0_1
            have sv117_hm0_2 := hm0_2
            have sv117_hm3_6 := hm3_6
            replace hB := below_ext hB hE115 (Nat.le_refl _)
            replace hm0_0 := hE115.at hm0_0
            replace hm0_1 := hE115.at hm0_1
            replace hm0_2 := hE115.at hm0_2
            replace hm3_6 := hE115.at hm3_6
            replace hS := hS.trans hE115
            clear hE115
            clear hsz116
            obtain rfl := hP9_3
            refine WT_take (dd := some 62) 4 rfl (by kernel_rfl) (by kernel_rfl) (by kernel_rfl) rfl rfl rfl (fun _wq _hq => tb_eq79 rfl rfl) hS ?_
            refine WT_split (dd := some 63) 5 rfl (by kernel_rfl) (by kernel_rfl) (by kernel_rfl) rfl rfl rfl (fun wq hq => r_move (v := .bool _) rfl) hS (fun hs9_5 => ?_) (fun hs9_5 => ?_)
            ·
              try with_reducible replace hs9_5 := of_decide_eq_true hs9_5
              refine WT_take (dd := some 64) 6 rfl (by kernel_rfl) (by kernel_rfl) (by kernel_rfl) rfl rfl rfl (fun _wq _hq => r_move (v := .int .i64 _) rfl) hS ?_
              refine WT_take (dd := some 65) 7 rfl (by kernel_rfl) (by kernel_rfl) (by kernel_rfl) rfl rfl rfl (fun _wq _hq => r_eql rfl rfl) hS ?_
              refine WT_take (dd := some 66) 8 rfl (by kernel_rfl) (by kernel_rfl) (by kernel_rfl) rfl rfl rfl (fun _wq _hq => r_pick_t rfl (v := .bool _) rfl) hS ?_
              refine WT_split (dd := some 67) 9 rfl (by kernel_rfl) (by kernel_rfl) (by kernel_rfl) rfl rfl rfl (fun wq hq => r_move (v := .bool _) rfl) hS (fun hs9_9 => ?_) (fun hs9_9 => ?_)
              ·
                try with_reducible replace hs9_9 := of_decide_eq_true hs9_9
                refine WT_one (dd := some 68) 10 (by kernel_rfl) rfl rfl rfl rfl (Yd.call (r_call0 tb_c58) (C_drawknifelaw10_knows _) (fun v9_10 W118 hE119 hP9_10 => ⟨.inl (hS.trans hE119), ?_⟩))
                have hsz120 := (Below.size hB)
                replace hB := below_ext hB hE119 (Nat.le_refl _)
                replace hm0_0 := hE119.at hm0_0
                replace hm0_1 := hE119.at hm0_1
                replace hm0_2 := hE119.at hm0_2
                replace hm3_6 := hE119.at hm3_6
                replace hS := hS.trans hE119
                clear hE119
                clear hsz120
                obtain rfl := hP9_10
                refine WT_take (dd := some 69) 11 rfl (by kernel_rfl) (by kernel_rfl) (by kernel_rfl) rfl rfl rfl (fun _wq _hq => r_pick_t rfl (v := .bool _) rfl) hS ?_
                refine WT_take (dd := some 6) 12 rfl (by kernel_rfl) (by kernel_rfl) (by kernel_rfl) rfl rfl rfl (fun _wq _hq => r_assign (v := .bool _) rfl) hS ?_
                refine WT_done (by kernel_rfl) ?_
                try clear sv117_hB sv117_hm0_0 sv117_hm0_1 sv117_hm0_2 sv117_hm3_6
                refine hK111 _ _ ?_
                clear hK111 K110
                refine WC_ret ?_
                repeat (first | refine thenQ_ret ?_ | refine blockQ_ret ?_)
                refine ret_t (v := .bool _) rfl ?_
                refine ⟨hB, ?_⟩
                rfl
              ·
                try with_reducible replace hs9_9 := of_decide_eq_false hs9_9
                exact absurd rfl hs9_9
            ·
              try with_reducible replace hs9_5 := of_decide_eq_false hs9_5
              exact absurd ⟨rfl, rfl, rfl⟩ hs9_5

set_option maxRecDepth 10000 in
theorem C_drawknifelaw10_MultiGrows (S : Sp) (onV mayV : Value) (x : Rw) (w : World) (hon : SlT encS 4 w onV S.on) (hmay : SlT encS 4 w mayV S.may) (hbx : x.c.m < 256 ∧ x.c.v < 256 ∧ x.o < 256) :
    Fn Try.prog 14 #[.agg #[.int .i64 S.n, onV, mayV], .agg #[.int .u8 (x.c.m : Int), .int .u8 (x.c.v : Int), .int .u8 (x.o : Int)]] w fun v w' => v = .bool true := by
  refine Fn_intro (n := 86) Try.func14 rfl rfl (Nat.le_of_ble_eq_true rfl) ?_
  have hB : Below w.heap.size w w := Below.refl _ _
  refine WC_seq (fun K1 hK2 => ?_)
  refine WC_region ?_
  refine WL_step (dd := some 2) rfl rfl rfl (Y_box (c := #[_, _, _]) rfl rfl (fun b0_0 W3 hb4 hE5 hm0_0 => ?_))
  have lo_b0_0 : w.heap.size ≤ b0_0 := hb4 ▸ (Below.size hB)
  clear hb4
  replace hB := below_ext hB hE5 (Nat.le_refl _)
  clear hE5
  refine WL_step (dd := some 3) rfl rfl rfl (Y_box (c := #[_, _, _]) rfl rfl (fun b0_1 W6 hb7 hE8 hm0_1 => ?_))
  have lo_b0_1 : w.heap.size ≤ b0_1 := hb7 ▸ (Below.size hB)
  clear hb7
  replace hB := below_ext hB hE8 (Nat.le_refl _)
  replace hm0_0 := hE8.at hm0_0
  clear hE8
  refine WL_val (dd := some 4) rfl rfl rfl (r_assign (v := .bool false) rfl) ?_
  refine WL_nil ?_
  refine hK2 _ _ ?_
  clear hK2 K1
  refine WC_seq (fun K9 hK10 => ?_)
  refine WC_seq (fun K11 hK12 => ?_)
  refine WC_region ?_
  refine WL_val (dd := some 11) rfl rfl rfl (r_loadW rfl tb_ag64 rfl hm0_0) ?_
  refine WL_call (dd := some 12) rfl rfl rfl (r_call1 tb_c57 (v0 := .agg #[_, _, _]) rfl) (C_drawknifelaw10_Great S _ _  _ (Below.slT hB hon) (Below.slT hB hmay) ) (fun v1_1 W13 hE14 hP1_1 => ?_)
  have hsz15 := (Below.size hB)
  replace hB := below_ext hB hE14 (Nat.le_refl _)
  replace hm0_0 := hE14.at hm0_0
  replace hm0_1 := hE14.at hm0_1
  clear hE14
  clear hsz15
  obtain rfl := hP1_1
  refine WL_split (dd := some 13) rfl rfl rfl (r_move (v := .bool _) rfl) (fun hs1_2 => ?_) (fun hs1_2 => ?_)
  ·
    try with_reducible replace hs1_2 := of_decide_eq_true hs1_2
    refine WL_skip (dd := some 14) rfl rfl rfl ?_
    refine WL_skip (dd := some 15) rfl rfl rfl ?_
    refine WL_skip (dd := some 16) rfl rfl rfl ?_
    refine WL_val (dd := some 17) rfl rfl rfl (r_pick_t rfl (v := .bool true) rfl) ?_
    refine WL_nil ?_
    refine hK12 _ _ ?_
    clear hK12 K11
    refine WC_cond_true rfl ?_
    refine WC_seq (fun K16 hK17 => ?_)
    refine WC_region ?_
    refine WL_call (dd := some 18) rfl rfl rfl (r_call0 tb_c58) (C_drawknifelaw10_knows _) (fun v2_0 W18 hE19 hP2_0 => ?_)
    have hsz20 := (Below.size hB)
    replace hB := below_ext hB hE19 (Nat.le_refl _)
    replace hm0_0 := hE19.at hm0_0
    replace hm0_1 := hE19.at hm0_1
    clear hE19
    clear hsz20
    obtain rfl := hP2_0
    refine WL_val (dd := some 4) rfl rfl rfl (r_assign (v := .bool _) rfl) ?_
    refine WL_nil ?_
    refine hK17 _ _ ?_
    clear hK17 K16
    refine WC_ret ?_
    repeat (first | refine thenQ_ret ?_ | refine blockQ_ret ?_)
    try clear hK10 K9
    refine ret_t (v := .bool _) rfl ?_
    refine ⟨hB, ?_⟩
    rfl
  ·
    try with_reducible replace hs1_2 := of_decide_eq_false hs1_2
    refine WL_val (dd := some 14) rfl rfl rfl (r_fieldAddr (b := _) (o := _) rfl tb_fo64_0) ?_
    refine WL_val (dd := some 15) rfl rfl rfl (r_load1 (v := .int .i64 _) rfl tb_sc3 (At.cell hm0_0 rfl)) ?_
    refine WL_val (dd := some 16) rfl rfl rfl (r_gtr rfl rfl) ?_
    refine WL_val (dd := some 17) rfl rfl rfl (r_pick_f rfl (v := .bool _) rfl) ?_
    refine WL_nil ?_
    refine hK12 _ _ ?_
    clear hK12 K11
    refine WC_cond (b := _) rfl (fun hc0 => ?_) (fun hc0 => ?_)
    ·
      try with_reducible replace hc0 := of_decide_eq_true hc0
      refine WC_seq (fun K21 hK22 => ?_)
      refine WC_region ?_
      refine WL_call (dd := some 18) rfl rfl rfl (r_call0 tb_c58) (C_drawknifelaw10_knows _) (fun v2_0 W23 hE24 hP2_0 => ?_)
      have hsz25 := (Below.size hB)
      replace hB := below_ext hB hE24 (Nat.le_refl _)
      replace hm0_0 := hE24.at hm0_0
      replace hm0_1 := hE24.at hm0_1
      clear hE24
      clear hsz25
      obtain rfl := hP2_0
      refine WL_val (dd := some 4) rfl rfl rfl (r_assign (v := .bool _) rfl) ?_
      refine WL_nil ?_
      refine hK22 _ _ ?_
      clear hK22 K21
      refine WC_ret ?_
      repeat (first | refine thenQ_ret ?_ | refine blockQ_ret ?_)
      try clear hK10 K9
      refine ret_t (v := .bool _) rfl ?_
      refine ⟨hB, ?_⟩
      rfl
    ·
      try with_reducible replace hc0 := of_decide_eq_false hc0
      refine WC_skip ?_
      refine hK10 _ _ ?_
      clear hK10 K9
      refine WC_seq (fun K26 hK27 => ?_)
      refine WC_region ?_
      refine WL_val (dd := some 20) rfl rfl rfl (r_loadW rfl tb_ag64 rfl hm0_0) ?_
      refine WL_val (dd := some 21) rfl rfl rfl (r_loadW rfl tb_ag79 rfl hm0_1) ?_
      refine WL_call (dd := some 22) rfl rfl rfl (r_call2 tb_c62 (v0 := .agg #[_, _, _]) rfl (v1 := .agg #[_, _, _]) rfl) (C_multi_Grow S _ _ x _ (Below.slT hB hon) (Below.slT hB hmay) hbx) (fun v3_2 W28 hE29 hP3_2 => ?_)
      have hsz30 := (Below.size hB)
      replace hB := below_ext hB hE29 (Nat.le_refl _)
      replace hm0_0 := hE29.at hm0_0
      replace hm0_1 := hE29.at hm0_1
      clear hE29
      obtain ⟨g_hP3_2, er_hP3_2, rfl, hg_hP3_2⟩ := grow_cases hP3_2
      clear hsz30
      refine WL_val (dd := some 19) rfl rfl rfl (r_move (v := .tuple #[.agg #[_, _, _], .int .i64 _]) rfl) ?_
      refine WL_val (dd := some 23) rfl rfl rfl (r_ext2_0 (h := rfl)) ?_
      refine WL_val (dd := some 24) rfl rfl rfl (r_ext2_1 (h := rfl)) ?_
      refine WL_step (dd := some 5) rfl rfl rfl (Y_alloc tb_z79 rfl (fun b3_6 W31 hb32 hE33 hm3_6 => ?_))
      have lo_b3_6 : w.heap.size ≤ b3_6 := hb32 ▸ (Below.size hB)
      have ne_b0_1_b3_6 : b0_1 ≠ b3_6 := Nat.ne_of_lt (hb32 ▸ hm0_1.lt)
      clear hb32
      replace hB := below_ext hB hE33 (Nat.le_refl _)
      replace hm0_0 := hE33.at hm0_0
      replace hm0_1 := hE33.at hm0_1
      clear hE33
      refine WL_step (dd := none) rfl rfl rfl (Y_storeW rfl rfl tb_ag79 rfl hm3_6 rfl (by rfl) (fun W34 hG35 hm36 => ?_))
      replace hB := below_grown hB hG35 (Nat.le_refl _) (fun j hj => by cases hj; exact lo_b3_6)
      replace hm0_0 := At.grownAt hm0_0 hm3_6 hG35 (by decide)
      replace hm0_1 := At.grownNe hm0_1 ne_b0_1_b3_6 hG35
      clear hG35 hm3_6
      have hm3_6 := hm36
      clear hm36
      refine WL_val (dd := some 6) rfl rfl rfl (r_assign (v := .int .i64 _) rfl) ?_
      refine WL_nil ?_
      refine hK27 _ _ ?_
      clear hK27 K26
      refine WC_seq (fun K37 hK38 => ?_)
      refine WC_seq (fun K39 hK40 => ?_)
      refine WC_region ?_
      refine WL_val (dd := some 25) rfl rfl rfl (r_move (v := .int .i64 _) rfl) ?_
      refine WL_val (dd := some 26) rfl rfl rfl (r_neq rfl rfl) ?_
      refine WL_nil ?_
      refine hK40 _ _ ?_
      clear hK40 K39
      refine WC_cond (b := _) rfl (fun hc1 => ?_) (fun hc1 => ?_)
      ·
        try with_reducible replace hc1 := of_decide_eq_true hc1
        refine WC_seq (fun K41 hK42 => ?_)
        obtain ⟨hi, q2, q3⟩ := hg_hP3_2.resolve_left (fun h => hc1 h.2.2)
        subst q2 q3
        refine WC_region ?_
        refine WL_val (dd := some 27) rfl rfl rfl (r_loadW rfl tb_ag79 rfl hm3_6) ?_
        refine WL_val (dd := some 28) rfl rfl rfl (tb_build79_ ) ?_
        refine WL_val (dd := some 29) rfl rfl rfl (tb_eq79 rfl rfl) ?_
        refine WL_split (dd := some 30) rfl rfl rfl (r_move (v := .bool _) rfl) (fun hs5_3 => ?_) (fun hs5_3 => ?_)
        ·
          try with_reducible replace hs5_3 := of_decide_eq_true hs5_3
          refine WL_val (dd := some 31) rfl rfl rfl (r_loadW rfl tb_ag64 rfl hm0_0) ?_
          refine WL_val (dd := some 32) rfl rfl rfl (r_loadW rfl tb_ag79 rfl hm0_1) ?_
          refine WL_call (dd := some 33) rfl rfl rfl (r_call2 tb_c63 (v0 := .agg #[_, _, _]) rfl (v1 := .agg #[_, _, _]) rfl) (C_multi_Prime S _ _ x _ (Below.slT hB hon) (Below.slT hB hmay) hbx) (fun v5_6 W43 hE44 hP5_6 => ?_)
          have hsz45 := (Below.size hB)
          replace hB := below_ext hB hE44 (Nat.le_refl _)
          replace hm0_0 := hE44.at hm0_0
          replace hm0_1 := hE44.at hm0_1
          replace hm3_6 := hE44.at hm3_6
          clear hE44
          clear hsz45
          obtain rfl := hP5_6
          refine WL_val (dd := some 34) rfl rfl rfl (r_not rfl) ?_
          refine WL_val (dd := some 35) rfl rfl rfl (r_pick_t rfl (v := .bool _) rfl) ?_
          refine WL_split (dd := some 36) rfl rfl rfl (r_move (v := .bool _) rfl) (fun hs5_9 => ?_) (fun hs5_9 => ?_)
          ·
            try with_reducible replace hs5_9 := of_decide_eq_true hs5_9
            refine WL_call (dd := some 37) rfl rfl rfl (r_call0 tb_c58) (C_drawknifelaw10_knows _) (fun v5_10 W46 hE47 hP5_10 => ?_)
            have hsz48 := (Below.size hB)
            replace hB := below_ext hB hE47 (Nat.le_refl _)
            replace hm0_0 := hE47.at hm0_0
            replace hm0_1 := hE47.at hm0_1
            replace hm3_6 := hE47.at hm3_6
            clear hE47
            clear hsz48
            obtain rfl := hP5_10
            refine WL_val (dd := some 38) rfl rfl rfl (r_pick_t rfl (v := .bool _) rfl) ?_
            refine WL_val (dd := some 4) rfl rfl rfl (r_assign (v := .bool _) rfl) ?_
            refine WL_nil ?_
            refine hK42 _ _ ?_
            clear hK42 K41
            refine WC_ret ?_
            repeat (first | refine thenQ_ret ?_ | refine blockQ_ret ?_)
            try clear hK38 K37
            refine ret_t (v := .bool _) rfl ?_
            refine ⟨hB, ?_⟩
            rfl
          ·
            try with_reducible replace hs5_9 := of_decide_eq_false hs5_9
            exact absurd (not_f hs5_9) (pr_v3 hi)
        ·
          try with_reducible replace hs5_3 := of_decide_eq_false hs5_3
          exact absurd ⟨rfl, rfl, rfl⟩ hs5_3
      ·
        try with_reducible replace hc1 := of_decide_eq_false hc1
        refine WC_skip ?_
        refine hK38 _ _ ?_
        clear hK38 K37
        refine WC_seq (fun K49 hK50 => ?_)
        obtain ⟨hi, q2, q3⟩ := hg_hP3_2.resolve_right (fun h => hc1 (fun e => by rw [h.2.2] at e; cases e))
        subst q2 q3
        have hr := (inR_iff.1 hi).1
        have hgb := growR_b hi hbx
        have hgp := growR_prime hi
        refine WC_region ?_
        refine WL_val (dd := some 40) rfl rfl rfl (r_loadW rfl tb_ag64 rfl hm0_0) ?_
        refine WL_call (dd := some 41) rfl rfl rfl (r_call1 tb_c59 (v0 := .agg #[_, _, _]) rfl) (C_multi_All S _ _  _ (Below.slT hB hon) (Below.slT hB hmay) ) (fun v6_1 W51 hE52 hP6_1 => ?_)
        have hsz53 := (Below.size hB)
        replace hB := below_ext hB hE52 (Nat.le_refl _)
        replace hm0_0 := hE52.at hm0_0
        replace hm0_1 := hE52.at hm0_1
        replace hm3_6 := hE52.at hm3_6
        clear hE52
        obtain ⟨x_hP6_1, er_hP6_1, l_hP6_1, rfl, ho_hP6_1, hc_hP6_1⟩ := own_res hP6_1
        replace ho_hP6_1 := OwT.mono ho_hP6_1 hsz53
        clear hsz53
        refine WL_val (dd := some 39) rfl rfl rfl (r_move (v := .tuple #[x_hP6_1, .int .i64 _]) rfl) ?_
        refine WL_val (dd := some 42) rfl rfl rfl (r_ext2_0 (h := rfl)) ?_
        refine WL_val (dd := some 43) rfl rfl rfl (r_ext2_1 (h := rfl)) ?_
        refine WL_val (dd := some 7) rfl rfl rfl (r_assign (v := x_hP6_1) rfl) ?_
        refine WL_val (dd := some 8) rfl rfl rfl (r_assign (v := .int .i64 _) rfl) ?_
        refine WL_nil ?_
        refine hK50 _ _ ?_
        clear hK50 K49
        refine WC_seq (fun K54 hK55 => ?_)
        refine WC_region ?_
        refine WL_val (dd := some 9) rfl rfl rfl (r_assign (v := .bool false) rfl) ?_
        refine WL_nil ?_
        refine hK55 _ _ ?_
        clear hK55 K54
        refine WC_seq (fun K56 hK57 => ?_)
        refine WC_seq (fun K58 hK59 => ?_)
        obtain ⟨q2, q3⟩ := hc_hP6_1.elim (fun h => h.2) (fun h => absurd hr (by rw [h.1]; decide))
        subst q2 q3
        have hal := allR_len hr
        refine WC_region ?_
        refine WL_val (dd := some 10) rfl rfl rfl (r_assign (v := .int .i64 0) rfl) ?_
        refine WL_nil ?_
        refine hK59 _ _ ?_
        clear hK59 K58
        refine WC_block ?_
        refine WC_loop (σ := (Nat)) [9, 10, 44, 45, 46, 47, 48, 49, 50, 51, 52, 53, 54, 55, 56, 57, 58] (fun k => [(10, .int .i64 (k : Int)), (9, .bool (metR (allR S) (growR S x) k))]) (fun k W => (Below w.heap.size w W) ∧ (At W b0_0 _ 64) ∧ (At W b0_1 _ 79) ∧ (At W b3_6 _ 79) ∧ (OwT encR 3 79 W w.heap.size x_hP6_1 _) ∧ (k ≤ (allR S).length) ∧ (True)) (fun k => (allR S).length - k) (0) ⟨rfl, congrArg Value.bool (metR_zero _ _), trivial⟩ ⟨hB, hm0_0, hm0_1, hm3_6, ho_hP6_1, (Nat.zero_le _), trivial⟩ ?_
        clear hB hm0_0 hm0_1 hm3_6 ho_hP6_1
        rintro k g61 W60 ⟨hB, hm0_0, hm0_1, hm3_6, ho_hP6_1, hk, _⟩ J62 hJ63
        refine WC_seq (fun K64 hK65 => ?_)
        refine WC_seq (fun K66 hK67 => ?_)
        refine WC_region ?_
        refine WL_val (dd := some 44) rfl rfl rfl (r_move (v := .int .i64 _) rfl) ?_
        refine WL_val (dd := some 45) rfl rfl rfl (r_move (v := x_hP6_1) rfl) ?_
        refine WL_val (dd := some 46) rfl rfl rfl (r_lenS (v := x_hP6_1) rfl ho_hP6_1.sl tb_el65) ?_
        refine WL_val (dd := some 47) rfl rfl rfl (r_lss rfl rfl) ?_
        refine WL_nil ?_
        refine hK67 _ _ ?_
        clear hK67 K66
        refine WC_cond (b := _) rfl (fun hc2 => ?_) (fun hc2 => ?_)
        ·
          try with_reducible replace hc2 := of_decide_eq_true hc2
          refine WC_skip ?_
          refine hK65 _ _ ?_
          clear hK65 K64
          refine WC_seq (fun K68 hK69 => ?_)
          refine WC_block ?_
          refine WC_draw Ext tb_mix (fun W70 hE71 => ?_)
          replace hB := below_ext hB hE71 (Nat.le_refl _)
          replace hm0_0 := hE71.at hm0_0
          replace hm0_1 := hE71.at hm0_1
          replace hm3_6 := hE71.at hm3_6
          replace ho_hP6_1 := hE71.ow ho_hP6_1
          have hS := Ext.refl W70
          refine WT_take (dd := some 50) 0 rfl (by kernel_rfl) (by kernel_rfl) (by kernel_rfl) rfl rfl rfl (fun _wq _hq => r_move (v := .bool _) rfl) hS ?_
          refine WT_split (dd := some 51) 1 rfl (by kernel_rfl) (by kernel_rfl) (by kernel_rfl) rfl rfl rfl (fun wq hq => r_move (v := .bool _) rfl) hS (fun hs11_1 => ?_) (fun hs11_1 => ?_)
          ·
            try with_reducible replace hs11_1 := of_decide_eq_true hs11_1
            refine WT_pass (dd := some 52) 2 rfl (by kernel_rfl) (by kernel_rfl) (by kernel_rfl) rfl rfl rfl hS ?_
            refine WT_pass (dd := some 53) 3 rfl (by kernel_rfl) (by kernel_rfl) (by kernel_rfl) rfl rfl rfl hS ?_
            refine WT_pass (dd := some 54) 4 rfl (by kernel_rfl) (by kernel_rfl) (by kernel_rfl) rfl rfl rfl hS ?_
            refine WT_pass (dd := some 55) 5 rfl (by kernel_rfl) (by kernel_rfl) (by kernel_rfl) rfl rfl rfl hS ?_
            refine WT_pass (dd := some 56) 6 rfl (by kernel_rfl) (by kernel_rfl) (by kernel_rfl) rfl rfl rfl hS ?_
            refine WT_pass (dd := some 57) 7 rfl (by kernel_rfl) (by kernel_rfl) (by kernel_rfl) rfl rfl rfl hS ?_
            refine WT_take (dd := some 58) 8 rfl (by kernel_rfl) (by kernel_rfl) (by kernel_rfl) rfl rfl rfl (fun _wq _hq => r_pick_t rfl (v := .bool true) rfl) hS ?_
            refine WT_take (dd := some 9) 9 rfl (by kernel_rfl) (by kernel_rfl) (by kernel_rfl) rfl rfl rfl (fun _wq _hq => r_assign (v := .bool true) rfl) hS ?_
            refine WT_done (by kernel_rfl) ?_
            refine hK69 _ _ ?_
            clear hK69 K68
            refine WC_region ?_
            refine WL_val (dd := some 48) rfl rfl rfl (r_move (v := .int .i64 _) rfl) ?_
            refine WL_val (dd := some 49) rfl rfl rfl (r_addI rfl rfl (by omega) (by omega)) ?_
            refine WL_val (dd := some 10) rfl rfl rfl (r_assign (v := .int .i64 _) rfl) ?_
            refine WL_nil ?_
            refine hJ63 _ _ (k + 1) ?_ ?_ ?_ ?_
            · repeat (first | exact agree.mask _ _ _ | refine agree.updo ?_ rfl _ | refine agree.updL ?_ _ rfl | refine agree.maskS rfl ?_)
            · exact ⟨rfl, (by first | exact congrArg Value.bool (metR_t (by omega) hs11_1) | exact congrArg Value.bool (metR_f (by omega) hs11_1)), trivial⟩
            · exact ⟨hB, hm0_0, hm0_1, hm3_6, ho_hP6_1, (by omega), trivial⟩
            · first | omega | (dsimp only; omega)
          ·
            try with_reducible replace hs11_1 := of_decide_eq_false hs11_1
            refine WT_take (dd := some 52) 2 rfl (by kernel_rfl) (by kernel_rfl) (by kernel_rfl) rfl rfl rfl (fun _wq _hq => r_move (v := x_hP6_1) rfl) hS ?_
            refine WT_take (dd := some 53) 3 rfl (by kernel_rfl) (by kernel_rfl) (by kernel_rfl) rfl rfl rfl (fun _wq _hq => r_move (v := .int .i64 _) rfl) hS ?_
            refine WT_take (dd := some 54) 4 rfl (by kernel_rfl) (by kernel_rfl) (by kernel_rfl) rfl rfl rfl (fun _wq hq => r_idxS (v := x_hP6_1) rfl ((hq.ow ho_hP6_1)).sl rfl tb_el65 (by omega) (by first | omega | (simp only [flagsTo_len, litsTo_len, firstF_len, ptF_len, setF_len]; omega))) hS ?_
            refine WT_take (dd := some 55) 5 rfl (by kernel_rfl) (by kernel_rfl) (by kernel_rfl) rfl rfl rfl (fun _wq hq => r_load3 rfl tb_ag79 (SlT.cell ((hq.ow ho_hP6_1)).sl encR_len ⟨⟨0, 0⟩, 0⟩ (by omega) (by first | omega | (simp only [flagsTo_len, litsTo_len, firstF_len, ptF_len, setF_len]; omega)) 0 rfl) (SlT.cell ((hq.ow ho_hP6_1)).sl encR_len ⟨⟨0, 0⟩, 0⟩ (by omega) (by first | omega | (simp only [flagsTo_len, litsTo_len, firstF_len, ptF_len, setF_len]; omega)) 1 rfl) (SlT.cell ((hq.ow ho_hP6_1)).sl encR_len ⟨⟨0, 0⟩, 0⟩ (by omega) (by first | omega | (simp only [flagsTo_len, litsTo_len, firstF_len, ptF_len, setF_len]; omega)) 2 rfl)) hS ?_
            refine WT_take (dd := some 56) 6 rfl (by kernel_rfl) (by kernel_rfl) (by kernel_rfl) rfl rfl rfl (fun _wq hq => r_loadW rfl tb_ag79 rfl (hq.at hm3_6)) hS ?_
            refine WT_take (dd := some 57) 7 rfl (by kernel_rfl) (by kernel_rfl) (by kernel_rfl) rfl rfl rfl (fun _wq _hq => tb_eq79 rfl rfl) hS ?_
            refine WT_take (dd := some 58) 8 rfl (by kernel_rfl) (by kernel_rfl) (by kernel_rfl) rfl rfl rfl (fun _wq _hq => r_pick_f rfl (v := .bool _) rfl) hS ?_
            refine WT_take (dd := some 9) 9 rfl (by kernel_rfl) (by kernel_rfl) (by kernel_rfl) rfl rfl rfl (fun _wq _hq => r_assign (v := .bool _) rfl) hS ?_
            refine WT_done (by kernel_rfl) ?_
            refine hK69 _ _ ?_
            clear hK69 K68
            refine WC_region ?_
            refine WL_val (dd := some 48) rfl rfl rfl (r_move (v := .int .i64 _) rfl) ?_
            refine WL_val (dd := some 49) rfl rfl rfl (r_addI rfl rfl (by omega) (by omega)) ?_
            refine WL_val (dd := some 10) rfl rfl rfl (r_assign (v := .int .i64 _) rfl) ?_
            refine WL_nil ?_
            refine hJ63 _ _ (k + 1) ?_ ?_ ?_ ?_
            · repeat (first | exact agree.mask _ _ _ | refine agree.updo ?_ rfl _ | refine agree.updL ?_ _ rfl | refine agree.maskS rfl ?_)
            · exact ⟨rfl, (by first | exact congrArg Value.bool (metR_t (by omega) hs11_1) | exact congrArg Value.bool (metR_f (by omega) hs11_1)), trivial⟩
            · exact ⟨hB, hm0_0, hm0_1, hm3_6, ho_hP6_1, (by omega), trivial⟩
            · first | omega | (dsimp only; omega)
        ·
          try with_reducible replace hc2 := of_decide_eq_false hc2
          refine WC_exit ?_
          refine hK57 _ _ ?_
          clear hK65 K64
          clear hJ63 J62
          clear hK57 K56
          refine WC_seq (fun K72 hK73 => ?_)
          refine WC_draw Ext tb_mix (fun W74 hE75 => ?_)
          replace hB := below_ext hB hE75 (Nat.le_refl _)
          replace hm0_0 := hE75.at hm0_0
          replace hm0_1 := hE75.at hm0_1
          replace hm3_6 := hE75.at hm3_6
          replace ho_hP6_1 := hE75.ow ho_hP6_1
          have hS := Ext.refl W74
          refine WT_take (dd := some 59) 0 rfl (by kernel_rfl) (by kernel_rfl) (by kernel_rfl) rfl rfl rfl (fun _wq _hq => r_move (v := .int .i64 _) rfl) hS ?_
          refine WT_take (dd := some 60) 1 rfl (by kernel_rfl) (by kernel_rfl) (by kernel_rfl) rfl rfl rfl (fun _wq _hq => r_eql rfl rfl) hS ?_
          refine WT_split (dd := some 61) 2 rfl (by kernel_rfl) (by kernel_rfl) (by kernel_rfl) rfl rfl rfl (fun wq hq => r_move (v := .bool _) rfl) hS (fun hs12_2 => ?_) (fun hs12_2 => ?_)
          ·
            try with_reducible replace hs12_2 := of_decide_eq_true hs12_2
            refine WT_take (dd := some 62) 3 rfl (by kernel_rfl) (by kernel_rfl) (by kernel_rfl) rfl rfl rfl (fun _wq _hq => r_move (v := .bool _) rfl) hS ?_
            refine WT_take (dd := some 63) 4 rfl (by kernel_rfl) (by kernel_rfl) (by kernel_rfl) rfl rfl rfl (fun _wq _hq => r_pick_t rfl (v := .bool _) rfl) hS ?_
            refine WT_split (dd := some 64) 5 rfl (by kernel_rfl) (by kernel_rfl) (by kernel_rfl) rfl rfl rfl (fun wq hq => r_move (v := .bool _) rfl) hS (fun hs12_5 => ?_) (fun hs12_5 => ?_)
            ·
              try with_reducible replace hs12_5 := of_decide_eq_true hs12_5
              refine WT_take (dd := some 65) 6 rfl (by kernel_rfl) (by kernel_rfl) (by kernel_rfl) rfl rfl rfl (fun _wq hq => r_loadW rfl tb_ag79 rfl (hq.at hm3_6)) hS ?_
              refine WT_take (dd := some 66) 7 rfl (by kernel_rfl) (by kernel_rfl) (by kernel_rfl) rfl rfl rfl (fun _wq hq => r_loadW rfl tb_ag79 rfl (hq.at hm0_1)) hS ?_
              refine WT_one (dd := some 67) 8 (by kernel_rfl) rfl rfl rfl rfl (Yd.call (r_call2 tb_c64 (v0 := .agg #[_, _, _]) rfl (v1 := .agg #[_, _, _]) rfl) (C_drawkniferef10_Holds (growR S x) x _ hgb hbx) (fun v12_8 W76 hE77 hP12_8 => ⟨.inl (hS.trans hE77), ?_⟩))
              have hsz78 := (Below.size hB)
              have sv79_hB := hB
              have sv79_hm0_0 := hm0_0
              have sv79_hm0_1 := hm0_1
              have sv79_hm3_6 := hm3_6
              have sv79_ho_hP6_1 := ho_hP6_1
              replace hB := below_ext hB hE77 (Nat.le_refl _)
              replace hm0_0 := hE77.at hm0_0
              replace hm0_1 := hE77.at hm0_1
              replace hm3_6 := hE77.at hm3_6
              replace ho_hP6_1 := hE77.ow ho_hP6_1
              replace hS := hS.trans hE77
              clear hE77
              clear hsz78
              obtain rfl := hP12_8
              refine WT_take (dd := some 68) 9 rfl (by kernel_rfl) (by kernel_rfl) (by kernel_rfl) rfl rfl rfl (fun _wq _hq => r_pick_t rfl (v := .bool _) rfl) hS ?_
              refine WT_split (dd := some 69) 10 rfl (by kernel_rfl) (by kernel_rfl) (by kernel_rfl) rfl rfl rfl (fun wq hq => r_move (v := .bool _) rfl) hS (fun hs12_10 => ?_) (fun hs12_10 => ?_)
              ·
                try with_reducible replace hs12_10 := of_decide_eq_true hs12_10
                refine WT_take (dd := some 70) 11 rfl (by kernel_rfl) (by kernel_rfl) (by kernel_rfl) rfl rfl rfl (fun _wq hq => r_loadW rfl tb_ag64 rfl (hq.at sv79_hm0_0)) hS ?_
                refine WT_take (dd := some 71) 12 rfl (by kernel_rfl) (by kernel_rfl) (by kernel_rfl) rfl rfl rfl (fun _wq hq => r_loadW rfl tb_ag79 rfl (hq.at sv79_hm3_6)) hS ?_
                refine WT_one (dd := some 72) 13 (by kernel_rfl) rfl rfl rfl rfl (Yd.call (r_call2 tb_c63 (v0 := .agg #[_, _, _]) rfl (v1 := .agg #[_, _, _]) rfl) (C_multi_Prime S _ _ (growR S x) _ (Below.slT hB hon) (Below.slT hB hmay) hgb) (fun v12_13 W80 hE81 hP12_13 => ⟨.inl (hS.trans hE81), ?_⟩))
                have hsz82 := (Below.size hB)
                replace hB := below_ext hB hE81 (Nat.le_refl _)
                replace hm0_0 := hE81.at hm0_0
                replace hm0_1 := hE81.at hm0_1
                replace hm3_6 := hE81.at hm3_6
                replace ho_hP6_1 := hE81.ow ho_hP6_1
                replace hS := hS.trans hE81
                clear hE81
                clear hsz82
                obtain rfl := hP12_13
                refine WT_take (dd := some 73) 14 rfl (by kernel_rfl) (by kernel_rfl) (by kernel_rfl) rfl rfl rfl (fun _wq _hq => r_pick_t rfl (v := .bool _) rfl) hS ?_
                refine WT_split (dd := some 74) 15 rfl (by kernel_rfl) (by kernel_rfl) (by kernel_rfl) rfl rfl rfl (fun wq hq => r_move (v := .bool _) rfl) hS (fun hs12_15 => ?_) (fun hs12_15 => ?_)
                ·
                  try with_reducible replace hs12_15 := of_decide_eq_true hs12_15
                  refine WT_take (dd := some 75) 16 rfl (by kernel_rfl) (by kernel_rfl) (by kernel_rfl) rfl rfl rfl (fun _wq hq => r_loadW rfl tb_ag79 rfl (hq.at sv79_hm3_6)) hS ?_
                  refine WT_take (dd := some 76) 17 rfl (by kernel_rfl) (by kernel_rfl) (by kernel_rfl) rfl rfl rfl (fun _wq hq => r_loadW rfl tb_ag79 rfl (hq.at sv79_hm0_1)) hS ?_
                  refine WT_take (dd := some 77) 18 rfl (by kernel_rfl) (by kernel_rfl) (by kernel_rfl) rfl rfl rfl (fun _wq _hq => tb_eq79 rfl rfl) hS ?_
                  refine WT_take (dd := some 78) 19 rfl (by kernel_rfl) (by kernel_rfl) (by kernel_rfl) rfl rfl rfl (fun _wq hq => r_loadW rfl tb_ag64 rfl (hq.at sv79_hm0_0)) hS ?_
                  refine WT_take (dd := some 79) 20 rfl (by kernel_rfl) (by kernel_rfl) (by kernel_rfl) rfl rfl rfl (fun _wq hq => r_loadW rfl tb_ag79 rfl (hq.at sv79_hm0_1)) hS ?_
                  refine WT_one (dd := some 80) 21 (by kernel_rfl) rfl rfl rfl rfl (Yd.call (r_call2 tb_c63 (v0 := .agg #[_, _, _]) rfl (v1 := .agg #[_, _, _]) rfl) (C_multi_Prime S _ _ x _ (Below.slT hB hon) (Below.slT hB hmay) hbx) (fun v12_21 W83 hE84 hP12_21 => ⟨.inl (hS.trans hE84), ?_⟩))
                  have hsz85 := (Below.size hB)
                  replace hB := below_ext hB hE84 (Nat.le_refl _)
                  replace hm0_0 := hE84.at hm0_0
                  replace hm0_1 := hE84.at hm0_1
                  replace hm3_6 := hE84.at hm3_6
                  replace ho_hP6_1 := hE84.ow ho_hP6_1
                  replace hS := hS.trans hE84
                  clear hE84
                  clear hsz85
                  obtain rfl := hP12_21
                  refine WT_take (dd := some 81) 22 rfl (by kernel_rfl) (by kernel_rfl) (by kernel_rfl) rfl rfl rfl (fun _wq _hq => r_eqlB rfl rfl Try.underlying4) hS ?_
                  refine WT_take (dd := some 82) 23 rfl (by kernel_rfl) (by kernel_rfl) (by kernel_rfl) rfl rfl rfl (fun _wq _hq => r_pick_t rfl (v := .bool _) rfl) hS ?_
                  refine WT_split (dd := some 83) 24 rfl (by kernel_rfl) (by kernel_rfl) (by kernel_rfl) rfl rfl rfl (fun wq hq => r_move (v := .bool _) rfl) hS (fun hs12_24 => ?_) (fun hs12_24 => ?_)
                  ·
                    try with_reducible replace hs12_24 := of_decide_eq_true hs12_24
                    refine WT_one (dd := some 84) 25 (by kernel_rfl) rfl rfl rfl rfl (Yd.call (r_call0 tb_c58) (C_drawknifelaw10_knows _) (fun v12_25 W86 hE87 hP12_25 => ⟨.inl (hS.trans hE87), ?_⟩))
                    have hsz88 := (Below.size hB)
                    replace hB := below_ext hB hE87 (Nat.le_refl _)
                    replace hm0_0 := hE87.at hm0_0
                    replace hm0_1 := hE87.at hm0_1
                    replace hm3_6 := hE87.at hm3_6
                    replace ho_hP6_1 := hE87.ow ho_hP6_1
                    replace hS := hS.trans hE87
                    clear hE87
                    clear hsz88
                    obtain rfl := hP12_25
                    refine WT_take (dd := some 85) 26 rfl (by kernel_rfl) (by kernel_rfl) (by kernel_rfl) rfl rfl rfl (fun _wq _hq => r_pick_t rfl (v := .bool _) rfl) hS ?_
                    refine WT_take (dd := some 4) 27 rfl (by kernel_rfl) (by kernel_rfl) (by kernel_rfl) rfl rfl rfl (fun _wq _hq => r_assign (v := .bool _) rfl) hS ?_
                    refine WT_done (by kernel_rfl) ?_
                    try clear sv79_hB sv79_hm0_0 sv79_hm0_1 sv79_hm3_6 sv79_ho_hP6_1
                    refine hK73 _ _ ?_
                    clear hK73 K72
                    refine WC_ret ?_
                    repeat (first | refine thenQ_ret ?_ | refine blockQ_ret ?_)
                    refine ret_t (v := .bool _) rfl ?_
                    refine ⟨hB, ?_⟩
                    rfl
                  ·
                    try with_reducible replace hs12_24 := of_decide_eq_false hs12_24
                    exact absurd (grow_eq hi) hs12_24
                ·
                  try with_reducible replace hs12_15 := of_decide_eq_false hs12_15
                  exact absurd hgp.1 (by rw [hs12_15]; decide)
              ·
                try with_reducible replace hs12_10 := of_decide_eq_false hs12_10
                exact absurd hgp.2 (by rw [hs12_10]; decide)
            ·
              try with_reducible replace hs12_5 := of_decide_eq_false hs12_5
              have hk2 : k = (allR S).length := by omega
              subst hk2
              exact absurd (metR_all ((mem_allR hr).2 hgp.1)) (by rw [hs12_5]; decide)
          ·
            try with_reducible replace hs12_2 := of_decide_eq_false hs12_2
            exact absurd rfl hs12_2

theorem C_drawknifelaw10_MultiOne (s : Nat) (n : Int) (w : World) :
    Fn Try.prog 15 #[setV s, .int .i64 n] w fun v w' => v = .bool true := by
  refine Fn_intro (n := 70) Try.func15 rfl rfl (Nat.le_of_ble_eq_true rfl) ?_
  have hB : Below w.heap.size w w := Below.refl _ _
  refine WC_seq (fun K1 hK2 => ?_)
  refine WC_region ?_
  refine WL_step (dd := some 2) rfl rfl rfl (Y_box (c := #[_, _, _, _]) rfl rfl (fun b0_0 W3 hb4 hE5 hm0_0 => ?_))
  have lo_b0_0 : w.heap.size ≤ b0_0 := hb4 ▸ (Below.size hB)
  clear hb4
  replace hB := below_ext hB hE5 (Nat.le_refl _)
  clear hE5
  refine WL_val (dd := some 4) rfl rfl rfl (r_assign (v := .bool false) rfl) ?_
  refine WL_nil ?_
  refine hK2 _ _ ?_
  clear hK2 K1
  refine WC_seq (fun K6 hK7 => ?_)
  refine WC_region ?_
  refine WL_val (dd := some 11) rfl rfl rfl (r_move (v := .int .i64 _) rfl) ?_
  refine WL_val (dd := some 12) (v := setV 0) rfl rfl rfl (tb_build24_ ) ?_
  refine WL_step (dd := some 13) rfl rfl rfl (Y_lit1 (u := .agg #[_, _, _, _]) rfl tb_el62 tb_zs24 rfl (by decide) (by decide) (fun b1_2 W8 hb9 hE10 hm1_2 => ?_))
  have lo_b1_2 : w.heap.size ≤ b1_2 := hb9 ▸ (Below.size hB)
  have ne_b0_0_b1_2 : b0_0 ≠ b1_2 := Nat.ne_of_lt (hb9 ▸ hm0_0.lt)
  clear hb9
  replace hB := below_ext hB hE10 (Nat.le_refl _)
  replace hm0_0 := hE10.at hm0_0
  clear hE10
  refine WL_val (dd := some 14) rfl rfl rfl (r_loadW rfl tb_ag24 rfl hm0_0) ?_
  refine WL_step (dd := some 15) rfl rfl rfl (Y_lit1 (u := .agg #[_, _, _, _]) rfl tb_el62 tb_zs24 rfl (by decide) (by decide) (fun b1_4 W11 hb12 hE13 hm1_4 => ?_))
  have lo_b1_4 : w.heap.size ≤ b1_4 := hb12 ▸ (Below.size hB)
  have ne_b0_0_b1_4 : b0_0 ≠ b1_4 := Nat.ne_of_lt (hb12 ▸ hm0_0.lt)
  have ne_b1_2_b1_4 : b1_2 ≠ b1_4 := Nat.ne_of_lt (hb12 ▸ hm1_2.lt)
  clear hb12
  replace hB := below_ext hB hE13 (Nat.le_refl _)
  replace hm0_0 := hE13.at hm0_0
  replace hm1_2 := hE13.at hm1_2
  clear hE13
  have ho14 := own_lit1 (enc := encS) (a := _) hm1_2 rfl rfl lo_b1_2
  clear hm1_2
  have ho15 := own_lit1 (enc := encS) (a := _) hm1_4 rfl rfl lo_b1_4
  clear hm1_4
  refine WL_val (dd := some 16) rfl rfl rfl (tb_build64_0_1_2 (h0 := rfl) (k0 := rfl) (h1 := rfl) (k1 := rfl) (h2 := rfl) (k2 := rfl) (c0_0 := .int .i64 _) (c1_0 := .slice (some ⟨b1_2, 0, none⟩) 1 1) (c2_0 := .slice (some ⟨b1_4, 0, none⟩) 1 1)) ?_
  refine WL_step (dd := some 5) rfl rfl rfl (Y_alloc tb_z64 rfl (fun b1_6 W16 hb17 hE18 hm1_6 => ?_))
  have lo_b1_6 : w.heap.size ≤ b1_6 := hb17 ▸ (Below.size hB)
  clear hb17
  replace hB := below_ext hB hE18 (Nat.le_refl _)
  replace hm0_0 := hE18.at hm0_0
  replace ho14 := hE18.ow ho14
  replace ho15 := hE18.ow ho15
  clear hE18
  refine WL_step (dd := none) rfl rfl rfl (Y_storeW rfl rfl tb_ag64 rfl hm1_6 rfl (by rfl) (fun W19 hG20 hm21 => ?_))
  replace hB := below_grown hB hG20 (Nat.le_refl _) (fun j hj => by cases hj; exact lo_b1_6)
  replace hm0_0 := At.grownAt hm0_0 hm1_6 hG20 (by decide)
  replace ho14 := OwT.grownAt ho14 hm1_6 hG20 (by decide)
  replace ho15 := OwT.grownAt ho15 hm1_6 hG20 (by decide)
  clear hG20 hm1_6
  have hm1_6 := hm21
  clear hm21
  refine WL_nil ?_
  refine hK7 _ _ ?_
  clear hK7 K6
  refine WC_seq (fun K22 hK23 => ?_)
  refine WC_seq (fun K24 hK25 => ?_)
  refine WC_region ?_
  refine WL_val (dd := some 17) rfl rfl rfl (r_loadW rfl tb_ag64 rfl hm1_6) ?_
  refine WL_call (dd := some 18) rfl rfl rfl (r_call1 tb_c56 (v0 := .agg #[_, _, _]) rfl) (C_drawkniferef04_Right ⟨n, [0], [s]⟩ _ _ _ ho14.sl ho15.sl) (fun v2_1 W26 hE27 hP2_1 => ?_)
  have hsz28 := (Below.size hB)
  replace hB := below_ext hB hE27 (Nat.le_refl _)
  replace hm0_0 := hE27.at hm0_0
  replace ho14 := hE27.ow ho14
  replace ho15 := hE27.ow ho15
  replace hm1_6 := hE27.at hm1_6
  clear hE27
  clear hsz28
  obtain rfl := hP2_1
  refine WL_val (dd := some 19) rfl rfl rfl (r_not rfl) ?_
  refine WL_nil ?_
  refine hK25 _ _ ?_
  clear hK25 K24
  refine WC_cond (b := _) rfl (fun hc0 => ?_) (fun hc0 => ?_)
  ·
    try with_reducible replace hc0 := of_decide_eq_true hc0
    refine WC_seq (fun K29 hK30 => ?_)
    refine WC_region ?_
    refine WL_call (dd := some 20) rfl rfl rfl (r_call0 tb_c58) (C_drawknifelaw10_knows _) (fun v3_0 W31 hE32 hP3_0 => ?_)
    have hsz33 := (Below.size hB)
    replace hB := below_ext hB hE32 (Nat.le_refl _)
    replace hm0_0 := hE32.at hm0_0
    replace ho14 := hE32.ow ho14
    replace ho15 := hE32.ow ho15
    replace hm1_6 := hE32.at hm1_6
    clear hE32
    clear hsz33
    obtain rfl := hP3_0
    refine WL_val (dd := some 4) rfl rfl rfl (r_assign (v := .bool _) rfl) ?_
    refine WL_nil ?_
    refine hK30 _ _ ?_
    clear hK30 K29
    refine WC_ret ?_
    repeat (first | refine thenQ_ret ?_ | refine blockQ_ret ?_)
    try clear hK23 K22
    refine ret_t (v := .bool _) rfl ?_
    refine ⟨hB, ?_⟩
    rfl
  ·
    try with_reducible replace hc0 := of_decide_eq_false hc0
    refine WC_skip ?_
    refine hK23 _ _ ?_
    clear hK23 K22
    refine WC_seq (fun K34 hK35 => ?_)
    have hof : ofB s n = true := one_right.symm.trans (not_f hc0)
    have hr : rightS ⟨n, [0], [s]⟩ = true := not_f hc0
    refine WC_region ?_
    refine WL_val (dd := some 22) rfl rfl rfl (r_loadW rfl tb_ag64 rfl hm1_6) ?_
    refine WL_call (dd := some 23) rfl rfl rfl (r_call1 tb_c59 (v0 := .agg #[_, _, _]) rfl) (C_multi_All ⟨n, [0], [s]⟩ _ _ _ ho14.sl ho15.sl) (fun v4_1 W36 hE37 hP4_1 => ?_)
    have hsz38 := (Below.size hB)
    replace hB := below_ext hB hE37 (Nat.le_refl _)
    replace hm0_0 := hE37.at hm0_0
    replace ho14 := hE37.ow ho14
    replace ho15 := hE37.ow ho15
    replace hm1_6 := hE37.at hm1_6
    clear hE37
    obtain ⟨x_hP4_1, er_hP4_1, l_hP4_1, rfl, ho_hP4_1, hc_hP4_1⟩ := own_res hP4_1
    replace ho_hP4_1 := OwT.mono ho_hP4_1 hsz38
    clear hsz38
    refine WL_val (dd := some 21) rfl rfl rfl (r_move (v := .tuple #[x_hP4_1, .int .i64 _]) rfl) ?_
    refine WL_val (dd := some 24) rfl rfl rfl (r_ext2_0 (h := rfl)) ?_
    refine WL_val (dd := some 25) rfl rfl rfl (r_ext2_1 (h := rfl)) ?_
    refine WL_val (dd := some 6) rfl rfl rfl (r_assign (v := x_hP4_1) rfl) ?_
    refine WL_val (dd := some 7) rfl rfl rfl (r_assign (v := .int .i64 _) rfl) ?_
    refine WL_nil ?_
    refine hK35 _ _ ?_
    clear hK35 K34
    refine WC_seq (fun K39 hK40 => ?_)
    refine WC_region ?_
    refine WL_val (dd := some 27) rfl rfl rfl (r_loadW rfl tb_ag24 rfl hm0_0) ?_
    refine WL_val (dd := some 28) rfl rfl rfl (r_move (v := .int .i64 _) rfl) ?_
    refine WL_call (dd := some 29) rfl rfl rfl (r_call2 tb_c25 (v0 := .agg #[_, _, _, _]) rfl (v1 := .int .i64 _) rfl) (C_prime_All _ _ _) (fun v5_2 W41 hE42 hP5_2 => ?_)
    have hsz43 := (Below.size hB)
    replace hB := below_ext hB hE42 (Nat.le_refl _)
    replace hm0_0 := hE42.at hm0_0
    replace ho14 := hE42.ow ho14
    replace ho15 := hE42.ow ho15
    replace hm1_6 := hE42.at hm1_6
    replace ho_hP4_1 := hE42.ow ho_hP4_1
    clear hE42
    obtain ⟨x_hP5_2, er_hP5_2, l_hP5_2, rfl, ho_hP5_2, hc_hP5_2⟩ := all_res hP5_2
    replace ho_hP5_2 := OwT.mono ho_hP5_2 hsz43
    clear hsz43
    refine WL_val (dd := some 26) rfl rfl rfl (r_move (v := .tuple #[x_hP5_2, .int .i64 _]) rfl) ?_
    refine WL_val (dd := some 30) rfl rfl rfl (r_ext2_0 (h := rfl)) ?_
    refine WL_val (dd := some 31) rfl rfl rfl (r_ext2_1 (h := rfl)) ?_
    refine WL_val (dd := some 8) rfl rfl rfl (r_assign (v := x_hP5_2) rfl) ?_
    refine WL_val (dd := some 9) rfl rfl rfl (r_assign (v := .int .i64 _) rfl) ?_
    refine WL_nil ?_
    refine hK40 _ _ ?_
    clear hK40 K39
    refine WC_seq (fun K44 hK45 => ?_)
    refine WC_seq (fun K46 hK47 => ?_)
    obtain ⟨q2, q3⟩ := hc_hP4_1.elim (fun h => h.2) (fun h => absurd hr (by rw [h.1]; decide))
    subst q2 q3
    obtain ⟨q4, q5⟩ := hc_hP5_2.elim (fun h => h.2) (fun h => absurd hof (by rw [h.1]; decide))
    subst q4 q5
    have hl1 := one_len hof
    have hl2 := primesL_len (s := s) (of_bounds hof).2
    refine WC_region ?_
    refine WL_val (dd := some 32) rfl rfl rfl (r_move (v := x_hP4_1) rfl) ?_
    refine WL_val (dd := some 33) rfl rfl rfl (r_lenS (v := x_hP4_1) rfl ho_hP4_1.sl tb_el65) ?_
    refine WL_val (dd := some 34) rfl rfl rfl (r_move (v := x_hP5_2) rfl) ?_
    refine WL_val (dd := some 35) rfl rfl rfl (r_lenS (v := x_hP5_2) rfl ho_hP5_2.sl tb_el27) ?_
    refine WL_val (dd := some 36) rfl rfl rfl (r_neq rfl rfl) ?_
    refine WL_nil ?_
    refine hK47 _ _ ?_
    clear hK47 K46
    refine WC_cond (b := _) rfl (fun hc1 => ?_) (fun hc1 => ?_)
    ·
      try with_reducible replace hc1 := of_decide_eq_true hc1
      exact absurd (congrArg Int.ofNat hl1) hc1
    ·
      try with_reducible replace hc1 := of_decide_eq_false hc1
      refine WC_skip ?_
      refine hK45 _ _ ?_
      clear hK45 K44
      refine WC_seq (fun K48 hK49 => ?_)
      refine WC_seq (fun K50 hK51 => ?_)
      refine WC_region ?_
      refine WL_val (dd := some 10) rfl rfl rfl (r_assign (v := .int .i64 0) rfl) ?_
      refine WL_nil ?_
      refine hK51 _ _ ?_
      clear hK51 K50
      refine WC_block ?_
      refine WC_loop (σ := (Nat)) [4, 10, 37, 38, 39, 40, 41, 42, 43, 44, 45, 46, 47, 48, 49, 50, 51, 52, 53, 54, 55, 56, 57, 58, 59, 60] (fun k => [(10, .int .i64 (k : Int))]) (fun k W => (Below w.heap.size w W) ∧ (At W b0_0 _ 24) ∧ (OwT encS 4 24 W w.heap.size (.slice (some ⟨b1_2, 0, none⟩) 1 1) _) ∧ (OwT encS 4 24 W w.heap.size (.slice (some ⟨b1_4, 0, none⟩) 1 1) _) ∧ (At W b1_6 _ 64) ∧ (OwT encR 3 79 W w.heap.size x_hP4_1 _) ∧ (OwT encC 2 34 W w.heap.size x_hP5_2 _) ∧ (k ≤ (primesL s n).length) ∧ (True)) (fun k => (primesL s n).length - k) (0) ⟨rfl, trivial⟩ ⟨hB, hm0_0, ho14, ho15, hm1_6, ho_hP4_1, ho_hP5_2, (Nat.zero_le _), trivial⟩ ?_
      clear hB hm0_0 ho14 ho15 hm1_6 ho_hP4_1 ho_hP5_2
      rintro k g53 W52 ⟨hB, hm0_0, ho14, ho15, hm1_6, ho_hP4_1, ho_hP5_2, hk, _⟩ J54 hJ55
      refine WC_seq (fun K56 hK57 => ?_)
      refine WC_seq (fun K58 hK59 => ?_)
      refine WC_region ?_
      refine WL_val (dd := some 37) rfl rfl rfl (r_move (v := .int .i64 _) rfl) ?_
      refine WL_val (dd := some 38) rfl rfl rfl (r_move (v := x_hP4_1) rfl) ?_
      refine WL_val (dd := some 39) rfl rfl rfl (r_lenS (v := x_hP4_1) rfl ho_hP4_1.sl tb_el65) ?_
      refine WL_val (dd := some 40) rfl rfl rfl (r_lss rfl rfl) ?_
      refine WL_nil ?_
      refine hK59 _ _ ?_
      clear hK59 K58
      refine WC_cond (b := _) rfl (fun hc2 => ?_) (fun hc2 => ?_)
      ·
        try with_reducible replace hc2 := of_decide_eq_true hc2
        refine WC_skip ?_
        refine hK57 _ _ ?_
        clear hK57 K56
        refine WC_seq (fun K60 hK61 => ?_)
        refine WC_block ?_
        refine WC_seq (fun K62 hK63 => ?_)
        have hg := one_get hof (i := k) (by omega)
        refine WC_draw Ext tb_mix (fun W64 hE65 => ?_)
        replace hB := below_ext hB hE65 (Nat.le_refl _)
        replace hm0_0 := hE65.at hm0_0
        replace ho14 := hE65.ow ho14
        replace ho15 := hE65.ow ho15
        replace hm1_6 := hE65.at hm1_6
        replace ho_hP4_1 := hE65.ow ho_hP4_1
        replace ho_hP5_2 := hE65.ow ho_hP5_2
        have hS := Ext.refl W64
        refine WT_take (dd := some 43) 0 rfl (by kernel_rfl) (by kernel_rfl) (by kernel_rfl) rfl rfl rfl (fun _wq _hq => r_move (v := x_hP4_1) rfl) hS ?_
        refine WT_take (dd := some 44) 1 rfl (by kernel_rfl) (by kernel_rfl) (by kernel_rfl) rfl rfl rfl (fun _wq _hq => r_move (v := .int .i64 _) rfl) hS ?_
        refine WT_take (dd := some 45) 2 rfl (by kernel_rfl) (by kernel_rfl) (by kernel_rfl) rfl rfl rfl (fun _wq hq => r_idxS (v := x_hP4_1) rfl ((hq.ow ho_hP4_1)).sl rfl tb_el65 (by omega) (by first | omega | (simp only [flagsTo_len, litsTo_len, firstF_len, ptF_len, setF_len]; omega))) hS ?_
        refine WT_take (dd := some 46) 3 rfl (by kernel_rfl) (by kernel_rfl) (by kernel_rfl) rfl rfl rfl (fun _wq _hq => r_fieldAddr (b := _) (o := _) rfl tb_fo79_0) hS ?_
        refine WT_take (dd := some 47) 4 rfl (by kernel_rfl) (by kernel_rfl) (by kernel_rfl) rfl rfl rfl (fun _wq hq => r_load2 rfl tb_ag34 (SlT.cell ((hq.ow ho_hP4_1)).sl encR_len ⟨⟨0, 0⟩, 0⟩ (by omega) (by first | omega | (simp only [flagsTo_len, litsTo_len, firstF_len, ptF_len, setF_len]; omega)) 0 rfl) (SlT.cell ((hq.ow ho_hP4_1)).sl encR_len ⟨⟨0, 0⟩, 0⟩ (by omega) (by first | omega | (simp only [flagsTo_len, litsTo_len, firstF_len, ptF_len, setF_len]; omega)) 1 rfl)) hS ?_
        refine WT_take (dd := some 48) 5 rfl (by kernel_rfl) (by kernel_rfl) (by kernel_rfl) rfl rfl rfl (fun _wq _hq => r_move (v := x_hP5_2) rfl) hS ?_
        refine WT_take (dd := some 49) 6 rfl (by kernel_rfl) (by kernel_rfl) (by kernel_rfl) rfl rfl rfl (fun _wq _hq => r_move (v := .int .i64 _) rfl) hS ?_
        refine WT_take (dd := some 50) 7 rfl (by kernel_rfl) (by kernel_rfl) (by kernel_rfl) rfl rfl rfl (fun _wq hq => r_idxS (v := x_hP5_2) rfl ((hq.ow ho_hP5_2)).sl rfl tb_el27 (by omega) (by first | omega | (simp only [flagsTo_len, litsTo_len, firstF_len, ptF_len, setF_len]; omega))) hS ?_
        refine WT_take (dd := some 51) 8 rfl (by kernel_rfl) (by kernel_rfl) (by kernel_rfl) rfl rfl rfl (fun _wq hq => r_load2 rfl tb_ag34 (SlT.cell ((hq.ow ho_hP5_2)).sl encC_len ⟨0, 0⟩ (by omega) (by first | omega | (simp only [flagsTo_len, litsTo_len, firstF_len, ptF_len, setF_len]; omega)) 0 rfl) (SlT.cell ((hq.ow ho_hP5_2)).sl encC_len ⟨0, 0⟩ (by omega) (by first | omega | (simp only [flagsTo_len, litsTo_len, firstF_len, ptF_len, setF_len]; omega)) 1 rfl)) hS ?_
        refine WT_take (dd := some 52) 9 rfl (by kernel_rfl) (by kernel_rfl) (by kernel_rfl) rfl rfl rfl (fun _wq _hq => tb_neq34 rfl rfl) hS ?_
        refine WT_split (dd := some 53) 10 rfl (by kernel_rfl) (by kernel_rfl) (by kernel_rfl) rfl rfl rfl (fun wq hq => r_move (v := .bool _) rfl) hS (fun hs11_10 => ?_) (fun hs11_10 => ?_)
        ·
          try with_reducible replace hs11_10 := of_decide_eq_true hs11_10
          exact absurd (by simp only [Int.toNat_natCast]; rw [hg]; exact ⟨rfl, rfl⟩) hs11_10
        ·
          try with_reducible replace hs11_10 := of_decide_eq_false hs11_10
          refine WT_take (dd := some 54) 11 rfl (by kernel_rfl) (by kernel_rfl) (by kernel_rfl) rfl rfl rfl (fun _wq _hq => r_move (v := x_hP4_1) rfl) hS ?_
          refine WT_take (dd := some 55) 12 rfl (by kernel_rfl) (by kernel_rfl) (by kernel_rfl) rfl rfl rfl (fun _wq _hq => r_move (v := .int .i64 _) rfl) hS ?_
          refine WT_take (dd := some 56) 13 rfl (by kernel_rfl) (by kernel_rfl) (by kernel_rfl) rfl rfl rfl (fun _wq hq => r_idxS (v := x_hP4_1) rfl ((hq.ow ho_hP4_1)).sl rfl tb_el65 (by omega) (by first | omega | (simp only [flagsTo_len, litsTo_len, firstF_len, ptF_len, setF_len]; omega))) hS ?_
          refine WT_take (dd := some 57) 14 rfl (by kernel_rfl) (by kernel_rfl) (by kernel_rfl) rfl rfl rfl (fun _wq _hq => r_fieldAddr (b := _) (o := _) rfl tb_fo79_1) hS ?_
          refine WT_take (dd := some 58) 15 rfl (by kernel_rfl) (by kernel_rfl) (by kernel_rfl) rfl rfl rfl (fun _wq hq => r_load1 (v := .int .u8 _) rfl tb_sc5 (SlT.cell ((hq.ow ho_hP4_1)).sl encR_len ⟨⟨0, 0⟩, 0⟩ (by omega) (by first | omega | (simp only [flagsTo_len, litsTo_len, firstF_len, ptF_len, setF_len]; omega)) 2 rfl)) hS ?_
          refine WT_take (dd := some 59) 16 rfl (by kernel_rfl) (by kernel_rfl) (by kernel_rfl) rfl rfl rfl (fun _wq _hq => r_neq rfl rfl) hS ?_
          refine WT_take (dd := some 60) 17 rfl (by kernel_rfl) (by kernel_rfl) (by kernel_rfl) rfl rfl rfl (fun _wq _hq => r_pick_f rfl (v := .bool _) rfl) hS ?_
          refine WT_done (by kernel_rfl) ?_
          refine hK63 _ _ ?_
          clear hK63 K62
          refine WC_cond (b := _) rfl (fun hc3 => ?_) (fun hc3 => ?_)
          ·
            try with_reducible replace hc3 := of_decide_eq_true hc3
            exact absurd (by simp only [Int.toNat_natCast]; rw [hg]; rfl) hc3
          ·
            try with_reducible replace hc3 := of_decide_eq_false hc3
            refine WC_skip ?_
            refine hK61 _ _ ?_
            clear hK61 K60
            refine WC_region ?_
            refine WL_val (dd := some 41) rfl rfl rfl (r_move (v := .int .i64 _) rfl) ?_
            refine WL_val (dd := some 42) rfl rfl rfl (r_addI rfl rfl (by omega) (by omega)) ?_
            refine WL_val (dd := some 10) rfl rfl rfl (r_assign (v := .int .i64 _) rfl) ?_
            refine WL_nil ?_
            refine hJ55 _ _ (k + 1) ?_ ?_ ?_ ?_
            · repeat (first | exact agree.mask _ _ _ | refine agree.updo ?_ rfl _ | refine agree.updL ?_ _ rfl | refine agree.maskS rfl ?_)
            · exact ⟨rfl, trivial⟩
            · exact ⟨hB, hm0_0, ho14, ho15, hm1_6, ho_hP4_1, ho_hP5_2, (by omega), trivial⟩
            · first | omega | (dsimp only; omega)
      ·
        try with_reducible replace hc2 := of_decide_eq_false hc2
        refine WC_exit ?_
        refine hK49 _ _ ?_
        clear hK57 K56
        clear hJ55 J54
        clear hK49 K48
        refine WC_seq (fun K66 hK67 => ?_)
        refine WC_region ?_
        refine WL_val (dd := some 61) rfl rfl rfl (r_move (v := .int .i64 _) rfl) ?_
        refine WL_val (dd := some 62) rfl rfl rfl (r_eql rfl rfl) ?_
        refine WL_split (dd := some 63) rfl rfl rfl (r_move (v := .bool _) rfl) (fun hs13_2 => ?_) (fun hs13_2 => ?_)
        ·
          try with_reducible replace hs13_2 := of_decide_eq_true hs13_2
          refine WL_val (dd := some 64) rfl rfl rfl (r_move (v := .int .i64 _) rfl) ?_
          refine WL_val (dd := some 65) rfl rfl rfl (r_eql rfl rfl) ?_
          refine WL_val (dd := some 66) rfl rfl rfl (r_pick_t rfl (v := .bool _) rfl) ?_
          refine WL_split (dd := some 67) rfl rfl rfl (r_move (v := .bool _) rfl) (fun hs13_6 => ?_) (fun hs13_6 => ?_)
          ·
            try with_reducible replace hs13_6 := of_decide_eq_true hs13_6
            refine WL_call (dd := some 68) rfl rfl rfl (r_call0 tb_c58) (C_drawknifelaw10_knows _) (fun v13_7 W68 hE69 hP13_7 => ?_)
            have hsz70 := (Below.size hB)
            replace hB := below_ext hB hE69 (Nat.le_refl _)
            replace hm0_0 := hE69.at hm0_0
            replace ho14 := hE69.ow ho14
            replace ho15 := hE69.ow ho15
            replace hm1_6 := hE69.at hm1_6
            replace ho_hP4_1 := hE69.ow ho_hP4_1
            replace ho_hP5_2 := hE69.ow ho_hP5_2
            clear hE69
            clear hsz70
            obtain rfl := hP13_7
            refine WL_val (dd := some 69) rfl rfl rfl (r_pick_t rfl (v := .bool _) rfl) ?_
            refine WL_val (dd := some 4) rfl rfl rfl (r_assign (v := .bool _) rfl) ?_
            refine WL_nil ?_
            refine hK67 _ _ ?_
            clear hK67 K66
            refine WC_ret ?_
            repeat (first | refine thenQ_ret ?_ | refine blockQ_ret ?_)
            refine ret_t (v := .bool _) rfl ?_
            refine ⟨hB, ?_⟩
            rfl
          ·
            try with_reducible replace hs13_6 := of_decide_eq_false hs13_6
            exact absurd rfl hs13_6
        ·
          try with_reducible replace hs13_2 := of_decide_eq_false hs13_2
          exact absurd rfl hs13_2

set_option maxRecDepth 10000 in
theorem C_drawknifelaw10_MultiHolds (S : Sp) (onV mayV : Value) (x : Rw) (w : World) (hon : SlT encS 4 w onV S.on) (hmay : SlT encS 4 w mayV S.may) (hbx : x.c.m < 256 ∧ x.c.v < 256 ∧ x.o < 256) :
    Fn Try.prog 18 #[.agg #[.int .i64 S.n, onV, mayV], .agg #[.int .u8 (x.c.m : Int), .int .u8 (x.c.v : Int), .int .u8 (x.o : Int)]] w fun v w' => v = .bool true := by
  refine Fn_intro (n := 103) Try.func18 rfl rfl (Nat.le_of_ble_eq_true rfl) ?_
  have hB : Below w.heap.size w w := Below.refl _ _
  refine WC_seq (fun K1 hK2 => ?_)
  refine WC_region ?_
  refine WL_step (dd := some 2) rfl rfl rfl (Y_box (c := #[_, _, _]) rfl rfl (fun b0_0 W3 hb4 hE5 hm0_0 => ?_))
  have lo_b0_0 : w.heap.size ≤ b0_0 := hb4 ▸ (Below.size hB)
  clear hb4
  replace hB := below_ext hB hE5 (Nat.le_refl _)
  clear hE5
  refine WL_step (dd := some 3) rfl rfl rfl (Y_box (c := #[_, _, _]) rfl rfl (fun b0_1 W6 hb7 hE8 hm0_1 => ?_))
  have lo_b0_1 : w.heap.size ≤ b0_1 := hb7 ▸ (Below.size hB)
  clear hb7
  replace hB := below_ext hB hE8 (Nat.le_refl _)
  replace hm0_0 := hE8.at hm0_0
  clear hE8
  refine WL_val (dd := some 4) rfl rfl rfl (r_assign (v := .bool false) rfl) ?_
  refine WL_nil ?_
  refine hK2 _ _ ?_
  clear hK2 K1
  refine WC_seq (fun K9 hK10 => ?_)
  refine WC_seq (fun K11 hK12 => ?_)
  refine WC_region ?_
  refine WL_val (dd := some 10) rfl rfl rfl (r_loadW rfl tb_ag64 rfl hm0_0) ?_
  refine WL_call (dd := some 11) rfl rfl rfl (r_call1 tb_c57 (v0 := .agg #[_, _, _]) rfl) (C_drawknifelaw10_Great S _ _  _ (Below.slT hB hon) (Below.slT hB hmay) ) (fun v1_1 W13 hE14 hP1_1 => ?_)
  have hsz15 := (Below.size hB)
  replace hB := below_ext hB hE14 (Nat.le_refl _)
  replace hm0_0 := hE14.at hm0_0
  replace hm0_1 := hE14.at hm0_1
  clear hE14
  clear hsz15
  obtain rfl := hP1_1
  refine WL_split (dd := some 12) rfl rfl rfl (r_move (v := .bool _) rfl) (fun hs1_2 => ?_) (fun hs1_2 => ?_)
  ·
    try with_reducible replace hs1_2 := of_decide_eq_true hs1_2
    refine WL_skip (dd := some 13) rfl rfl rfl ?_
    refine WL_skip (dd := some 14) rfl rfl rfl ?_
    refine WL_skip (dd := some 15) rfl rfl rfl ?_
    refine WL_val (dd := some 16) rfl rfl rfl (r_pick_t rfl (v := .bool true) rfl) ?_
    refine WL_val (dd := some 17) rfl rfl rfl (r_move (v := .bool true) rfl) ?_
    refine WL_skip (dd := some 18) rfl rfl rfl ?_
    refine WL_skip (dd := some 19) rfl rfl rfl ?_
    refine WL_skip (dd := some 20) rfl rfl rfl ?_
    refine WL_val (dd := some 21) rfl rfl rfl (r_pick_t rfl (v := .bool true) rfl) ?_
    refine WL_nil ?_
    refine hK12 _ _ ?_
    clear hK12 K11
    refine WC_cond_true rfl ?_
    refine WC_seq (fun K16 hK17 => ?_)
    refine WC_region ?_
    refine WL_call (dd := some 22) rfl rfl rfl (r_call0 tb_c58) (C_drawknifelaw10_knows _) (fun v2_0 W18 hE19 hP2_0 => ?_)
    have hsz20 := (Below.size hB)
    replace hB := below_ext hB hE19 (Nat.le_refl _)
    replace hm0_0 := hE19.at hm0_0
    replace hm0_1 := hE19.at hm0_1
    clear hE19
    clear hsz20
    obtain rfl := hP2_0
    refine WL_val (dd := some 4) rfl rfl rfl (r_assign (v := .bool _) rfl) ?_
    refine WL_nil ?_
    refine hK17 _ _ ?_
    clear hK17 K16
    refine WC_ret ?_
    repeat (first | refine thenQ_ret ?_ | refine blockQ_ret ?_)
    try clear hK10 K9
    refine ret_t (v := .bool _) rfl ?_
    refine ⟨hB, ?_⟩
    rfl
  ·
    try with_reducible replace hs1_2 := of_decide_eq_false hs1_2
    refine WL_val (dd := some 13) rfl rfl rfl (r_loadW rfl tb_ag64 rfl hm0_0) ?_
    refine WL_call (dd := some 14) rfl rfl rfl (r_call1 tb_c56 (v0 := .agg #[_, _, _]) rfl) (C_drawkniferef04_Right S _ _  _ (Below.slT hB hon) (Below.slT hB hmay) ) (fun v1_4 W21 hE22 hP1_4 => ?_)
    have hsz23 := (Below.size hB)
    replace hB := below_ext hB hE22 (Nat.le_refl _)
    replace hm0_0 := hE22.at hm0_0
    replace hm0_1 := hE22.at hm0_1
    clear hE22
    clear hsz23
    obtain rfl := hP1_4
    refine WL_val (dd := some 15) rfl rfl rfl (r_not rfl) ?_
    refine WL_val (dd := some 16) rfl rfl rfl (r_pick_f rfl (v := .bool _) rfl) ?_
    refine WL_split (dd := some 17) rfl rfl rfl (r_move (v := .bool _) rfl) (fun hs1_7 => ?_) (fun hs1_7 => ?_)
    ·
      try with_reducible replace hs1_7 := of_decide_eq_true hs1_7
      refine WL_skip (dd := some 18) rfl rfl rfl ?_
      refine WL_skip (dd := some 19) rfl rfl rfl ?_
      refine WL_skip (dd := some 20) rfl rfl rfl ?_
      refine WL_val (dd := some 21) rfl rfl rfl (r_pick_t rfl (v := .bool true) rfl) ?_
      refine WL_nil ?_
      refine hK12 _ _ ?_
      clear hK12 K11
      refine WC_cond_true rfl ?_
      refine WC_seq (fun K24 hK25 => ?_)
      refine WC_region ?_
      refine WL_call (dd := some 22) rfl rfl rfl (r_call0 tb_c58) (C_drawknifelaw10_knows _) (fun v2_0 W26 hE27 hP2_0 => ?_)
      have hsz28 := (Below.size hB)
      replace hB := below_ext hB hE27 (Nat.le_refl _)
      replace hm0_0 := hE27.at hm0_0
      replace hm0_1 := hE27.at hm0_1
      clear hE27
      clear hsz28
      obtain rfl := hP2_0
      refine WL_val (dd := some 4) rfl rfl rfl (r_assign (v := .bool _) rfl) ?_
      refine WL_nil ?_
      refine hK25 _ _ ?_
      clear hK25 K24
      refine WC_ret ?_
      repeat (first | refine thenQ_ret ?_ | refine blockQ_ret ?_)
      try clear hK10 K9
      refine ret_t (v := .bool _) rfl ?_
      refine ⟨hB, ?_⟩
      rfl
    ·
      try with_reducible replace hs1_7 := of_decide_eq_false hs1_7
      refine WL_val (dd := some 18) rfl rfl rfl (r_fieldAddr (b := _) (o := _) rfl tb_fo64_0) ?_
      refine WL_val (dd := some 19) rfl rfl rfl (r_load1 (v := .int .i64 _) rfl tb_sc3 (At.cell hm0_0 rfl)) ?_
      refine WL_val (dd := some 20) rfl rfl rfl (r_gtr rfl rfl) ?_
      refine WL_val (dd := some 21) rfl rfl rfl (r_pick_f rfl (v := .bool _) rfl) ?_
      refine WL_nil ?_
      refine hK12 _ _ ?_
      clear hK12 K11
      refine WC_cond (b := _) rfl (fun hc0 => ?_) (fun hc0 => ?_)
      ·
        try with_reducible replace hc0 := of_decide_eq_true hc0
        refine WC_seq (fun K29 hK30 => ?_)
        refine WC_region ?_
        refine WL_call (dd := some 22) rfl rfl rfl (r_call0 tb_c58) (C_drawknifelaw10_knows _) (fun v2_0 W31 hE32 hP2_0 => ?_)
        have hsz33 := (Below.size hB)
        replace hB := below_ext hB hE32 (Nat.le_refl _)
        replace hm0_0 := hE32.at hm0_0
        replace hm0_1 := hE32.at hm0_1
        clear hE32
        clear hsz33
        obtain rfl := hP2_0
        refine WL_val (dd := some 4) rfl rfl rfl (r_assign (v := .bool _) rfl) ?_
        refine WL_nil ?_
        refine hK30 _ _ ?_
        clear hK30 K29
        refine WC_ret ?_
        repeat (first | refine thenQ_ret ?_ | refine blockQ_ret ?_)
        try clear hK10 K9
        refine ret_t (v := .bool _) rfl ?_
        refine ⟨hB, ?_⟩
        rfl
      ·
        try with_reducible replace hc0 := of_decide_eq_false hc0
        refine WC_skip ?_
        refine hK10 _ _ ?_
        clear hK10 K9
        refine WC_seq (fun K34 hK35 => ?_)
        have hr : rightS S = true := not_f hs1_7
        obtain ⟨hon20, hmay20⟩ := great_no hs1_2
        have hal := allR_len hr
        refine WC_region ?_
        refine WL_val (dd := some 24) rfl rfl rfl (r_loadW rfl tb_ag64 rfl hm0_0) ?_
        refine WL_call (dd := some 25) rfl rfl rfl (r_call1 tb_c59 (v0 := .agg #[_, _, _]) rfl) (C_multi_All S _ _  _ (Below.slT hB hon) (Below.slT hB hmay) ) (fun v3_1 W36 hE37 hP3_1 => ?_)
        have hsz38 := (Below.size hB)
        replace hB := below_ext hB hE37 (Nat.le_refl _)
        replace hm0_0 := hE37.at hm0_0
        replace hm0_1 := hE37.at hm0_1
        clear hE37
        obtain ⟨x_hP3_1, er_hP3_1, l_hP3_1, rfl, ho_hP3_1, hc_hP3_1⟩ := own_res hP3_1
        replace ho_hP3_1 := OwT.mono ho_hP3_1 hsz38
        clear hsz38
        refine WL_val (dd := some 23) rfl rfl rfl (r_move (v := .tuple #[x_hP3_1, .int .i64 _]) rfl) ?_
        refine WL_val (dd := some 26) rfl rfl rfl (r_ext2_0 (h := rfl)) ?_
        refine WL_val (dd := some 27) rfl rfl rfl (r_ext2_1 (h := rfl)) ?_
        refine WL_val (dd := some 5) rfl rfl rfl (r_assign (v := x_hP3_1) rfl) ?_
        refine WL_val (dd := some 6) rfl rfl rfl (r_assign (v := .int .i64 _) rfl) ?_
        refine WL_nil ?_
        refine hK35 _ _ ?_
        clear hK35 K34
        refine WC_seq (fun K39 hK40 => ?_)
        obtain ⟨q2, q3⟩ := hc_hP3_1.elim (fun h => h.2) (fun h => absurd hr (by rw [h.1]; decide))
        subst q2 q3
        refine WC_region ?_
        refine WL_val (dd := some 7) rfl rfl rfl (r_assign (v := .bool false) rfl) ?_
        refine WL_nil ?_
        refine hK40 _ _ ?_
        clear hK40 K39
        refine WC_seq (fun K41 hK42 => ?_)
        refine WC_seq (fun K43 hK44 => ?_)
        refine WC_region ?_
        refine WL_val (dd := some 8) rfl rfl rfl (r_assign (v := .int .i64 0) rfl) ?_
        refine WL_nil ?_
        refine hK44 _ _ ?_
        clear hK44 K43
        refine WC_block ?_
        refine WC_loop (σ := (Nat)) [4, 7, 8, 9, 28, 29, 30, 31, 32, 33, 34, 35, 36, 37, 38, 39, 40, 41, 42, 43, 44, 45, 46, 47, 48, 49, 50, 51, 52, 53, 54, 55, 56, 57, 58, 59, 60, 61, 62, 63, 64, 65, 66, 67, 68, 69, 70, 71, 72, 73, 74, 75, 76, 77, 78, 79, 80, 81, 82, 83] (fun i => [(8, .int .i64 (i : Int)), (7, .bool (heldR (allR S) x i))]) (fun i W => (Below w.heap.size w W) ∧ (At W b0_0 _ 64) ∧ (At W b0_1 _ 79) ∧ (OwT encR 3 79 W w.heap.size x_hP3_1 _) ∧ (i ≤ (allR S).length) ∧ (True)) (fun i => (allR S).length - i) (0) ⟨rfl, rfl, trivial⟩ ⟨hB, hm0_0, hm0_1, ho_hP3_1, (Nat.zero_le _), trivial⟩ ?_
        clear hB hm0_0 hm0_1 ho_hP3_1
        rintro i g46 W45 ⟨hB, hm0_0, hm0_1, ho_hP3_1, hi, _⟩ J47 hJ48
        refine WC_seq (fun K49 hK50 => ?_)
        refine WC_seq (fun K51 hK52 => ?_)
        refine WC_region ?_
        refine WL_val (dd := some 28) rfl rfl rfl (r_move (v := .int .i64 _) rfl) ?_
        refine WL_val (dd := some 29) rfl rfl rfl (r_move (v := x_hP3_1) rfl) ?_
        refine WL_val (dd := some 30) rfl rfl rfl (r_lenS (v := x_hP3_1) rfl ho_hP3_1.sl tb_el65) ?_
        refine WL_val (dd := some 31) rfl rfl rfl (r_lss rfl rfl) ?_
        refine WL_nil ?_
        refine hK52 _ _ ?_
        clear hK52 K51
        refine WC_cond (b := _) rfl (fun hc1 => ?_) (fun hc1 => ?_)
        ·
          try with_reducible replace hc1 := of_decide_eq_true hc1
          refine WC_skip ?_
          refine hK50 _ _ ?_
          clear hK50 K49
          refine WC_seq (fun K53 hK54 => ?_)
          refine WC_block ?_
          refine WC_seq (fun K55 hK56 => ?_)
          refine WC_seq (fun K57 hK58 => ?_)
          have hbi := (allR_b hr).get (k := i) (by omega)
          have hpi := allR_prime hr (i := i) (by omega)
          refine WC_draw Ext tb_mix (fun W59 hE60 => ?_)
          replace hB := below_ext hB hE60 (Nat.le_refl _)
          replace hm0_0 := hE60.at hm0_0
          replace hm0_1 := hE60.at hm0_1
          replace ho_hP3_1 := hE60.ow ho_hP3_1
          have hS := Ext.refl W59
          refine WT_take (dd := some 34) 0 rfl (by kernel_rfl) (by kernel_rfl) (by kernel_rfl) rfl rfl rfl (fun _wq hq => r_loadW rfl tb_ag64 rfl (hq.at hm0_0)) hS ?_
          refine WT_take (dd := some 35) 1 rfl (by kernel_rfl) (by kernel_rfl) (by kernel_rfl) rfl rfl rfl (fun _wq _hq => r_move (v := x_hP3_1) rfl) hS ?_
          refine WT_take (dd := some 36) 2 rfl (by kernel_rfl) (by kernel_rfl) (by kernel_rfl) rfl rfl rfl (fun _wq _hq => r_move (v := .int .i64 _) rfl) hS ?_
          refine WT_take (dd := some 37) 3 rfl (by kernel_rfl) (by kernel_rfl) (by kernel_rfl) rfl rfl rfl (fun _wq hq => r_idxS (v := x_hP3_1) rfl ((hq.ow ho_hP3_1)).sl rfl tb_el65 (by omega) (by first | omega | (simp only [flagsTo_len, litsTo_len, firstF_len, ptF_len, setF_len]; omega))) hS ?_
          refine WT_take (dd := some 38) 4 rfl (by kernel_rfl) (by kernel_rfl) (by kernel_rfl) rfl rfl rfl (fun _wq hq => r_load3 rfl tb_ag79 (SlT.cell ((hq.ow ho_hP3_1)).sl encR_len ⟨⟨0, 0⟩, 0⟩ (by omega) (by first | omega | (simp only [flagsTo_len, litsTo_len, firstF_len, ptF_len, setF_len]; omega)) 0 rfl) (SlT.cell ((hq.ow ho_hP3_1)).sl encR_len ⟨⟨0, 0⟩, 0⟩ (by omega) (by first | omega | (simp only [flagsTo_len, litsTo_len, firstF_len, ptF_len, setF_len]; omega)) 1 rfl) (SlT.cell ((hq.ow ho_hP3_1)).sl encR_len ⟨⟨0, 0⟩, 0⟩ (by omega) (by first | omega | (simp only [flagsTo_len, litsTo_len, firstF_len, ptF_len, setF_len]; omega)) 2 rfl)) hS ?_
          refine WT_one (dd := some 39) 5 (by kernel_rfl) rfl rfl rfl rfl (Yd.call (r_call2 tb_c65 (v0 := .agg #[_, _, _]) rfl (v1 := .agg #[_, _, _]) rfl) (C_drawkniferef10_Within S _ _ ((allR S).getD i ⟨⟨0, 0⟩, 0⟩).c.m ((allR S).getD i ⟨⟨0, 0⟩, 0⟩).c.v ((allR S).getD i ⟨⟨0, 0⟩, 0⟩).o _ (Below.slT hB hon) (Below.slT hB hmay) hr hbi.1 hbi.2.1 hbi.2.2) (fun v8_5 W61 hE62 hP8_5 => ⟨.inl (hS.trans hE62), ?_⟩))
          have hsz63 := (Below.size hB)
          have sv64_hB := hB
          have sv64_hm0_0 := hm0_0
          have sv64_hm0_1 := hm0_1
          have sv64_ho_hP3_1 := ho_hP3_1
          replace hB := below_ext hB hE62 (Nat.le_refl _)
          replace hm0_0 := hE62.at hm0_0
          replace hm0_1 := hE62.at hm0_1
          replace ho_hP3_1 := hE62.ow ho_hP3_1
          replace hS := hS.trans hE62
          clear hE62
          clear hsz63
          obtain rfl := hP8_5
          refine WT_take (dd := some 40) 6 rfl (by kernel_rfl) (by kernel_rfl) (by kernel_rfl) rfl rfl rfl (fun _wq _hq => r_not rfl) hS ?_
          refine WT_split (dd := some 41) 7 rfl (by kernel_rfl) (by kernel_rfl) (by kernel_rfl) rfl rfl rfl (fun wq hq => r_move (v := .bool _) rfl) hS (fun hs8_7 => ?_) (fun hs8_7 => ?_)
          ·
            try with_reducible replace hs8_7 := of_decide_eq_true hs8_7
            exact absurd (show inR S ((allR S).getD i ⟨⟨0, 0⟩, 0⟩) = true from (primeR_iff.1 hpi).1) (by have h := not_t hs8_7; intro h2; exact Bool.noConfusion (h2.symm.trans h))
          ·
            try with_reducible replace hs8_7 := of_decide_eq_false hs8_7
            refine WT_take (dd := some 42) 8 rfl (by kernel_rfl) (by kernel_rfl) (by kernel_rfl) rfl rfl rfl (fun _wq hq => r_loadW rfl tb_ag64 rfl (hq.at sv64_hm0_0)) hS ?_
            refine WT_take (dd := some 43) 9 rfl (by kernel_rfl) (by kernel_rfl) (by kernel_rfl) rfl rfl rfl (fun _wq _hq => r_move (v := x_hP3_1) rfl) hS ?_
            refine WT_take (dd := some 44) 10 rfl (by kernel_rfl) (by kernel_rfl) (by kernel_rfl) rfl rfl rfl (fun _wq _hq => r_move (v := .int .i64 _) rfl) hS ?_
            refine WT_take (dd := some 45) 11 rfl (by kernel_rfl) (by kernel_rfl) (by kernel_rfl) rfl rfl rfl (fun _wq hq => r_idxS (v := x_hP3_1) rfl ((hq.ow sv64_ho_hP3_1)).sl rfl tb_el65 (by omega) (by first | omega | (simp only [flagsTo_len, litsTo_len, firstF_len, ptF_len, setF_len]; omega))) hS ?_
            refine WT_take (dd := some 46) 12 rfl (by kernel_rfl) (by kernel_rfl) (by kernel_rfl) rfl rfl rfl (fun _wq hq => r_load3 rfl tb_ag79 (SlT.cell ((hq.ow sv64_ho_hP3_1)).sl encR_len ⟨⟨0, 0⟩, 0⟩ (by omega) (by first | omega | (simp only [flagsTo_len, litsTo_len, firstF_len, ptF_len, setF_len]; omega)) 0 rfl) (SlT.cell ((hq.ow sv64_ho_hP3_1)).sl encR_len ⟨⟨0, 0⟩, 0⟩ (by omega) (by first | omega | (simp only [flagsTo_len, litsTo_len, firstF_len, ptF_len, setF_len]; omega)) 1 rfl) (SlT.cell ((hq.ow sv64_ho_hP3_1)).sl encR_len ⟨⟨0, 0⟩, 0⟩ (by omega) (by first | omega | (simp only [flagsTo_len, litsTo_len, firstF_len, ptF_len, setF_len]; omega)) 2 rfl)) hS ?_
            refine WT_one (dd := some 47) 13 (by kernel_rfl) rfl rfl rfl rfl (Yd.call (r_call2 tb_c63 (v0 := .agg #[_, _, _]) rfl (v1 := .agg #[_, _, _]) rfl) (C_multi_Prime S _ _ ((allR S).getD i ⟨⟨0, 0⟩, 0⟩) _ (Below.slT hB hon) (Below.slT hB hmay) hbi) (fun v8_13 W65 hE66 hP8_13 => ⟨.inl (hS.trans hE66), ?_⟩))
            have hsz67 := (Below.size hB)
            replace hB := below_ext hB hE66 (Nat.le_refl _)
            replace hm0_0 := hE66.at hm0_0
            replace hm0_1 := hE66.at hm0_1
            replace ho_hP3_1 := hE66.ow ho_hP3_1
            replace hS := hS.trans hE66
            clear hE66
            clear hsz67
            obtain rfl := hP8_13
            refine WT_take (dd := some 48) 14 rfl (by kernel_rfl) (by kernel_rfl) (by kernel_rfl) rfl rfl rfl (fun _wq _hq => r_not rfl) hS ?_
            refine WT_take (dd := some 49) 15 rfl (by kernel_rfl) (by kernel_rfl) (by kernel_rfl) rfl rfl rfl (fun _wq _hq => r_pick_f rfl (v := .bool _) rfl) hS ?_
            refine WT_done (by kernel_rfl) ?_
            try clear sv64_hB sv64_hm0_0 sv64_hm0_1 sv64_ho_hP3_1
            refine hK58 _ _ ?_
            clear hK58 K57
            refine WC_cond (b := _) rfl (fun hc2 => ?_) (fun hc2 => ?_)
            ·
              try with_reducible replace hc2 := of_decide_eq_true hc2
              exact absurd (show primeR S ((allR S).getD i ⟨⟨0, 0⟩, 0⟩) = true from hpi) (by have h := not_t hc2; intro h2; exact Bool.noConfusion (h2.symm.trans h))
            ·
              try with_reducible replace hc2 := of_decide_eq_false hc2
              refine WC_skip ?_
              refine hK56 _ _ ?_
              clear hK56 K55
              refine WC_seq (fun K68 hK69 => ?_)
              refine WC_seq (fun K70 hK71 => ?_)
              refine WC_region ?_
              refine WL_val (dd := some 9) rfl rfl rfl (r_assign (v := .int .i64 0) rfl) ?_
              refine WL_nil ?_
              refine hK71 _ _ ?_
              clear hK71 K70
              refine WC_block ?_
              refine WC_loop (σ := (Nat)) [4, 9, 50, 51, 52, 53, 54, 55, 56, 57, 58, 59, 60, 61, 62, 63, 64, 65, 66, 67, 68, 69, 70, 71, 72, 73, 74] (fun k => [(9, .int .i64 (k : Int))]) (fun k W => (Below w.heap.size w W) ∧ (At W b0_0 _ 64) ∧ (At W b0_1 _ 79) ∧ (OwT encR 3 79 W w.heap.size x_hP3_1 _) ∧ (k ≤ i) ∧ (True)) (fun k => i - k) (0) ⟨rfl, trivial⟩ ⟨hB, hm0_0, hm0_1, ho_hP3_1, (Nat.zero_le _), trivial⟩ ?_
              clear hB hm0_0 hm0_1 ho_hP3_1
              rintro k g73 W72 ⟨hB, hm0_0, hm0_1, ho_hP3_1, hk, _⟩ J74 hJ75
              refine WC_seq (fun K76 hK77 => ?_)
              refine WC_seq (fun K78 hK79 => ?_)
              refine WC_region ?_
              refine WL_val (dd := some 50) rfl rfl rfl (r_move (v := .int .i64 _) rfl) ?_
              refine WL_val (dd := some 51) rfl rfl rfl (r_move (v := .int .i64 _) rfl) ?_
              refine WL_val (dd := some 52) rfl rfl rfl (r_lss rfl rfl) ?_
              refine WL_nil ?_
              refine hK79 _ _ ?_
              clear hK79 K78
              refine WC_cond (b := _) rfl (fun hc3 => ?_) (fun hc3 => ?_)
              ·
                try with_reducible replace hc3 := of_decide_eq_true hc3
                refine WC_skip ?_
                refine hK77 _ _ ?_
                clear hK77 K76
                refine WC_seq (fun K80 hK81 => ?_)
                refine WC_block ?_
                refine WC_seq (fun K82 hK83 => ?_)
                have hbk := (allR_b hr).get (k := k) (by omega)
                refine WC_draw Ext tb_mix (fun W84 hE85 => ?_)
                replace hB := below_ext hB hE85 (Nat.le_refl _)
                replace hm0_0 := hE85.at hm0_0
                replace hm0_1 := hE85.at hm0_1
                replace ho_hP3_1 := hE85.ow ho_hP3_1
                have hS := Ext.refl W84
                refine WT_take (dd := some 55) 0 rfl (by kernel_rfl) (by kernel_rfl) (by kernel_rfl) rfl rfl rfl (fun _wq _hq => r_move (v := x_hP3_1) rfl) hS ?_
                refine WT_take (dd := some 56) 1 rfl (by kernel_rfl) (by kernel_rfl) (by kernel_rfl) rfl rfl rfl (fun _wq _hq => r_move (v := .int .i64 _) rfl) hS ?_
                refine WT_take (dd := some 57) 2 rfl (by kernel_rfl) (by kernel_rfl) (by kernel_rfl) rfl rfl rfl (fun _wq hq => r_idxS (v := x_hP3_1) rfl ((hq.ow ho_hP3_1)).sl rfl tb_el65 (by omega) (by first | omega | (simp only [flagsTo_len, litsTo_len, firstF_len, ptF_len, setF_len]; omega))) hS ?_
                refine WT_take (dd := some 58) 3 rfl (by kernel_rfl) (by kernel_rfl) (by kernel_rfl) rfl rfl rfl (fun _wq hq => r_load3 rfl tb_ag79 (SlT.cell ((hq.ow ho_hP3_1)).sl encR_len ⟨⟨0, 0⟩, 0⟩ (by omega) (by first | omega | (simp only [flagsTo_len, litsTo_len, firstF_len, ptF_len, setF_len]; omega)) 0 rfl) (SlT.cell ((hq.ow ho_hP3_1)).sl encR_len ⟨⟨0, 0⟩, 0⟩ (by omega) (by first | omega | (simp only [flagsTo_len, litsTo_len, firstF_len, ptF_len, setF_len]; omega)) 1 rfl) (SlT.cell ((hq.ow ho_hP3_1)).sl encR_len ⟨⟨0, 0⟩, 0⟩ (by omega) (by first | omega | (simp only [flagsTo_len, litsTo_len, firstF_len, ptF_len, setF_len]; omega)) 2 rfl)) hS ?_
                refine WT_take (dd := some 59) 4 rfl (by kernel_rfl) (by kernel_rfl) (by kernel_rfl) rfl rfl rfl (fun _wq _hq => r_move (v := x_hP3_1) rfl) hS ?_
                refine WT_take (dd := some 60) 5 rfl (by kernel_rfl) (by kernel_rfl) (by kernel_rfl) rfl rfl rfl (fun _wq _hq => r_move (v := .int .i64 _) rfl) hS ?_
                refine WT_take (dd := some 61) 6 rfl (by kernel_rfl) (by kernel_rfl) (by kernel_rfl) rfl rfl rfl (fun _wq hq => r_idxS (v := x_hP3_1) rfl ((hq.ow ho_hP3_1)).sl rfl tb_el65 (by omega) (by first | omega | (simp only [flagsTo_len, litsTo_len, firstF_len, ptF_len, setF_len]; omega))) hS ?_
                refine WT_take (dd := some 62) 7 rfl (by kernel_rfl) (by kernel_rfl) (by kernel_rfl) rfl rfl rfl (fun _wq hq => r_load3 rfl tb_ag79 (SlT.cell ((hq.ow ho_hP3_1)).sl encR_len ⟨⟨0, 0⟩, 0⟩ (by omega) (by first | omega | (simp only [flagsTo_len, litsTo_len, firstF_len, ptF_len, setF_len]; omega)) 0 rfl) (SlT.cell ((hq.ow ho_hP3_1)).sl encR_len ⟨⟨0, 0⟩, 0⟩ (by omega) (by first | omega | (simp only [flagsTo_len, litsTo_len, firstF_len, ptF_len, setF_len]; omega)) 1 rfl) (SlT.cell ((hq.ow ho_hP3_1)).sl encR_len ⟨⟨0, 0⟩, 0⟩ (by omega) (by first | omega | (simp only [flagsTo_len, litsTo_len, firstF_len, ptF_len, setF_len]; omega)) 2 rfl)) hS ?_
                refine WT_one (dd := some 63) 8 (by kernel_rfl) rfl rfl rfl rfl (Yd.call (r_call2 tb_c64 (v0 := .agg #[_, _, _]) rfl (v1 := .agg #[_, _, _]) rfl) (C_drawkniferef10_Holds ((allR S).getD i ⟨⟨0, 0⟩, 0⟩) ((allR S).getD k ⟨⟨0, 0⟩, 0⟩) _ hbi hbk) (fun v13_8 W86 hE87 hP13_8 => ⟨.inl (hS.trans hE87), ?_⟩))
                have hsz88 := (Below.size hB)
                have sv89_hB := hB
                have sv89_hm0_0 := hm0_0
                have sv89_hm0_1 := hm0_1
                have sv89_ho_hP3_1 := ho_hP3_1
                replace hB := below_ext hB hE87 (Nat.le_refl _)
                replace hm0_0 := hE87.at hm0_0
                replace hm0_1 := hE87.at hm0_1
                replace ho_hP3_1 := hE87.ow ho_hP3_1
                replace hS := hS.trans hE87
                clear hE87
                clear hsz88
                obtain rfl := hP13_8
                refine WT_split (dd := some 64) 9 rfl (by kernel_rfl) (by kernel_rfl) (by kernel_rfl) rfl rfl rfl (fun wq hq => r_move (v := .bool _) rfl) hS (fun hs13_9 => ?_) (fun hs13_9 => ?_)
                ·
                  try with_reducible replace hs13_9 := of_decide_eq_true hs13_9
                  exact absurd (all_apart hr (i := i) (k := k) (by omega) (by omega) (by omega)) (fun h => Bool.noConfusion (h.symm.trans hs13_9))
                ·
                  try with_reducible replace hs13_9 := of_decide_eq_false hs13_9
                  refine WT_take (dd := some 65) 10 rfl (by kernel_rfl) (by kernel_rfl) (by kernel_rfl) rfl rfl rfl (fun _wq _hq => r_move (v := x_hP3_1) rfl) hS ?_
                  refine WT_take (dd := some 66) 11 rfl (by kernel_rfl) (by kernel_rfl) (by kernel_rfl) rfl rfl rfl (fun _wq _hq => r_move (v := .int .i64 _) rfl) hS ?_
                  refine WT_take (dd := some 67) 12 rfl (by kernel_rfl) (by kernel_rfl) (by kernel_rfl) rfl rfl rfl (fun _wq hq => r_idxS (v := x_hP3_1) rfl ((hq.ow sv89_ho_hP3_1)).sl rfl tb_el65 (by omega) (by first | omega | (simp only [flagsTo_len, litsTo_len, firstF_len, ptF_len, setF_len]; omega))) hS ?_
                  refine WT_take (dd := some 68) 13 rfl (by kernel_rfl) (by kernel_rfl) (by kernel_rfl) rfl rfl rfl (fun _wq hq => r_load3 rfl tb_ag79 (SlT.cell ((hq.ow sv89_ho_hP3_1)).sl encR_len ⟨⟨0, 0⟩, 0⟩ (by omega) (by first | omega | (simp only [flagsTo_len, litsTo_len, firstF_len, ptF_len, setF_len]; omega)) 0 rfl) (SlT.cell ((hq.ow sv89_ho_hP3_1)).sl encR_len ⟨⟨0, 0⟩, 0⟩ (by omega) (by first | omega | (simp only [flagsTo_len, litsTo_len, firstF_len, ptF_len, setF_len]; omega)) 1 rfl) (SlT.cell ((hq.ow sv89_ho_hP3_1)).sl encR_len ⟨⟨0, 0⟩, 0⟩ (by omega) (by first | omega | (simp only [flagsTo_len, litsTo_len, firstF_len, ptF_len, setF_len]; omega)) 2 rfl)) hS ?_
                  refine WT_take (dd := some 69) 14 rfl (by kernel_rfl) (by kernel_rfl) (by kernel_rfl) rfl rfl rfl (fun _wq _hq => r_move (v := x_hP3_1) rfl) hS ?_
                  refine WT_take (dd := some 70) 15 rfl (by kernel_rfl) (by kernel_rfl) (by kernel_rfl) rfl rfl rfl (fun _wq _hq => r_move (v := .int .i64 _) rfl) hS ?_
                  refine WT_take (dd := some 71) 16 rfl (by kernel_rfl) (by kernel_rfl) (by kernel_rfl) rfl rfl rfl (fun _wq hq => r_idxS (v := x_hP3_1) rfl ((hq.ow sv89_ho_hP3_1)).sl rfl tb_el65 (by omega) (by first | omega | (simp only [flagsTo_len, litsTo_len, firstF_len, ptF_len, setF_len]; omega))) hS ?_
                  refine WT_take (dd := some 72) 17 rfl (by kernel_rfl) (by kernel_rfl) (by kernel_rfl) rfl rfl rfl (fun _wq hq => r_load3 rfl tb_ag79 (SlT.cell ((hq.ow sv89_ho_hP3_1)).sl encR_len ⟨⟨0, 0⟩, 0⟩ (by omega) (by first | omega | (simp only [flagsTo_len, litsTo_len, firstF_len, ptF_len, setF_len]; omega)) 0 rfl) (SlT.cell ((hq.ow sv89_ho_hP3_1)).sl encR_len ⟨⟨0, 0⟩, 0⟩ (by omega) (by first | omega | (simp only [flagsTo_len, litsTo_len, firstF_len, ptF_len, setF_len]; omega)) 1 rfl) (SlT.cell ((hq.ow sv89_ho_hP3_1)).sl encR_len ⟨⟨0, 0⟩, 0⟩ (by omega) (by first | omega | (simp only [flagsTo_len, litsTo_len, firstF_len, ptF_len, setF_len]; omega)) 2 rfl)) hS ?_
                  refine WT_one (dd := some 73) 18 (by kernel_rfl) rfl rfl rfl rfl (Yd.call (r_call2 tb_c64 (v0 := .agg #[_, _, _]) rfl (v1 := .agg #[_, _, _]) rfl) (C_drawkniferef10_Holds ((allR S).getD k ⟨⟨0, 0⟩, 0⟩) ((allR S).getD i ⟨⟨0, 0⟩, 0⟩) _ hbk hbi) (fun v13_18 W90 hE91 hP13_18 => ⟨.inl (hS.trans hE91), ?_⟩))
                  have hsz92 := (Below.size hB)
                  replace hB := below_ext hB hE91 (Nat.le_refl _)
                  replace hm0_0 := hE91.at hm0_0
                  replace hm0_1 := hE91.at hm0_1
                  replace ho_hP3_1 := hE91.ow ho_hP3_1
                  replace hS := hS.trans hE91
                  clear hE91
                  clear hsz92
                  obtain rfl := hP13_18
                  refine WT_take (dd := some 74) 19 rfl (by kernel_rfl) (by kernel_rfl) (by kernel_rfl) rfl rfl rfl (fun _wq _hq => r_pick_f rfl (v := .bool _) rfl) hS ?_
                  refine WT_done (by kernel_rfl) ?_
                  try clear sv89_hB sv89_hm0_0 sv89_hm0_1 sv89_ho_hP3_1
                  refine hK83 _ _ ?_
                  clear hK83 K82
                  refine WC_cond (b := _) rfl (fun hc4 => ?_) (fun hc4 => ?_)
                  ·
                    try with_reducible replace hc4 := of_decide_eq_true hc4
                    exact absurd (all_apart hr (i := k) (k := i) (by omega) (by omega) (by omega)) (fun h => Bool.noConfusion (h.symm.trans hc4))
                  ·
                    try with_reducible replace hc4 := of_decide_eq_false hc4
                    refine WC_skip ?_
                    refine hK81 _ _ ?_
                    clear hK81 K80
                    refine WC_region ?_
                    refine WL_val (dd := some 53) rfl rfl rfl (r_move (v := .int .i64 _) rfl) ?_
                    refine WL_val (dd := some 54) rfl rfl rfl (r_addI rfl rfl (by omega) (by omega)) ?_
                    refine WL_val (dd := some 9) rfl rfl rfl (r_assign (v := .int .i64 _) rfl) ?_
                    refine WL_nil ?_
                    refine hJ75 _ _ (k + 1) ?_ ?_ ?_ ?_
                    · repeat (first | exact agree.mask _ _ _ | refine agree.updo ?_ rfl _ | refine agree.updL ?_ _ rfl | refine agree.maskS rfl ?_)
                    · exact ⟨rfl, trivial⟩
                    · exact ⟨hB, hm0_0, hm0_1, ho_hP3_1, (by omega), trivial⟩
                    · first | omega | (dsimp only; omega)
              ·
                try with_reducible replace hc3 := of_decide_eq_false hc3
                refine WC_exit ?_
                refine hK69 _ _ ?_
                clear hK77 K76
                clear hJ75 J74
                clear hK69 K68
                have hbi := (allR_b hr).get (k := i) (by omega)
                refine WC_draw Ext tb_mix (fun W93 hE94 => ?_)
                replace hB := below_ext hB hE94 (Nat.le_refl _)
                replace hm0_0 := hE94.at hm0_0
                replace hm0_1 := hE94.at hm0_1
                replace ho_hP3_1 := hE94.ow ho_hP3_1
                have hS := Ext.refl W93
                refine WT_take (dd := some 75) 0 rfl (by kernel_rfl) (by kernel_rfl) (by kernel_rfl) rfl rfl rfl (fun _wq _hq => r_move (v := .bool _) rfl) hS ?_
                refine WT_split (dd := some 76) 1 rfl (by kernel_rfl) (by kernel_rfl) (by kernel_rfl) rfl rfl rfl (fun wq hq => r_move (v := .bool _) rfl) hS (fun hs15_1 => ?_) (fun hs15_1 => ?_)
                ·
                  try with_reducible replace hs15_1 := of_decide_eq_true hs15_1
                  refine WT_pass (dd := some 77) 2 rfl (by kernel_rfl) (by kernel_rfl) (by kernel_rfl) rfl rfl rfl hS ?_
                  refine WT_pass (dd := some 78) 3 rfl (by kernel_rfl) (by kernel_rfl) (by kernel_rfl) rfl rfl rfl hS ?_
                  refine WT_pass (dd := some 79) 4 rfl (by kernel_rfl) (by kernel_rfl) (by kernel_rfl) rfl rfl rfl hS ?_
                  refine WT_pass (dd := some 80) 5 rfl (by kernel_rfl) (by kernel_rfl) (by kernel_rfl) rfl rfl rfl hS ?_
                  refine WT_pass (dd := some 81) 6 rfl (by kernel_rfl) (by kernel_rfl) (by kernel_rfl) rfl rfl rfl hS ?_
                  refine WT_pass (dd := some 82) 7 rfl (by kernel_rfl) (by kernel_rfl) (by kernel_rfl) rfl rfl rfl hS ?_
                  refine WT_take (dd := some 83) 8 rfl (by kernel_rfl) (by kernel_rfl) (by kernel_rfl) rfl rfl rfl (fun _wq _hq => r_pick_t rfl (v := .bool true) rfl) hS ?_
                  refine WT_take (dd := some 7) 9 rfl (by kernel_rfl) (by kernel_rfl) (by kernel_rfl) rfl rfl rfl (fun _wq _hq => r_assign (v := .bool true) rfl) hS ?_
                  refine WT_done (by kernel_rfl) ?_
                  refine hK54 _ _ ?_
                  clear hK54 K53
                  refine WC_region ?_
                  refine WL_val (dd := some 32) rfl rfl rfl (r_move (v := .int .i64 _) rfl) ?_
                  refine WL_val (dd := some 33) rfl rfl rfl (r_addI rfl rfl (by omega) (by omega)) ?_
                  refine WL_val (dd := some 8) rfl rfl rfl (r_assign (v := .int .i64 _) rfl) ?_
                  refine WL_nil ?_
                  refine hJ48 _ _ (i + 1) ?_ ?_ ?_ ?_
                  · repeat (first | exact agree.mask _ _ _ | refine agree.updo ?_ rfl _ | refine agree.updL ?_ _ rfl | refine agree.maskS rfl ?_)
                  · exact ⟨rfl, (by first | exact congrArg Value.bool (heldR_t hs15_1) | exact congrArg Value.bool (heldR_f hs15_1)), trivial⟩
                  · exact ⟨hB, hm0_0, hm0_1, ho_hP3_1, (by omega), trivial⟩
                  · first | omega | (dsimp only; omega)
                ·
                  try with_reducible replace hs15_1 := of_decide_eq_false hs15_1
                  refine WT_take (dd := some 77) 2 rfl (by kernel_rfl) (by kernel_rfl) (by kernel_rfl) rfl rfl rfl (fun _wq _hq => r_move (v := x_hP3_1) rfl) hS ?_
                  refine WT_take (dd := some 78) 3 rfl (by kernel_rfl) (by kernel_rfl) (by kernel_rfl) rfl rfl rfl (fun _wq _hq => r_move (v := .int .i64 _) rfl) hS ?_
                  refine WT_take (dd := some 79) 4 rfl (by kernel_rfl) (by kernel_rfl) (by kernel_rfl) rfl rfl rfl (fun _wq hq => r_idxS (v := x_hP3_1) rfl ((hq.ow ho_hP3_1)).sl rfl tb_el65 (by omega) (by first | omega | (simp only [flagsTo_len, litsTo_len, firstF_len, ptF_len, setF_len]; omega))) hS ?_
                  refine WT_take (dd := some 80) 5 rfl (by kernel_rfl) (by kernel_rfl) (by kernel_rfl) rfl rfl rfl (fun _wq hq => r_load3 rfl tb_ag79 (SlT.cell ((hq.ow ho_hP3_1)).sl encR_len ⟨⟨0, 0⟩, 0⟩ (by omega) (by first | omega | (simp only [flagsTo_len, litsTo_len, firstF_len, ptF_len, setF_len]; omega)) 0 rfl) (SlT.cell ((hq.ow ho_hP3_1)).sl encR_len ⟨⟨0, 0⟩, 0⟩ (by omega) (by first | omega | (simp only [flagsTo_len, litsTo_len, firstF_len, ptF_len, setF_len]; omega)) 1 rfl) (SlT.cell ((hq.ow ho_hP3_1)).sl encR_len ⟨⟨0, 0⟩, 0⟩ (by omega) (by first | omega | (simp only [flagsTo_len, litsTo_len, firstF_len, ptF_len, setF_len]; omega)) 2 rfl)) hS ?_
                  refine WT_take (dd := some 81) 6 rfl (by kernel_rfl) (by kernel_rfl) (by kernel_rfl) rfl rfl rfl (fun _wq hq => r_loadW rfl tb_ag79 rfl (hq.at hm0_1)) hS ?_
                  refine WT_one (dd := some 82) 7 (by kernel_rfl) rfl rfl rfl rfl (Yd.call (r_call2 tb_c64 (v0 := .agg #[_, _, _]) rfl (v1 := .agg #[_, _, _]) rfl) (C_drawkniferef10_Holds ((allR S).getD i ⟨⟨0, 0⟩, 0⟩) x _ hbi hbx) (fun v15_7 W95 hE96 hP15_7 => ⟨.inl (hS.trans hE96), ?_⟩))
                  have hsz97 := (Below.size hB)
                  have sv98_hB := hB
                  have sv98_hm0_0 := hm0_0
                  have sv98_hm0_1 := hm0_1
                  have sv98_ho_hP3_1 := ho_hP3_1
                  replace hB := below_ext hB hE96 (Nat.le_refl _)
                  replace hm0_0 := hE96.at hm0_0
                  replace hm0_1 := hE96.at hm0_1
                  replace ho_hP3_1 := hE96.ow ho_hP3_1
                  replace hS := hS.trans hE96
                  clear hE96
                  clear hsz97
                  obtain rfl := hP15_7
                  refine WT_take (dd := some 83) 8 rfl (by kernel_rfl) (by kernel_rfl) (by kernel_rfl) rfl rfl rfl (fun _wq _hq => r_pick_f rfl (v := .bool _) rfl) hS ?_
                  refine WT_take (dd := some 7) 9 rfl (by kernel_rfl) (by kernel_rfl) (by kernel_rfl) rfl rfl rfl (fun _wq _hq => r_assign (v := .bool _) rfl) hS ?_
                  refine WT_done (by kernel_rfl) ?_
                  try clear sv98_hB sv98_hm0_0 sv98_hm0_1 sv98_ho_hP3_1
                  refine hK54 _ _ ?_
                  clear hK54 K53
                  refine WC_region ?_
                  refine WL_val (dd := some 32) rfl rfl rfl (r_move (v := .int .i64 _) rfl) ?_
                  refine WL_val (dd := some 33) rfl rfl rfl (r_addI rfl rfl (by omega) (by omega)) ?_
                  refine WL_val (dd := some 8) rfl rfl rfl (r_assign (v := .int .i64 _) rfl) ?_
                  refine WL_nil ?_
                  refine hJ48 _ _ (i + 1) ?_ ?_ ?_ ?_
                  · repeat (first | exact agree.mask _ _ _ | refine agree.updo ?_ rfl _ | refine agree.updL ?_ _ rfl | refine agree.maskS rfl ?_)
                  · exact ⟨rfl, (by first | exact congrArg Value.bool (heldR_t hs15_1) | exact congrArg Value.bool (heldR_f hs15_1)), trivial⟩
                  · exact ⟨hB, hm0_0, hm0_1, ho_hP3_1, (by omega), trivial⟩
                  · first | omega | (dsimp only; omega)
        ·
          try with_reducible replace hc1 := of_decide_eq_false hc1
          refine WC_exit ?_
          refine hK42 _ _ ?_
          clear hK50 K49
          clear hJ48 J47
          clear hK42 K41
          refine WC_seq (fun K99 hK100 => ?_)
          obtain rfl : i = (allR S).length := by omega
          refine WC_region ?_
          refine WL_val (dd := some 84) rfl rfl rfl (r_move (v := .int .i64 _) rfl) ?_
          refine WL_val (dd := some 85) rfl rfl rfl (r_eql rfl rfl) ?_
          refine WL_split (dd := some 86) rfl rfl rfl (r_move (v := .bool _) rfl) (fun hs16_2 => ?_) (fun hs16_2 => ?_)
          ·
            try with_reducible replace hs16_2 := of_decide_eq_true hs16_2
            refine WL_val (dd := some 87) rfl rfl rfl (r_move (v := .bool _) rfl) ?_
            refine WL_split (dd := some 88) rfl rfl rfl (r_move (v := .bool _) rfl) (fun hs16_4 => ?_) (fun hs16_4 => ?_)
            ·
              try with_reducible replace hs16_4 := of_decide_eq_true hs16_4
              refine WL_skip (dd := some 89) rfl rfl rfl ?_
              refine WL_skip (dd := some 90) rfl rfl rfl ?_
              refine WL_skip (dd := some 91) rfl rfl rfl ?_
              refine WL_skip (dd := some 92) rfl rfl rfl ?_
              refine WL_val (dd := some 93) rfl rfl rfl (r_pick_t rfl (v := .bool true) rfl) ?_
              refine WL_val (dd := some 94) rfl rfl rfl (r_pick_t rfl (v := .bool true) rfl) ?_
              refine WL_val (dd := some 95) rfl rfl rfl (r_move (v := .bool true) rfl) ?_
              refine WL_val (dd := some 96) rfl rfl rfl (r_loadW rfl tb_ag64 rfl hm0_0) ?_
              refine WL_val (dd := some 97) rfl rfl rfl (r_move (v := x_hP3_1) rfl) ?_
              refine WL_call (dd := some 98) rfl rfl rfl (r_call2 tb_c66 (v0 := .agg #[_, _, _]) rfl (v1 := x_hP3_1) rfl) (C_spec_Covers S _ _ _ (allR S) _ (Below.slT hB hon) (Below.slT hB hmay) ho_hP3_1.sl (by omega) (allR_b hr) (by omega)) (fun v16_14 W101 hE102 hP16_14 => ?_)
              have hsz103 := (Below.size hB)
              replace hB := below_ext hB hE102 (Nat.le_refl _)
              replace hm0_0 := hE102.at hm0_0
              replace hm0_1 := hE102.at hm0_1
              replace ho_hP3_1 := hE102.ow ho_hP3_1
              clear hE102
              clear hsz103
              obtain rfl := hP16_14
              refine WL_val (dd := some 99) rfl rfl rfl (r_pick_t rfl (v := .bool _) rfl) ?_
              refine WL_split (dd := some 100) rfl rfl rfl (r_move (v := .bool _) rfl) (fun hs16_16 => ?_) (fun hs16_16 => ?_)
              ·
                try with_reducible replace hs16_16 := of_decide_eq_true hs16_16
                refine WL_call (dd := some 101) rfl rfl rfl (r_call0 tb_c58) (C_drawknifelaw10_knows _) (fun v16_17 W104 hE105 hP16_17 => ?_)
                have hsz106 := (Below.size hB)
                replace hB := below_ext hB hE105 (Nat.le_refl _)
                replace hm0_0 := hE105.at hm0_0
                replace hm0_1 := hE105.at hm0_1
                replace ho_hP3_1 := hE105.ow ho_hP3_1
                clear hE105
                clear hsz106
                obtain rfl := hP16_17
                refine WL_val (dd := some 102) rfl rfl rfl (r_pick_t rfl (v := .bool _) rfl) ?_
                refine WL_val (dd := some 4) rfl rfl rfl (r_assign (v := .bool _) rfl) ?_
                refine WL_nil ?_
                refine hK100 _ _ ?_
                clear hK100 K99
                refine WC_ret ?_
                repeat (first | refine thenQ_ret ?_ | refine blockQ_ret ?_)
                refine ret_t (v := .bool _) rfl ?_
                refine ⟨hB, ?_⟩
                rfl
              ·
                try with_reducible replace hs16_16 := of_decide_eq_false hs16_16
                exact absurd (cov_all hr) (by rw [hs16_16]; decide)
            ·
              try with_reducible replace hs16_4 := of_decide_eq_false hs16_4
              refine WL_val (dd := some 89) rfl rfl rfl (r_loadW rfl tb_ag64 rfl hm0_0) ?_
              refine WL_val (dd := some 90) rfl rfl rfl (r_loadW rfl tb_ag79 rfl hm0_1) ?_
              refine WL_call (dd := some 91) rfl rfl rfl (r_call2 tb_c65 (v0 := .agg #[_, _, _]) rfl (v1 := .agg #[_, _, _]) rfl) (C_drawkniferef10_Within S _ _ _ _ _ _ (Below.slT hB hon) (Below.slT hB hmay) hr hbx.1 hbx.2.1 hbx.2.2) (fun v16_7 W107 hE108 hP16_7 => ?_)
              have hsz109 := (Below.size hB)
              replace hB := below_ext hB hE108 (Nat.le_refl _)
              replace hm0_0 := hE108.at hm0_0
              replace hm0_1 := hE108.at hm0_1
              replace ho_hP3_1 := hE108.ow ho_hP3_1
              clear hE108
              clear hsz109
              obtain rfl := hP16_7
              refine WL_val (dd := some 92) rfl rfl rfl (r_not rfl) ?_
              refine WL_val (dd := some 93) rfl rfl rfl (r_pick_f rfl (v := .bool _) rfl) ?_
              refine WL_val (dd := some 94) rfl rfl rfl (r_pick_t rfl (v := .bool _) rfl) ?_
              refine WL_split (dd := some 95) rfl rfl rfl (r_move (v := .bool _) rfl) (fun hs16_11 => ?_) (fun hs16_11 => ?_)
              ·
                try with_reducible replace hs16_11 := of_decide_eq_true hs16_11
                refine WL_val (dd := some 96) rfl rfl rfl (r_loadW rfl tb_ag64 rfl hm0_0) ?_
                refine WL_val (dd := some 97) rfl rfl rfl (r_move (v := x_hP3_1) rfl) ?_
                refine WL_call (dd := some 98) rfl rfl rfl (r_call2 tb_c66 (v0 := .agg #[_, _, _]) rfl (v1 := x_hP3_1) rfl) (C_spec_Covers S _ _ _ (allR S) _ (Below.slT hB hon) (Below.slT hB hmay) ho_hP3_1.sl (by omega) (allR_b hr) (by omega)) (fun v16_14 W110 hE111 hP16_14 => ?_)
                have hsz112 := (Below.size hB)
                replace hB := below_ext hB hE111 (Nat.le_refl _)
                replace hm0_0 := hE111.at hm0_0
                replace hm0_1 := hE111.at hm0_1
                replace ho_hP3_1 := hE111.ow ho_hP3_1
                clear hE111
                clear hsz112
                obtain rfl := hP16_14
                refine WL_val (dd := some 99) rfl rfl rfl (r_pick_t rfl (v := .bool _) rfl) ?_
                refine WL_split (dd := some 100) rfl rfl rfl (r_move (v := .bool _) rfl) (fun hs16_16 => ?_) (fun hs16_16 => ?_)
                ·
                  try with_reducible replace hs16_16 := of_decide_eq_true hs16_16
                  refine WL_call (dd := some 101) rfl rfl rfl (r_call0 tb_c58) (C_drawknifelaw10_knows _) (fun v16_17 W113 hE114 hP16_17 => ?_)
                  have hsz115 := (Below.size hB)
                  replace hB := below_ext hB hE114 (Nat.le_refl _)
                  replace hm0_0 := hE114.at hm0_0
                  replace hm0_1 := hE114.at hm0_1
                  replace ho_hP3_1 := hE114.ow ho_hP3_1
                  clear hE114
                  clear hsz115
                  obtain rfl := hP16_17
                  refine WL_val (dd := some 102) rfl rfl rfl (r_pick_t rfl (v := .bool _) rfl) ?_
                  refine WL_val (dd := some 4) rfl rfl rfl (r_assign (v := .bool _) rfl) ?_
                  refine WL_nil ?_
                  refine hK100 _ _ ?_
                  clear hK100 K99
                  refine WC_ret ?_
                  repeat (first | refine thenQ_ret ?_ | refine blockQ_ret ?_)
                  refine ret_t (v := .bool _) rfl ?_
                  refine ⟨hB, ?_⟩
                  rfl
                ·
                  try with_reducible replace hs16_16 := of_decide_eq_false hs16_16
                  exact absurd (cov_all hr) (by rw [hs16_16]; decide)
              ·
                try with_reducible replace hs16_11 := of_decide_eq_false hs16_11
                exact absurd (held_in (not_f hs16_11)) (by rw [hs16_4]; decide)
          ·
            try with_reducible replace hs16_2 := of_decide_eq_false hs16_2
            exact absurd rfl hs16_2

end Go.Proofs.Ytdbcijijhhbkaaa
