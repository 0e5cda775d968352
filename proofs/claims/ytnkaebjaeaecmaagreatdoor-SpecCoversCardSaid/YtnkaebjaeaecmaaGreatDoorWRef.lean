/-
  The walks of the document's first two layers.
-/
import Derived.Test.YtnkaebjaeaecmaaGreatDoorProg
import Derived.Test.YtnkaebjaeaecmaaGreatDoorRef
import Derived.Test.YtnkaebjaeaecmaaGreatDoorWSet
import Derived.Test.YtnkaebjaeaecmaaGreatDoorZip
namespace Go.Proofs.YtnkaebjaeaecmaaGreatDoor
set_option linter.unusedVariables false
set_option linter.unusedSimpArgs false
open Go Go.RowKit

theorem tb_c50 : callB Tryz.prog 50 = true := by kernel_rfl
theorem tb_el61 : elemI Tryz.prog 61 = some (4, 1, 1) := by kernel_rfl
theorem tb_zs4 : (zeroI Tryz.prog 4).map (fun z => z.cells.size) = some 1 := by kernel_rfl
theorem tb_sc4 : scalarB Tryz.prog 4 = true := by kernel_rfl
theorem tb_z4 : zeroI Tryz.prog 4 = some (.bool false) := by kernel_rfl
theorem tb_c33 : callB Tryz.prog 33 = true := by kernel_rfl
theorem tb_el42 : elemI Tryz.prog 42 = some (3, 1, 8) := by kernel_rfl
theorem tb_zs3 : (zeroI Tryz.prog 3).map (fun z => z.cells.size) = some 1 := by kernel_rfl
theorem tb_fo41_0 : fieldO Tryz.prog 41 0 = some 0 := by kernel_rfl
theorem tb_sc5 : scalarB Tryz.prog 5 = true := by kernel_rfl
theorem tb_fo41_1 : fieldO Tryz.prog 41 1 = some 1 := by kernel_rfl
theorem tb_z41 : zeroI Tryz.prog 41 = some (.agg #[.int .u8 0, .int .u8 0]) := by kernel_rfl
theorem tb_sc3 : scalarB Tryz.prog 3 = true := by kernel_rfl
theorem tb_ag41 : aggN Tryz.prog 41 = some 2 := by kernel_rfl
theorem tb_c62 : callB Tryz.prog 62 = true := by kernel_rfl
theorem tb_c63 : callB Tryz.prog 63 = true := by kernel_rfl
theorem tb_eq41 {f : Nat → Value} {w : World} {d : Option Nat} {ty t2 : TypeId} {ps : String} {af : Array Edge} {g : Option (Nat × Bool)} {x y : Operand} {a0 a1 b0 b1 : Int} (hx : evF f x = .agg #[.int .u8 a0, .int .u8 a1]) (hy : evF f y = .agg #[.int .u8 b0, .int .u8 b1]) :
    (execOp (evF f) ⟨d, .binOp .eql 41 x y t2, ty, ps, af, g⟩).run Tryz.prog w = .ok (.value (.bool (decide ((a0 = b0 ∧ a1 = b1))))) w := by
  have hg : Tryz.prog.eqGuardType Tryz.prog.depth 41 = false := by kernel_rfl
  have hp41 : Tryz.prog.stoodInHeld 41 = false := by kernel_rfl
  have hu41 : Tryz.prog.underlying 41 = some (.struct (Tryz.prog.fieldsOf 41)) := by kernel_rfl
  simp only [execOp, hx, hy, Sem.run_bind, run_eqGuard_agg _ _ _ _ _ _ _ hg, Result.andThen_ok, run_eql_struct, run_equalIn_agg _ 9999 41 _ _ hu41 hp41]
  simp only [Program.fieldsOf, Tryz.underlying41]
  simp [Op.eqFields, part, isAgg, run_equalIn_int _ 9998 5 _ _ _ _ Tryz.underlying5, run_underlying Tryz.underlying5]
  by_cases q0 : a0 = b0 <;> by_cases q1 : a1 = b1 <;> simp [q0, q1]
theorem tb_c64 : callB Tryz.prog 64 = true := by kernel_rfl

theorem C_drawkniferef01_power (n : Nat) (w : World) (hn : n ≤ 63) :
    Fn Tryz.prog 50 #[.int .i64 (n : Int)] w fun v w' => v = .int .u64 ((2 ^ n : Nat) : Int) := by
 refine Fn_intro (n := 13) Tryz.func50 rfl rfl (Nat.le_of_ble_eq_true rfl) ?_
 have hB : Below w.heap.size w w := Below.refl _ _
 refine Zr <| Zi rfl <| WL_nil <| Zr <| Zi rfl <| WL_nil <| WC_seq fun K5 hK6 => Zr <| Zi rfl <| WL_nil <| WC_block ?_
 refine WC_loop (σ := (Nat)) [3, 4, 5, 6, 7, 8, 9, 10, 11] (fun k => [(4, .int .i64 (k : Int)), (3, .int .u64 ((2 ^ k : Nat) : Int))]) (fun k W => (Below w.heap.size w W) ∧ (k ≤ n) ∧ (True)) (fun k => n - k) (0) ⟨rfl, rfl, trivial⟩ ⟨hB, Om, trivial⟩ ?_
 clear hB
 rintro k g10 W9 ⟨hB, hk, _⟩ J11 hJ12
 refine WC_seq fun K13 hK14 => Zr <| Zi rfl <| Zi rfl <| Zv (r_lss rfl rfl) <| WL_nil <| ZQ rfl (fun hc0 => ?_) fun hc0 => ?_
 refine WC_skip <| hK14 _ _ <| WC_seq fun K17 hK18 => WC_block <| WC_region <| Zi rfl <| Zv (r_mulN rfl (n := 2) rfl rfl (by exact pow63 Om)) <| Zi rfl <| WL_nil <| hK18 _ _ <| WC_region <| Zi rfl <| Zv (r_addI rfl rfl Om Om) <| Zi rfl ?_
 refine WL_nil ?_
 exact hJ12 _ _ (k + 1) Za ⟨rfl, rfl, trivial⟩ ⟨hB, Om, trivial⟩ Zo
 refine WC_exit <| hK6 _ _ <| Zr <| Zi rfl <| Zi rfl <| WL_nil <| Zt <| ret_t (v := .int .u64 _) rfl ⟨hB, ?_⟩
 obtain rfl : k = n := by omega
 rfl

theorem C_drawkniferef01_Bit (p i : Nat) (w : World) (hp : p < 9223372036854775808) (hi : i < 8) :
    Fn Tryz.prog 64 #[.int .i64 (p : Int), .int .i64 (i : Int)] w fun v w' => v = .int .i64 ((p / 2 ^ i % 2 : Nat) : Int) := by
 refine Fn_intro (n := 11) Tryz.func64 rfl rfl (Nat.le_of_ble_eq_true rfl) ?_
 have hB : Below w.heap.size w w := Below.refl _ _
 have h7 := pow7 hi
 have h0 := Nat.two_pow_pos i
 refine Zr <| Zi rfl <| WL_nil <| Zr <| Zi rfl <| Zi rfl <| ZC tb_c50 (C_drawkniferef01_power _ _ (by first | assumption | omega)) rfl fun v1_2 W5 hE6 hP1_2 => ?_
 replace hB := Ze hB hE6
 obtain rfl := hP1_2
 refine Zv (r_convN rfl Tryz.underlying49 Tryz.underlying3 (by simp only [topN]; omega)) <| Zv (r_quoN (n := (2 ^ i)) rfl rfl rfl Om (by simp only [topN]; omega)) <| Zv (r_remN (n := 2) rfl rfl rfl Om) <| Zi rfl <| WL_nil <| Zt <| ret_t (v := .int .i64 _) rfl ⟨hB, ?_⟩
 rfl

theorem C_drawkniferef01_Flags (s : Nat) (w : World) :
    Fn Tryz.prog 33 #[setV s] w fun v w' => OwT encB 1 4 w' w.heap.size v (flagsS s) := by
 refine Fn_intro (n := 27) Tryz.func33 rfl rfl (Nat.le_of_ble_eq_true rfl) ?_
 have hB : Below w.heap.size w w := Below.refl _ _
 refine Zr <| Zy (Y_box (c := #[_, _, _, _]) rfl rfl fun b0_0 W3 hb4 hE5 hm0_0 => ?_)
 have lo_b0_0 := ZO hb4 hB
 clear hb4
 replace hB := Ze hB hE5
 refine Zw (.slice none 0 0) rfl <| WL_nil <| Zr <| Zw (.slice none 0 0) rfl <| WL_nil <| WC_seq fun K8 hK9 => Zr <| Zi rfl <| WL_nil <| WC_block ?_
 refine WC_loop (σ := (Nat) × (Value)) [3, 4, 5, 6, 7, 8, 9, 10, 11, 12, 13, 14, 15, 16, 17, 18, 19, 20, 21, 22, 23, 24, 25] (fun (i, v0) => [(4, .int .i64 (i : Int)), (3, v0)]) (fun sg W => match sg with | (i, v0) => (Below w.heap.size w W) ∧ (At W b0_0 _ 51) ∧ (OwT encB 1 4 W w.heap.size v0 (flagsTo s (64 * i))) ∧ (i ≤ 4) ∧ (True)) (fun (i, v0) => 4 - i) ((0, .slice none 0 0)) ⟨rfl, rfl, trivial⟩ ⟨hB, hm0_0, OwT.nil, Om, trivial⟩ ?_
 clear hB hm0_0
 rintro ⟨i, v0⟩ g13 W12 ⟨hB, hm0_0, ho, hi, _⟩ J14 hJ15
 refine WC_seq fun K16 hK17 => Zr <| Zi rfl <| Zv (r_lss rfl rfl) <| WL_nil <| ZQ rfl (fun hc0 => ?_) fun hc0 => ?_
 refine WC_skip <| hK17 _ _ <| WC_seq fun K20 hK21 => WC_block <| Zr <| Zi rfl <| Zv (r_idxA rfl rfl tb_ar51 Om Om) <| Zv (r_load1 (v := wv s i) rfl tb_sc49 (At.cell hm0_0 (setA_get s i Om))) <| Zi rfl <| WL_nil <| Zr <| Zi rfl <| WL_nil <| WC_block ?_
 refine WC_loop (σ := (Nat) × (Value)) [3, 5, 6, 14, 15, 16, 17, 18, 19, 20, 21, 22, 23, 24, 25] (fun (k, v1) => [(6, .int .i64 (k : Int)), (5, .int .u64 ((wd s i / 2 ^ k : Nat) : Int)), (3, v1)]) (fun sg W => match sg with | (k, v1) => (Below w.heap.size w W) ∧ (At W b0_0 _ 51) ∧ (OwT encB 1 4 W w.heap.size v1 (flagsTo s (64 * i + k))) ∧ (k ≤ 64) ∧ (True)) (fun (k, v1) => 64 - k) ((0, v0)) ⟨rfl, congrArg (fun x : Nat => Value.int .u64 (x : Int)) (Nat.div_one _).symm, rfl, trivial⟩ ⟨hB, hm0_0, ho, Om, trivial⟩ ?_
 clear hB hm0_0 ho
 rintro ⟨k, v1⟩ g27 W26 ⟨hB, hm0_0, ho2, hk, _⟩ J28 hJ29
 refine WC_seq fun K30 hK31 => Zr <| Zi rfl <| Zv (r_lss rfl rfl) <| WL_nil <| ZQ rfl (fun hc1 => ?_) fun hc1 => ?_
 refine WC_skip <| hK31 _ _ <| WC_seq fun K34 hK35 => WC_block <| Zr <| Zw v1 rfl <| Zi rfl <| Zv (r_remN (n := 2) rfl rfl rfl Om) <| Zv (r_eql rfl rfl) <| Zy (Y_lit1 (u := .bool _) rfl tb_el61 tb_zs4 rfl Dc Dc fun b9_4 W38 hb39 hE40 hm9_4 => ?_)
 have lo_b9_4 := ZO hb39 hB
 have no_v1_b9_4 := OwT.neB (b := b9_4) ho2 (Nat.le_of_eq hb39.symm)
 clear hb39
 replace hB := Ze hB hE40
 replace hm0_0 := hE40.at hm0_0
 replace ho2 := hE40.ow ho2
 refine Zy (Y_append (v := v1) (v2 := .slice (some ⟨b9_4, 0, none⟩) 1 1) rfl rfl tb_el61 tb_zs4 Dc ho2 (sl_lit1 hm9_4 rfl) rfl (by have := Below.size hB; omega) (by simp only [flagsTo_len]; omega) (by simp only [flagsTo_len]; omega) fun v9_5 W41 hG42 ho9_5 => ?_)
 replace ho9_5 := OwT.snoc (enc := encB) (x := _) rfl rfl rfl rfl ho9_5
 replace hB := ZG hB hG42 ho2
 replace hm0_0 := At.grownOw hm0_0 ho2 hG42 Dc
 clear ho2
 refine Zw v9_5 rfl <| WL_nil <| WC_region <| Zi rfl <| Zv (r_quoN (n := 2) rfl rfl rfl Om (by exact Nat.lt_of_le_of_lt (Nat.div_le_self _ _) (wd_top s i))) <| Zi rfl <| WL_nil <| hK35 _ _ <| WC_region <| Zi rfl <| Zv (r_addI rfl rfl Om Om) <| Zi rfl <| WL_nil ?_
 exact hJ29 _ _ ((k + 1, v9_5)) Za ⟨rfl, congrArg (fun x : Nat => Value.int .u64 (x : Int)) (div_pow (wd s i) k), rfl, trivial⟩ ⟨hB, hm0_0, (by rw [← Nat.add_assoc, flagsTo_succ, ← flag_word Om]; exact ho9_5), Om, trivial⟩ (by show 64 - (k + 1) < 64 - k; omega)
 refine WC_exit <| hK21 _ _ <| WC_region <| Zi rfl <| Zv (r_addI rfl rfl Om Om) <| Zi rfl <| WL_nil ?_
 exact hJ15 _ _ ((i + 1, v1)) Za ⟨rfl, rfl, trivial⟩ ⟨hB, hm0_0, (by have e : 64 * i + k = 64 * (i + 1) := Om; rw [← e]; exact ho2), Om, trivial⟩ (by show 4 - (i + 1) < 4 - i; omega)
 refine WC_exit <| hK9 _ _ <| Zr <| Zw v0 rfl <| Zw v0 rfl <| WL_nil <| Zt <| ret_t (v := v0) rfl ⟨hB, ?_⟩
 obtain rfl : i = 4 := by omega
 exact ho

theorem C_drawkniferef01_Set (x : Value) (l : List Bool) (w : World) (hl : SlT encB 1 w x l) (hn : l.length = 256) :
    Fn Tryz.prog 25 #[x] w fun v w' => v = setV (bitsS l) := by
 refine Fn_intro (n := 30) Tryz.func25 rfl rfl (Nat.le_of_ble_eq_true rfl) ?_
 have hB : Below w.heap.size w w := Below.refl _ _
 refine Zr <| Zy (Y_alloc tb_z51 rfl fun b0_0 W3 hb4 hE5 hm0_0 => ?_)
 have lo_b0_0 := ZO hb4 hB
 clear hb4
 replace hB := Ze hB hE5
 replace hm0_0 : At W3 b0_0 #[wv 0 0, wv 0 1, wv 0 2, wv 0 3] 51 := hm0_0
 refine WL_nil <| Zr <| Zy (Y_alloc tb_z51 rfl fun b1_0 W8 hb9 hE10 hm1_0 => ?_)
 have lo_b1_0 := ZO hb9 hB
 have ne_b0_0_b1_0 := Zn hb9 hm0_0
 clear hb9
 replace hB := Ze hB hE10
 replace hm0_0 := hE10.at hm0_0
 replace hm1_0 : At W8 b1_0 #[wv 0 0, wv 0 1, wv 0 2, wv 0 3] 51 := hm1_0
 refine WL_nil <| WC_seq fun K11 hK12 => Zr <| Zi rfl <| WL_nil <| WC_block ?_
 refine WC_loop (σ := (Nat)) [4, 5, 6, 7, 8, 9, 10, 11, 12, 13, 14, 15, 16, 17, 18, 19, 20, 21, 22, 23, 24, 25, 26, 27, 28] (fun i => [(4, .int .i64 (i : Int))]) (fun i W => (Below w.heap.size w W) ∧ (At W b0_0 _ 51) ∧ (At W b1_0 #[wv (bitsTo l (64 * i)) 0, wv (bitsTo l (64 * i)) 1, wv (bitsTo l (64 * i)) 2, wv (bitsTo l (64 * i)) 3] 51) ∧ (i ≤ 4) ∧ (True)) (fun i => 4 - i) (0) ⟨rfl, trivial⟩ ⟨hB, hm0_0, hm1_0, Om, trivial⟩ ?_
 clear hB hm0_0 hm1_0
 rintro i g16 W15 ⟨hB, hm0_0, hm1_0, hi, _⟩ J17 hJ18
 refine WC_seq fun K19 hK20 => Zr <| Zi rfl <| Zv (r_lss rfl rfl) <| WL_nil <| ZQ rfl (fun hc0 => ?_) fun hc0 => ?_
 refine WC_skip <| hK20 _ _ <| WC_seq fun K23 hK24 => WC_block <| Zr <| Zi rfl <| WL_nil <| WC_block ?_
 refine WC_loop (σ := (Nat)) [5, 10, 11, 12, 13, 14, 15, 16, 17, 18, 19, 20, 21, 22, 23, 24, 25, 26, 27, 28] (fun k => [(5, .int .i64 (k : Int))]) (fun k W => (Below w.heap.size w W) ∧ (At W b0_0 _ 51) ∧ (At W b1_0 #[wv (bitsTo l (64 * i + k)) 0, wv (bitsTo l (64 * i + k)) 1, wv (bitsTo l (64 * i + k)) 2, wv (bitsTo l (64 * i + k)) 3] 51) ∧ (k ≤ 64) ∧ (True)) (fun k => 64 - k) (0) ⟨rfl, trivial⟩ ⟨hB, hm0_0, hm1_0, Om, trivial⟩ ?_
 clear hB hm0_0 hm1_0
 rintro k g28 W27 ⟨hB, hm0_0, hm1_0, hk, _⟩ J29 hJ30
 refine WC_seq fun K31 hK32 => Zr <| Zi rfl <| Zv (r_lss rfl rfl) <| WL_nil <| ZQ rfl (fun hc1 => ?_) fun hc1 => ?_
 refine WC_skip <| hK32 _ _ <| WC_seq fun K35 hK36 => WC_block <| Zr <| Zw x rfl <| Zi rfl <| Zv (r_mulI rfl rfl Om Om) <| Zi rfl <| Zv (r_addI rfl rfl Om Om) <| Zv (r_idxS (v := x) rfl (Below.slT hB hl) rfl tb_el61 Om (by first | omega | (simp only [flagsTo_len, litsTo_len, firstF_len, ptF_len]; omega))) <| Zv (r_load1 (v := .bool _) rfl tb_sc4 (SlT.cell (Below.slT hB hl) encB_len false Om (by first | omega | (simp only [flagsTo_len, litsTo_len, firstF_len, ptF_len]; omega)) 0 rfl)) <| WL_nil <| ZQ rfl (fun hc2 => ?_) fun hc2 => ?_
 replace hc2 : l.getD (64 * i + k) false = true := by rw [← hc2]; congr 1
 refine WC_draw Ext tb_mix (fun W39 hE40 => ?_)
 replace hB := Ze hB hE40
 replace hm0_0 := hE40.at hm0_0
 replace hm1_0 := hE40.at hm1_0
 have hS := Ext.refl W39
 refine Ti 0 rfl rfl hS <| Ti 1 rfl rfl hS <| Tk 2 rfl (fun _ _ => r_idxA rfl rfl tb_ar51 Om Om) hS <| Tk 3 rfl (fun _ hq => r_load1 (v := wv _ i) rfl tb_sc49 (At.cell (hq.at hm1_0) (setA_get _ i Om))) hS <| Ti 4 rfl rfl hS <| To 5 rfl (TC tb_c50 (C_drawkniferef01_power k _ Om) rfl fun v9_5 W41 hE42 hP9_5 => ⟨.inl (hS.trans hE42), ?_⟩)
 replace hB := Ze hB hE42
 replace hm0_0 := hE42.at hm0_0
 replace hm1_0 := hE42.at hm1_0
 replace hS := hS.trans hE42
 obtain rfl := hP9_5
 refine Tk 6 rfl (fun _ _ => r_addN rfl (n := _) rfl rfl (by exact bits_sum_top l Om Om)) hS <| Tk 7 rfl (fun _ _ => r_idxA rfl rfl tb_ar51 Om Om) hS <| To 8 rfl (Y_store1 (v := .int .u64 _) rfl rfl tb_sc49 rfl hm1_0 (by simp; omega) fun W45 hG46 hm47 => ⟨.inr (by kernel_rfl), ?_⟩)
 replace hB := Zg hB hG46 lo_b1_0
 replace hm0_0 := At.grownNe hm0_0 ne_b0_0_b1_0 hG46
 replace hm1_0 := hm47
 rw [setA_set (by omega) (bitsTo_wd l (by omega) (by omega) hc2)] at hm1_0
 refine Td <| hK36 _ _ <| WC_region <| Zi rfl <| Zv (r_addI rfl rfl Om Om) <| Zi rfl <| WL_nil ?_
 exact hJ30 _ _ (k + 1) Za ⟨rfl, trivial⟩ ⟨hB, hm0_0, (by first | exact hm1_0 | (rw [show 64 * i + (k + 1) = 64 * i + k + 1 from rfl, bitsTo_skip (by rw [← hc2]; congr 1)]; exact hm1_0)), Om, trivial⟩ Zo
 refine WC_skip <| hK36 _ _ <| WC_region <| Zi rfl <| Zv (r_addI rfl rfl Om Om) <| Zi rfl <| WL_nil ?_
 exact hJ30 _ _ (k + 1) Za ⟨rfl, trivial⟩ ⟨hB, hm0_0, (by first | exact hm1_0 | (rw [show 64 * i + (k + 1) = 64 * i + k + 1 from rfl, bitsTo_skip (by rw [← hc2]; congr 1)]; exact hm1_0)), Om, trivial⟩ Zo
 refine WC_exit <| hK24 _ _ <| WC_region <| Zi rfl <| Zv (r_addI rfl rfl Om Om) <| Zi rfl <| WL_nil ?_
 exact hJ18 _ _ (i + 1) Za ⟨rfl, trivial⟩ ⟨hB, hm0_0, (by have e : 64 * i + k = 64 * (i + 1) := Om; rw [← e]; exact hm1_0), Om, trivial⟩ Zo
 refine WC_exit <| hK12 _ _ <| Zr <| Zv (r_loadW rfl tb_ag51 rfl hm1_0) <| Zy (Y_storeW rfl rfl tb_ag51 rfl hm0_0 rfl rfl fun W50 hG51 hm52 => ?_)
 replace hB := Zg hB hG51 lo_b0_0
 replace hm1_0 := At.grownNe hm1_0 (Ne.symm ne_b0_0_b1_0) hG51
 replace hm0_0 := hm52
 refine WL_nil <| Zt <| ret_c rfl tb_ag51 hm0_0 rfl ⟨hB, ?_⟩
 obtain rfl : i = 4 := by omega
 rfl

theorem C_drawkniferef01_All (n : Int) (w : World) (h0 : 0 ≤ n) (h1 : n ≤ 8) :
    Fn Tryz.prog 28 #[.int .i64 n] w fun v w' => OwT encB 1 4 w' w.heap.size v (firstF (2 ^ n.toNat)) := by
 refine Fn_intro (n := 17) Tryz.func28 rfl rfl (Nat.le_of_ble_eq_true rfl) ?_
 have hB : Below w.heap.size w w := Below.refl _ _
 obtain ⟨n, rfl⟩ := Int.eq_ofNat_of_zero_le h0
 have hn : n ≤ 8 := by omega
 have h8 := pow8 hn
 refine Zr <| Zw (.slice none 0 0) rfl <| WL_nil <| Zr <| Zy (Y_make (n := 256) (N := w.heap.size) rfl rfl tb_el61 tb_z4 Dc Dc (Below.size hB) fun v1_0 W5 hE6 ho1_0 => ?_)
 replace ho1_0 := OwT.made encB_len false rfl Dc ho1_0
 replace hB := Ze hB hE6
 rw [firstF_zero] at ho1_0
 refine Zw v1_0 rfl <| WL_nil <| WC_seq fun K8 hK9 => Zr <| Zi rfl <| WL_nil <| WC_block ?_
 refine WC_loop (σ := (Nat)) [4, 6, 7, 8, 9, 10, 11, 12, 13, 14, 15] (fun k => [(4, .int .i64 (k : Int))]) (fun k W => (Below w.heap.size w W) ∧ (OwT encB 1 4 W w.heap.size v1_0 (firstF k)) ∧ (k ≤ 2 ^ n) ∧ (True)) (fun k => 2 ^ n - k) (0) ⟨rfl, trivial⟩ ⟨hB, ho1_0, (Nat.zero_le _), trivial⟩ ?_
 clear hB ho1_0
 rintro k g13 W12 ⟨hB, ho, hk, _⟩ J14 hJ15
 refine WC_seq fun K16 hK17 => Zr <| Zi rfl <| Zv (r_convN rfl Tryz.underlying3 Tryz.underlying49 (by simp only [topN]; omega)) <| Zi rfl <| ZC tb_c50 (C_drawkniferef01_power _ _ (by first | assumption | omega)) rfl fun v3_3 W20 hE21 hP3_3 => ?_
 replace hB := Ze hB hE21
 replace ho := hE21.ow ho
 obtain rfl := hP3_3
 refine Zv (r_lss rfl rfl) <| WL_nil <| ZQ rfl (fun hc0 => ?_) fun hc0 => ?_
 refine WC_skip <| hK17 _ _ <| WC_seq fun K23 hK24 => WC_block <| WC_region <| Zw v1_0 rfl <| Zi rfl <| Zv (r_idxS (v := v1_0) rfl ho.sl rfl tb_el61 Om (by first | omega | (simp only [flagsTo_len, litsTo_len, firstF_len, ptF_len]; omega))) <| Zy (Y_storeE (v := v1_0) (u := .bool true) (a := true) (j := _) rfl rfl (.inl ⟨tb_sc4, rfl⟩) encB_len rfl rfl ho Om (by first | omega | (simp only [flagsTo_len, litsTo_len, firstF_len, ptF_len]; omega)) fun W25 hG26 hm27 => ?_)
 replace hB := ZG hB hG26 ho
 clear hG26 ho
 replace ho := hm27
 rw [firstF_set] at ho
 refine WL_nil <| hK24 _ _ <| WC_region <| Zi rfl <| Zv (r_addI rfl rfl Om Om) <| Zi rfl <| WL_nil ?_
 exact hJ15 _ _ (k + 1) Za ⟨rfl, trivial⟩ ⟨hB, (by exact ho), Om, trivial⟩ Zo
 refine WC_exit <| hK9 _ _ <| Zr <| Zw v1_0 rfl <| Zw v1_0 rfl <| WL_nil <| Zt <| ret_t (v := v1_0) rfl ⟨hB, ?_⟩
 obtain rfl : k = 2 ^ n := by omega
 exact ho

theorem C_drawkniferef01_Within (a b : Nat) (w : World) :
    Fn Tryz.prog 27 #[setV a, setV b] w fun v w' => v = .bool (withinB a b) := by
 refine Fn_intro (n := 27) Tryz.func27 rfl rfl (Nat.le_of_ble_eq_true rfl) ?_
 have hB : Below w.heap.size w w := Below.refl _ _
 refine Zr <| Zy (Y_box (c := #[_, _, _, _]) rfl rfl fun b0_0 W3 hb4 hE5 hm0_0 => ?_)
 have lo_b0_0 := ZO hb4 hB
 clear hb4
 replace hB := Ze hB hE5
 refine Zy (Y_box (c := #[_, _, _, _]) rfl rfl fun b0_1 W6 hb7 hE8 hm0_1 => ?_)
 have lo_b0_1 := ZO hb7 hB
 have ne_b0_0_b0_1 := Zn hb7 hm0_0
 clear hb7
 replace hB := Ze hB hE8
 replace hm0_0 := hE8.at hm0_0
 refine Zb rfl <| WL_nil <| Zd Ext fun W11 hE12 => ?_
 replace hB := Ze hB hE12
 replace hm0_0 := hE12.at hm0_0
 replace hm0_1 := hE12.at hm0_1
 have hS := Ext.refl W11
 refine Tk 0 rfl (fun _ hq => r_loadW rfl tb_ag51 rfl (hq.at hm0_0)) hS <| Tk 2 rfl (fun _ hq => r_loadW rfl tb_ag51 rfl (hq.at hm0_1)) hS <| To 1 rfl (TC tb_c33 (C_drawkniferef01_Flags _ _) rfl fun v1_1 W13 hE14 hP1_1 => ⟨.inl (hS.trans hE14), ?_⟩)
 have hsz15 := (Below.size hB)
 replace hB := Ze hB hE14
 replace hm0_0 := hE14.at hm0_0
 replace hm0_1 := hE14.at hm0_1
 replace hS := hS.trans hE14
 replace hP1_1 := OwT.mono hP1_1 hsz15
 refine To 3 rfl (TC tb_c33 (C_drawkniferef01_Flags _ _) rfl fun v1_3 W17 hE18 hP1_3 => ⟨.inl (hS.trans hE18), ?_⟩)
 have hlt19 := OwT.lt2 hP1_1
 have hsz20 := (Below.size hB)
 replace hB := Ze hB hE18
 replace hm0_0 := hE18.at hm0_0
 replace hm0_1 := hE18.at hm0_1
 replace hP1_1 := hE18.ow hP1_1
 replace hS := hS.trans hE18
 have hap21 := Apart.new hlt19 hP1_3
 replace hP1_3 := OwT.mono hP1_3 hsz20
 refine Tw 4 v1_1 rfl rfl hS <| Tw 5 v1_3 rfl rfl hS <| Td <| WC_seq fun K22 hK23 => Zr <| Zi rfl <| WL_nil <| WC_block ?_
 refine WC_loop (σ := (Nat)) [4, 7, 12, 13, 14, 15, 16, 17, 18, 19, 20, 21, 22, 23, 24, 25, 26] (fun k => [(7, .int .i64 (k : Int))]) (fun k W => (Below w.heap.size w W) ∧ (At W b0_0 _ 51) ∧ (At W b0_1 _ 51) ∧ (OwT encB 1 4 W w.heap.size v1_1 _) ∧ (Apart v1_1 v1_3) ∧ (OwT encB 1 4 W w.heap.size v1_3 _) ∧ (k ≤ 256) ∧ (∀ p, p < k → a.testBit p = true → b.testBit p = true) ∧ (True)) (fun k => 256 - k) (0) ⟨rfl, trivial⟩ ⟨hB, hm0_0, hm0_1, hP1_1, hap21, hP1_3, Om, upTo_zero, trivial⟩ ?_
 clear hB hm0_0 hm0_1 hP1_1 hap21 hP1_3
 rintro k g27 W26 ⟨hB, hm0_0, hm0_1, hP1_1, hap21, hP1_3, hk, hw, _⟩ J28 hJ29
 refine WC_seq fun K30 hK31 => Zr <| Zi rfl <| Zv (r_lss rfl rfl) <| WL_nil <| ZQ rfl (fun hc0 => ?_) fun hc0 => ?_
 refine WC_skip <| hK31 _ _ <| WC_seq fun K34 hK35 => WC_block <| Zr <| Zw v1_1 rfl <| Zi rfl <| Zv (r_idxS (v := v1_1) rfl hP1_1.sl rfl tb_el61 Om (by first | omega | (simp only [flagsTo_len, litsTo_len, firstF_len, ptF_len]; omega))) <| Zv (r_load1 (v := .bool _) rfl tb_sc4 (SlT.cell hP1_1.sl encB_len false Om (by first | omega | (simp only [flagsTo_len, litsTo_len, firstF_len, ptF_len]; omega)) 0 rfl)) <| ZX rfl (fun hs5_4 => ?_) fun hs5_4 => ?_
 refine Zw v1_3 rfl <| Zi rfl <| Zv (r_idxS (v := v1_3) rfl hP1_3.sl rfl tb_el61 Om (by first | omega | (simp only [flagsTo_len, litsTo_len, firstF_len, ptF_len]; omega))) <| Zv (r_load1 (v := .bool _) rfl tb_sc4 (SlT.cell hP1_3.sl encB_len false Om (by first | omega | (simp only [flagsTo_len, litsTo_len, firstF_len, ptF_len]; omega)) 0 rfl)) <| Zv (r_not rfl) <| Zb rfl <| WL_nil <| ZQ rfl (fun hc1 => ?_) fun hc1 => ?_
 refine Zr <| Zb rfl <| WL_nil <| Zt <| ret_t (v := .bool false) rfl ⟨hB, ?_⟩
 exact congrArg Value.bool (within_false Om hs5_4 hc1).symm
 refine WC_skip <| hK35 _ _ <| WC_region <| Zi rfl <| Zv (r_addI rfl rfl Om Om) <| Zi rfl <| WL_nil ?_
 exact hJ29 _ _ (k + 1) Za ⟨rfl, trivial⟩ ⟨hB, hm0_0, hm0_1, hP1_1, hap21, hP1_3, Om, (upTo_succ hw (within_step Om (by first | exact .inl hs5_4 | exact .inr hc1))), trivial⟩ Zo
 refine Zs <| Zs <| Zs <| Zs <| Zs <| Zb rfl <| WL_nil <| WC_cond_false rfl <| WC_skip <| hK35 _ _ <| WC_region <| Zi rfl <| Zv (r_addI rfl rfl Om Om) <| Zi rfl ?_
 refine WL_nil ?_
 exact hJ29 _ _ (k + 1) Za ⟨rfl, trivial⟩ ⟨hB, hm0_0, hm0_1, hP1_1, hap21, hP1_3, Om, (upTo_succ hw (within_step Om (by first | exact .inl hs5_4 | exact .inr hc1))), trivial⟩ Zo
 refine WC_exit <| hK23 _ _ <| Zr <| Zb rfl <| WL_nil <| Zt <| ret_t (v := .bool true) rfl ⟨hB, ?_⟩
 exact congrArg Value.bool (within_true Om hw).symm

theorem C_drawkniferef01_List (s : Nat) (w : World) :
    Fn Tryz.prog 48 #[setV s] w fun v w' => OwT encI 1 3 w' w.heap.size v (listS s) := by
 refine Fn_intro (n := 21) Tryz.func48 rfl rfl (Nat.le_of_ble_eq_true rfl) ?_
 have hB : Below w.heap.size w w := Below.refl _ _
 refine Zr <| Zy (Y_box (c := #[_, _, _, _]) rfl rfl fun b0_0 W3 hb4 hE5 hm0_0 => ?_)
 have lo_b0_0 := ZO hb4 hB
 clear hb4
 replace hB := Ze hB hE5
 refine Zw (.slice none 0 0) rfl <| WL_nil <| Zr <| Zv (r_loadW rfl tb_ag51 rfl hm0_0) <| ZC tb_c33 (C_drawkniferef01_Flags _ _) rfl fun v1_1 W8 hE9 hP1_1 => ?_
 have hsz10 := (Below.size hB)
 replace hB := Ze hB hE9
 replace hm0_0 := hE9.at hm0_0
 replace hP1_1 := OwT.mono hP1_1 hsz10
 refine Zw v1_1 rfl <| WL_nil <| Zr <| Zw (.slice none 0 0) rfl <| WL_nil <| WC_seq fun K13 hK14 => Zr <| Zi rfl <| WL_nil <| WC_block ?_
 refine WC_loop (σ := (Nat) × (Value)) [4, 5, 8, 9, 10, 11, 12, 13, 14, 15, 16, 17, 18, 19] (fun (k, v0) => [(5, .int .i64 (k : Int)), (4, v0)]) (fun sg W => match sg with | (k, v0) => (Below w.heap.size w W) ∧ (At W b0_0 _ 51) ∧ (OwT encB 1 4 W w.heap.size v1_1 _) ∧ (OwT encI 1 3 W w.heap.size v0 (listTo s k)) ∧ (k ≤ 256) ∧ (True)) (fun (k, v0) => 256 - k) ((0, .slice none 0 0)) ⟨rfl, rfl, trivial⟩ ⟨hB, hm0_0, hP1_1, OwT.nil, Om, trivial⟩ ?_
 clear hB hm0_0 hP1_1
 rintro ⟨k, v0⟩ g18 W17 ⟨hB, hm0_0, hP1_1, ho, hk, _⟩ J19 hJ20
 refine WC_seq fun K21 hK22 => Zr <| Zi rfl <| Zv (r_lss rfl rfl) <| WL_nil <| ZQ rfl (fun hc0 => ?_) fun hc0 => ?_
 refine WC_skip <| hK22 _ _ <| WC_seq fun K25 hK26 => WC_block ?_
 have hll := listTo_len s k
 refine Zr <| Zw v1_1 rfl <| Zi rfl <| Zv (r_idxS (v := v1_1) rfl hP1_1.sl rfl tb_el61 Om (by first | omega | (simp only [flagsTo_len, litsTo_len, firstF_len, ptF_len]; omega))) <| Zv (r_load1 (v := .bool _) rfl tb_sc4 (SlT.cell hP1_1.sl encB_len false Om (by first | omega | (simp only [flagsTo_len, litsTo_len, firstF_len, ptF_len]; omega)) 0 rfl)) <| WL_nil <| ZQ rfl (fun hc1 => ?_) fun hc1 => ?_
 refine WC_region <| Zw v0 rfl <| Zi rfl <| Zy (Y_lit1 (u := .int .i64 _) rfl tb_el42 tb_zs3 rfl Dc Dc fun b7_2 W29 hb30 hE31 hm7_2 => ?_)
 have lo_b7_2 := ZO hb30 hB
 have no_v0_b7_2 := OwT.neB (b := b7_2) ho (Nat.le_of_eq hb30.symm)
 clear hb30
 replace hB := Ze hB hE31
 replace hm0_0 := hE31.at hm0_0
 replace hP1_1 := hE31.ow hP1_1
 replace ho := hE31.ow ho
 refine Zy (Y_append (v := v0) (v2 := .slice (some ⟨b7_2, 0, none⟩) 1 1) rfl rfl tb_el42 tb_zs3 Dc ho (sl_lit1 hm7_2 rfl) rfl (by have := Below.size hB; omega) (by first | omega | (simp; omega) | (simp only [flagsTo_len, litsTo_len, firstF_len, ptF_len]; omega)) (by first | omega | (simp; omega) | (simp only [flagsTo_len, litsTo_len, firstF_len, ptF_len]; omega)) fun v7_3 W32 hG33 ho7_3 => ?_)
 replace ho7_3 := OwT.snoc (enc := encI) (x := _) rfl rfl rfl rfl ho7_3
 replace hB := ZG hB hG33 ho
 replace hm0_0 := At.grownOw hm0_0 ho hG33 Dc
 replace hP1_1 := OwT.grownOw hP1_1 ho hG33 Dc
 clear ho
 refine Zw v7_3 rfl <| WL_nil <| hK26 _ _ <| WC_region <| Zi rfl <| Zv (r_addI rfl rfl Om Om) <| Zi rfl <| WL_nil ?_
 exact hJ20 _ _ ((k + 1, v7_3)) Za ⟨rfl, rfl, trivial⟩ ⟨hB, hm0_0, hP1_1, (by first | (rw [listTo_succ, if_pos (by rw [← hc1]; exact (flagsTo_get Om).symm)]; exact ho7_3) | (rw [listTo_succ, if_neg (by rw [← flagsTo_get (show k < 256 by omega)]; exact Bool.eq_false_iff.1 hc1)]; exact ho7_3)), Om, trivial⟩ (by show 256 - (k + 1) < 256 - k; omega)
 refine WC_skip <| hK26 _ _ <| WC_region <| Zi rfl <| Zv (r_addI rfl rfl Om Om) <| Zi rfl <| WL_nil ?_
 exact hJ20 _ _ ((k + 1, v0)) Za ⟨rfl, rfl, trivial⟩ ⟨hB, hm0_0, hP1_1, (by first | (rw [listTo_succ, if_pos (by rw [← hc1]; exact (flagsTo_get Om).symm)]; exact ho) | (rw [listTo_succ, if_neg (by rw [← flagsTo_get (show k < 256 by omega)]; exact Bool.eq_false_iff.1 hc1)]; exact ho)), Om, trivial⟩ (by show 256 - (k + 1) < 256 - k; omega)
 refine WC_exit <| hK14 _ _ <| Zr <| Zw v0 rfl <| Zw v0 rfl <| WL_nil <| Zt <| ret_t (v := v0) rfl ⟨hB, ?_⟩
 obtain rfl : k = 256 := by omega
 exact ho

theorem C_drawkniferef02_Literals (m u : Nat) (w : World) (hm : m < 256) (hv : u < 256) :
    Fn Tryz.prog 62 #[.agg #[.int .u8 (m : Int), .int .u8 (u : Int)]] w fun v w' => OwT encI 1 3 w' w.heap.size v (litsS m u) := by
 refine Fn_intro (n := 32) Tryz.func62 rfl rfl (Nat.le_of_ble_eq_true rfl) ?_
 have hB : Below w.heap.size w w := Below.refl _ _
 refine Zr <| Zy (Y_box (c := #[_, _]) rfl rfl fun b0_0 W3 hb4 hE5 hm0_0 => ?_)
 have lo_b0_0 := ZO hb4 hB
 clear hb4
 replace hB := Ze hB hE5
 refine Zw (.slice none 0 0) rfl <| WL_nil <| Zr <| Zw (.slice none 0 0) rfl <| WL_nil <| Zd Ext fun W10 hE11 => ?_
 replace hB := Ze hB hE11
 replace hm0_0 := hE11.at hm0_0
 have hS := Ext.refl W10
 refine Tf 0 rfl rfl tb_fo41_0 hS <| Tk 1 rfl (fun _ hq => r_load1 (v := .int .u8 _) rfl tb_sc5 (At.cell (hq.at hm0_0) rfl)) hS <| Tf 2 rfl rfl tb_fo41_1 hS <| Tk 3 rfl (fun _ hq => r_load1 (v := .int .u8 _) rfl tb_sc5 (At.cell (hq.at hm0_0) rfl)) hS <| Ti 4 rfl rfl hS <| Ti 5 rfl rfl hS <| Td <| WC_seq fun K12 hK13 => Zr <| Zi rfl <| WL_nil <| WC_block ?_
 refine WC_loop (σ := (Nat) × (Value)) [3, 4, 5, 6, 11, 12, 13, 14, 15, 16, 17, 18, 19, 20, 21, 22, 23, 24, 25, 26, 27, 28, 29, 30] (fun (k, v0) => [(6, .int .i64 (k : Int)), (4, .int .u8 ((m / 2 ^ k : Nat) : Int)), (5, .int .u8 ((u / 2 ^ k : Nat) : Int)), (3, v0)]) (fun sg W => match sg with | (k, v0) => (Below w.heap.size w W) ∧ (At W b0_0 _ 41) ∧ (OwT encI 1 3 W w.heap.size v0 (litsTo m u k)) ∧ (k ≤ 8) ∧ (True)) (fun (k, v0) => 8 - k) ((0, .slice none 0 0)) ⟨rfl, congrArg (fun x : Nat => Value.int .u8 (x : Int)) (Nat.div_one _).symm, congrArg (fun x : Nat => Value.int .u8 (x : Int)) (Nat.div_one _).symm, rfl, trivial⟩ ⟨hB, hm0_0, OwT.nil, Om, trivial⟩ ?_
 clear hB hm0_0
 rintro ⟨k, v0⟩ g17 W16 ⟨hB, hm0_0, ho, hk, _⟩ J18 hJ19
 refine WC_seq fun K20 hK21 => Zr <| Zi rfl <| Zv (r_lss rfl rfl) <| WL_nil <| ZQ rfl (fun hc0 => ?_) fun hc0 => ?_
 refine WC_skip <| hK21 _ _ <| WC_seq fun K24 hK25 => WC_block <| WC_seq fun K26 hK27 => ?_
 have hmk : m / 2 ^ k < 256 := Nat.lt_of_le_of_lt (Nat.div_le_self _ _) hm
 have hvk : u / 2 ^ k < 256 := Nat.lt_of_le_of_lt (Nat.div_le_self _ _) hv
 refine Zr <| Zi rfl <| Zv (r_remN (n := 2) rfl rfl rfl Om) <| Zv (r_eql rfl rfl) <| WL_nil <| ZQ rfl (fun hc1 => ?_) fun hc1 => ?_
 refine WC_region <| Zw v0 rfl <| Zy (Y_lit1 (u := .int .i64 2) rfl tb_el42 tb_zs3 rfl Dc Dc fun b7_1 W30 hb31 hE32 hm7_1 => ?_)
 have lo_b7_1 := ZO hb31 hB
 have no_v0_b7_1 := OwT.neB (b := b7_1) ho (Nat.le_of_eq hb31.symm)
 clear hb31
 replace hB := Ze hB hE32
 replace hm0_0 := hE32.at hm0_0
 replace ho := hE32.ow ho
 refine Zy (Y_append (v := v0) (v2 := .slice (some ⟨b7_1, 0, none⟩) 1 1) rfl rfl tb_el42 tb_zs3 Dc ho (sl_lit1 hm7_1 rfl) rfl (by have := Below.size hB; omega) (by simp only [litsTo_len]; omega) (by simp only [litsTo_len]; omega) fun v7_2 W33 hG34 ho7_2 => ?_)
 replace ho7_2 := OwT.snoc (enc := encI) (x := _) rfl rfl rfl rfl ho7_2
 replace hB := ZG hB hG34 ho
 replace hm0_0 := At.grownOw hm0_0 ho hG34 Dc
 clear ho
 refine Zw v7_2 rfl <| WL_nil <| hK27 _ _ <| Zr <| Zi rfl <| Zv (r_quoN (n := 2) rfl rfl rfl Om (by first | assumption | (simp only [topN]; omega) | (simp only [topN]; decide))) <| Zi rfl <| WL_nil <| WC_region <| Zi rfl <| Zv (r_quoN (n := 2) rfl rfl rfl Om (by first | assumption | (simp only [topN]; omega) | (simp only [topN]; decide))) <| Zi rfl <| WL_nil <| hK25 _ _ ?_
 refine WC_region <| Zi rfl <| Zv (r_addI rfl rfl Om Om) <| Zi rfl <| WL_nil ?_
 exact hJ19 _ _ ((k + 1, v7_2)) Za ⟨rfl, congrArg (fun x : Nat => Value.int .u8 (x : Int)) (div_pow m k), congrArg (fun x : Nat => Value.int .u8 (x : Int)) (div_pow u k), rfl, trivial⟩ ⟨hB, hm0_0, (by first | (rw [litsTo_succ, lit, if_pos Om]; exact ho7_2) | (rw [litsTo_succ, lit, if_neg Om]; exact ho7_2)), Om, trivial⟩ (by show 8 - (k + 1) < 8 - k; omega)
 refine WC_region <| Zw v0 rfl <| Zi rfl <| Zv (r_remN (n := 2) rfl rfl rfl Om) <| Zv (r_convN rfl Tryz.underlying5 Tryz.underlying3 (by simp only [topN]; omega)) <| Zy (Y_lit1 (u := .int .i64 _) rfl tb_el42 tb_zs3 rfl Dc Dc fun b8_4 W38 hb39 hE40 hm8_4 => ?_)
 have lo_b8_4 := ZO hb39 hB
 have no_v0_b8_4 := OwT.neB (b := b8_4) ho (Nat.le_of_eq hb39.symm)
 clear hb39
 replace hB := Ze hB hE40
 replace hm0_0 := hE40.at hm0_0
 replace ho := hE40.ow ho
 refine Zy (Y_append (v := v0) (v2 := .slice (some ⟨b8_4, 0, none⟩) 1 1) rfl rfl tb_el42 tb_zs3 Dc ho (sl_lit1 hm8_4 rfl) rfl (by have := Below.size hB; omega) (by simp only [litsTo_len]; omega) (by simp only [litsTo_len]; omega) fun v8_5 W41 hG42 ho8_5 => ?_)
 replace ho8_5 := OwT.snoc (enc := encI) (x := _) rfl rfl rfl rfl ho8_5
 replace hB := ZG hB hG42 ho
 replace hm0_0 := At.grownOw hm0_0 ho hG42 Dc
 clear ho
 refine Zw v8_5 rfl <| WL_nil <| hK27 _ _ <| Zr <| Zi rfl <| Zv (r_quoN (n := 2) rfl rfl rfl Om (by first | assumption | (simp only [topN]; omega) | (simp only [topN]; decide))) <| Zi rfl <| WL_nil <| WC_region <| Zi rfl <| Zv (r_quoN (n := 2) rfl rfl rfl Om (by first | assumption | (simp only [topN]; omega) | (simp only [topN]; decide))) <| Zi rfl <| WL_nil <| hK25 _ _ ?_
 refine WC_region <| Zi rfl <| Zv (r_addI rfl rfl Om Om) <| Zi rfl <| WL_nil ?_
 exact hJ19 _ _ ((k + 1, v8_5)) Za ⟨rfl, congrArg (fun x : Nat => Value.int .u8 (x : Int)) (div_pow m k), congrArg (fun x : Nat => Value.int .u8 (x : Int)) (div_pow u k), rfl, trivial⟩ ⟨hB, hm0_0, (by first | (rw [litsTo_succ, lit, if_pos Om]; exact ho8_5) | (rw [litsTo_succ, lit, if_neg Om]; exact ho8_5)), Om, trivial⟩ (by show 8 - (k + 1) < 8 - k; omega)
 refine WC_exit <| hK13 _ _ <| Zr <| Zw v0 rfl <| Zw v0 rfl <| WL_nil <| Zt <| ret_t (v := v0) rfl ⟨hB, ?_⟩
 obtain rfl : k = 8 := by omega
 exact ho

theorem C_drawkniferef02_Cube (x : Value) (l : List Int) (w : World) (hl : SlT encI 1 w x l) (hL : Lits l) :
    Fn Tryz.prog 63 #[x] w fun v w' => v = .agg #[.int .u8 ((maskTo l l.length : Nat) : Int), .int .u8 ((valTo l l.length : Nat) : Int)] := by
 refine Fn_intro (n := 36) Tryz.func63 rfl rfl (Nat.le_of_ble_eq_true rfl) ?_
 have hB : Below w.heap.size w w := Below.refl _ _
 have h8 := hL.1
 refine Zr <| Zy (Y_alloc tb_z41 rfl fun b0_0 W3 hb4 hE5 hm0_0 => ?_)
 have lo_b0_0 := ZO hb4 hB
 clear hb4
 replace hB := Ze hB hE5
 refine WL_nil <| Zr <| Zy (Y_alloc tb_z41 rfl fun b1_0 W8 hb9 hE10 hm1_0 => ?_)
 have lo_b1_0 := ZO hb9 hB
 have ne_b0_0_b1_0 := Zn hb9 hm0_0
 clear hb9
 replace hB := Ze hB hE10
 replace hm0_0 := hE10.at hm0_0
 refine WL_nil <| Zr <| Zi rfl <| WL_nil <| WC_seq fun K13 hK14 => Zr <| Zi rfl <| WL_nil <| WC_block ?_
 refine WC_loop (σ := (Nat)) [4, 5, 6, 7, 8, 9, 10, 11, 12, 13, 14, 15, 16, 17, 18, 19, 20, 21, 22, 23, 24, 25, 26, 27, 28, 29, 30, 31, 32, 33, 34] (fun k => [(5, .int .i64 (k : Int)), (4, .int .u8 ((2 ^ k % 256 : Nat) : Int))]) (fun k W => (Below w.heap.size w W) ∧ (At W b0_0 _ 41) ∧ (At W b1_0 #[.int .u8 ((maskTo l k : Nat) : Int), .int .u8 ((valTo l k : Nat) : Int)] 41) ∧ (k ≤ l.length) ∧ (True)) (fun k => l.length - k) (0) ⟨rfl, rfl, trivial⟩ ⟨hB, hm0_0, hm1_0, (Nat.zero_le _), trivial⟩ ?_
 clear hB hm0_0 hm1_0
 rintro k g18 W17 ⟨hB, hm0_0, hm1_0, hk, _⟩ J19 hJ20
 refine WC_seq fun K21 hK22 => Zr <| Zi rfl <| Zw x rfl <| Zv (r_lenS (v := x) rfl (Below.slT hB hl) tb_el42) <| Zv (r_lss rfl rfl) <| WL_nil <| ZQ rfl (fun hc0 => ?_) fun hc0 => ?_
 refine WC_skip <| hK22 _ _ <| WC_seq fun K25 hK26 => WC_block <| WC_seq fun K27 hK28 => ?_
 have h7 := pow7 (show k < 8 by omega)
 rw [Nat.mod_eq_of_lt (show 2 ^ k < 256 by omega)]
 have hA := maskTo_lt l k
 have hB2 := valTo_lt l k
 refine Zr <| Zw x rfl <| Zi rfl <| Zv (r_idxS (v := x) rfl (Below.slT hB hl) rfl tb_el42 Om (by first | omega | (simp only [flagsTo_len, litsTo_len, firstF_len, ptF_len]; omega))) <| Zv (r_load1 (v := .int .i64 _) rfl tb_sc3 (SlT.cell (Below.slT hB hl) encI_len 0 Om (by first | omega | (simp only [flagsTo_len, litsTo_len, firstF_len, ptF_len]; omega)) 0 rfl)) <| Zv (r_lss rfl rfl) <| WL_nil <| ZQ rfl (fun hc1 => ?_) fun hc1 => ?_
 obtain ⟨q, hq0, hq1⟩ := hL.get (k := k) (by omega) hc1
 refine Zr <| Zf rfl tb_fo41_0 <| Zl rfl tb_sc5 hm1_0 rfl <| Zi rfl <| Zv (r_addN rfl (n := _) rfl rfl (by simp only [topN]; omega)) <| Zf rfl tb_fo41_0 <| Zy (Y_store1 (v := .int .u8 _) rfl rfl tb_sc5 rfl hm1_0 (by simp) fun W33 hG34 hm35 => ?_)
 replace hB := Zg hB hG34 lo_b1_0
 replace hm0_0 := At.grownNe hm0_0 ne_b0_0_b1_0 hG34
 replace hm1_0 := hm35
 replace hm1_0 : At _ _ #[_, _] _ := hm1_0
 refine WL_nil ?_
 have hq2 : 2 ^ k * q ≤ 2 ^ k * 1 := Nat.mul_le_mul_left _ hq0
 have hq3 : l.getD (k : Int).toNat 0 = (q : Int) := hq1
 refine WC_draw Ext tb_mix (fun W36 hE37 => ?_)
 replace hB := Ze hB hE37
 replace hm0_0 := hE37.at hm0_0
 replace hm1_0 := hE37.at hm1_0
 have hS := Ext.refl W36
 refine Tf 0 rfl rfl tb_fo41_1 hS <| Tk 1 rfl (fun _ hq => r_load1 (v := .int .u8 _) rfl tb_sc5 (At.cell (hq.at hm1_0) rfl)) hS <| Ti 2 rfl rfl hS <| Tw 3 x rfl rfl hS <| Ti 4 rfl rfl hS <| Tk 5 rfl (fun _ hq => r_idxS (v := x) rfl (hq.slT (Below.slT hB hl)) rfl tb_el42 Om (by first | omega | (simp only [flagsTo_len, litsTo_len, firstF_len, ptF_len]; omega))) hS <| Tk 6 rfl (fun _ hq => r_load1 (v := .int .i64 _) rfl tb_sc3 (SlT.cell (hq.slT (Below.slT hB hl)) encI_len 0 Om (by first | omega | (simp only [flagsTo_len, litsTo_len, firstF_len, ptF_len]; omega)) 0 rfl)) hS <| Tk 7 rfl (fun _ _ => r_convN (m := q) (congrArg (Value.int .i64) hq3) Tryz.underlying3 Tryz.underlying5 (by simp only [topN]; omega)) hS <| Tk 8 rfl (fun _ _ => r_mulN rfl (n := q) rfl rfl (by simp only [topN]; omega)) hS <| Tk 9 rfl (fun _ _ => r_addN rfl (n := (2 ^ k * q)) rfl rfl (by simp only [topN]; omega)) hS <| Tf 10 rfl rfl tb_fo41_1 hS <| To 11 rfl (Y_store1 (v := .int .u8 _) rfl rfl tb_sc5 rfl hm1_0 (by simp) fun W38 hG39 hm40 => ⟨.inr (by kernel_rfl), ?_⟩)
 replace hB := Zg hB hG39 lo_b1_0
 replace hm0_0 := At.grownNe hm0_0 ne_b0_0_b1_0 hG39
 replace hm1_0 := hm40
 replace hm1_0 : At _ _ #[_, _] _ := hm1_0
 refine Td <| hK28 _ _ <| WC_region <| Zi rfl <| Zv (r_mulW8 (n := 2) rfl rfl rfl) <| Zi rfl <| WL_nil <| hK26 _ _ <| WC_region <| Zi rfl <| Zv (r_addI rfl rfl Om Om) <| Zi rfl <| WL_nil ?_
 exact hJ20 _ _ (k + 1) Za ⟨rfl, rfl, trivial⟩ ⟨hB, hm0_0, (by first | (rw [(masks_step (k := k) hq1 hq0).1, (masks_step (k := k) hq1 hq0).2]; exact hm1_0) | (rw [(masks_skip (k := k) hc1).1, (masks_skip (k := k) hc1).2]; exact hm1_0)), Om, trivial⟩ Zo
 refine WC_skip <| hK28 _ _ <| WC_region <| Zi rfl <| Zv (r_mulW8 (n := 2) rfl rfl rfl) <| Zi rfl <| WL_nil <| hK26 _ _ <| WC_region <| Zi rfl <| Zv (r_addI rfl rfl Om Om) <| Zi rfl <| WL_nil ?_
 exact hJ20 _ _ (k + 1) Za ⟨rfl, rfl, trivial⟩ ⟨hB, hm0_0, (by first | (rw [(masks_step (k := k) hq1 hq0).1, (masks_step (k := k) hq1 hq0).2]; exact hm1_0) | (rw [(masks_skip (k := k) hc1).1, (masks_skip (k := k) hc1).2]; exact hm1_0)), Om, trivial⟩ Zo
 refine WC_exit <| hK14 _ _ <| Zr <| Zv (r_loadW rfl tb_ag41 rfl hm1_0) <| Zy (Y_storeW rfl rfl tb_ag41 rfl hm0_0 rfl rfl fun W44 hG45 hm46 => ?_)
 replace hB := Zg hB hG45 lo_b0_0
 replace hm1_0 := At.grownNe hm1_0 (Ne.symm ne_b0_0_b1_0) hG45
 replace hm0_0 := hm46
 refine WL_nil <| Zt <| ret_c rfl tb_ag41 hm0_0 rfl ⟨hB, ?_⟩
 obtain rfl : k = l.length := by omega
 rfl

theorem C_drawkniferef02_Right (m u : Nat) (n : Int) (w : World) (hm : m < 256) (hv : u < 256) :
    Fn Tryz.prog 47 #[.agg #[.int .u8 (m : Int), .int .u8 (u : Int)], .int .i64 n] w fun v w' => v = .bool (rightB m u n) := by
 refine Fn_intro (n := 29) Tryz.func47 rfl rfl (Nat.le_of_ble_eq_true rfl) ?_
 have hB : Below w.heap.size w w := Below.refl _ _
 refine Zr <| Zy (Y_box (c := #[_, _]) rfl rfl fun b0_0 W3 hb4 hE5 hm0_0 => ?_)
 have lo_b0_0 := ZO hb4 hB
 clear hb4
 replace hB := Ze hB hE5
 refine Zb rfl <| WL_nil <| WC_seq fun K6 hK7 => Zr <| Zi rfl <| Zv (r_lss rfl rfl) <| ZX rfl (fun hs1_2 => ?_) fun hs1_2 => ?_
 refine Zs <| Zs <| Zb rfl <| WL_nil <| WC_cond_true rfl <| Zr <| Zb rfl <| WL_nil <| Zt <| ret_t (v := .bool false) rfl ⟨hB, ?_⟩
 exact congrArg Value.bool (right_neg Om).symm
 refine Zi rfl <| Zv (r_gtr rfl rfl) <| Zb rfl <| WL_nil <| ZQ rfl (fun hc0 => ?_) fun hc0 => ?_
 refine Zr <| Zb rfl <| WL_nil <| Zt <| ret_t (v := .bool false) rfl ⟨hB, ?_⟩
 exact congrArg Value.bool (right_neg Om).symm
 refine WC_skip <| hK7 _ _ <| Zr <| Zv (r_loadW rfl tb_ag41 rfl hm0_0) <| ZC tb_c62 (C_drawkniferef02_Literals _ _ _ (by first | assumption | omega) (by first | assumption | omega)) rfl fun v3_1 W16 hE17 hP3_1 => ?_
 have hsz18 := (Below.size hB)
 replace hB := Ze hB hE17
 replace hm0_0 := hE17.at hm0_0
 replace hP3_1 := OwT.mono hP3_1 hsz18
 refine Zw v3_1 rfl <| WL_nil <| WC_seq fun K19 hK20 => ?_
 have hn : 0 ≤ n ∧ n ≤ 8 := by omega
 refine Zr <| Zi rfl <| Zi rfl <| WL_nil <| WC_block ?_
 refine WC_loop (σ := (Nat)) [4, 6, 16, 17, 18, 19, 20, 21, 22, 23, 24] (fun i => [(6, .int .i64 (i : Int))]) (fun i W => (Below w.heap.size w W) ∧ (At W b0_0 _ 41) ∧ (OwT encI 1 3 W w.heap.size v3_1 _) ∧ (n.toNat ≤ i ∧ i ≤ 8) ∧ (∀ q, n.toNat ≤ q → q < i → lit m u q = 2) ∧ (True)) (fun i => 8 - i) (n.toNat) ⟨congrArg (Value.int .i64) (by omega : n = (n.toNat : Int)), trivial⟩ ⟨hB, hm0_0, hP3_1, Om, (fun q h1 h2 => by omega), trivial⟩ ?_
 clear hB hm0_0 hP3_1
 rintro i g24 W23 ⟨hB, hm0_0, hP3_1, hi, hw, _⟩ J25 hJ26
 refine WC_seq fun K27 hK28 => Zr <| Zi rfl <| Zv (r_lss rfl rfl) <| WL_nil <| ZQ rfl (fun hc1 => ?_) fun hc1 => ?_
 refine WC_skip <| hK28 _ _ <| WC_seq fun K31 hK32 => WC_block <| Zr <| Zw v3_1 rfl <| Zi rfl <| Zv (r_idxS (v := v3_1) rfl hP3_1.sl rfl tb_el42 Om (by first | omega | (simp only [flagsTo_len, litsTo_len, firstF_len, ptF_len]; omega))) <| Zv (r_load1 (v := .int .i64 _) rfl tb_sc3 (SlT.cell hP3_1.sl encI_len 0 Om (by first | omega | (simp only [flagsTo_len, litsTo_len, firstF_len, ptF_len]; omega)) 0 rfl)) <| Zv (r_neq rfl rfl) <| WL_nil <| ZQ rfl (fun hc2 => ?_) fun hc2 => ?_
 refine Zr <| Zb rfl <| WL_nil <| Zt <| ret_t (v := .bool false) rfl ⟨hB, ?_⟩
 exact congrArg Value.bool (right_not hm Om hc2).symm
 refine WC_skip <| hK32 _ _ <| WC_region <| Zi rfl <| Zv (r_addI rfl rfl Om Om) <| Zi rfl <| WL_nil ?_
 exact hJ26 _ _ (i + 1) Za ⟨rfl, trivial⟩ ⟨hB, hm0_0, hP3_1, Om, (right_step hw Om (Decidable.not_not.1 hc2)), trivial⟩ Zo
 refine WC_exit <| hK20 _ _ <| Zd Ext fun W39 hE40 => ?_
 replace hB := Ze hB hE40
 replace hm0_0 := hE40.at hm0_0
 replace hP3_1 := hE40.ow hP3_1
 have hS := Ext.refl W39
 refine Tw 0 v3_1 rfl rfl hS <| Tk 2 rfl (fun _ hq => r_loadW rfl tb_ag41 rfl (hq.at hm0_0)) hS <| To 1 rfl (TC tb_c63 (C_drawkniferef02_Cube _ _ _ hP3_1.sl (by first | assumption | exact lits_litsS _ _ | (rw [lits_without (by assumption)]; exact lits_litsS _ _))) rfl fun v9_1 W41 hE42 hP9_1 => ⟨.inl (hS.trans hE42), ?_⟩)
 replace hB := Ze hB hE42
 replace hm0_0 := hE42.at hm0_0
 replace hP3_1 := hE42.ow hP3_1
 replace hS := hS.trans hE42
 obtain rfl := hP9_1
 refine Tk 3 rfl (fun _ _ => tb_eq41 rfl rfl) hS <| Ty 4 rfl rfl hS <| Td <| Zt <| ret_t (v := .bool _) rfl ⟨hB, ?_⟩
 obtain rfl : i = 8 := by omega
 exact congrArg Value.bool (right_fin hm hv hn hw)

theorem C_drawkniferef02_Has (m u p : Nat) (w : World) (hm : m < 256) (hv : u < 256) (hp : p < 256) :
    Fn Tryz.prog 49 #[.agg #[.int .u8 (m : Int), .int .u8 (u : Int)], .int .i64 (p : Int)] w fun v w' => v = .bool (hasC m u p) := by
 refine Fn_intro (n := 28) Tryz.func49 rfl rfl (Nat.le_of_ble_eq_true rfl) ?_
 have hB : Below w.heap.size w w := Below.refl _ _
 refine Zr <| Zy (Y_box (c := #[_, _]) rfl rfl fun b0_0 W3 hb4 hE5 hm0_0 => ?_)
 have lo_b0_0 := ZO hb4 hB
 clear hb4
 replace hB := Ze hB hE5
 refine Zb rfl <| WL_nil <| Zr <| Zv (r_loadW rfl tb_ag41 rfl hm0_0) <| ZC tb_c62 (C_drawkniferef02_Literals _ _ _ (by first | assumption | omega) (by first | assumption | omega)) rfl fun v1_1 W8 hE9 hP1_1 => ?_
 have hsz10 := (Below.size hB)
 replace hB := Ze hB hE9
 replace hm0_0 := hE9.at hm0_0
 replace hP1_1 := OwT.mono hP1_1 hsz10
 refine Zw v1_1 rfl <| WL_nil <| WC_seq fun K11 hK12 => Zr <| Zi rfl <| WL_nil <| WC_block ?_
 refine WC_loop (σ := (Nat)) [4, 6, 9, 10, 11, 12, 13, 14, 15, 16, 17, 18, 19, 20, 21, 22, 23, 24, 25, 26, 27] (fun k => [(6, .int .i64 (k : Int))]) (fun k W => (Below w.heap.size w W) ∧ (At W b0_0 _ 41) ∧ (OwT encI 1 3 W w.heap.size v1_1 _) ∧ (k ≤ 8) ∧ (∀ q, q < k → lit m u q = 2 ∨ lit m u q = ((p / 2 ^ q % 2 : Nat) : Int)) ∧ (True)) (fun k => 8 - k) (0) ⟨rfl, trivial⟩ ⟨hB, hm0_0, hP1_1, Om, upTo_zero, trivial⟩ ?_
 clear hB hm0_0 hP1_1
 rintro k g16 W15 ⟨hB, hm0_0, hP1_1, hk, hw, _⟩ J17 hJ18
 refine WC_seq fun K19 hK20 => Zr <| Zi rfl <| Zv (r_lss rfl rfl) <| WL_nil <| ZQ rfl (fun hc0 => ?_) fun hc0 => ?_
 refine WC_skip <| hK20 _ _ <| WC_seq fun K23 hK24 => WC_block <| Zd Ext fun W27 hE28 => ?_
 replace hB := Ze hB hE28
 replace hm0_0 := hE28.at hm0_0
 replace hP1_1 := hE28.ow hP1_1
 have hS := Ext.refl W27
 refine Tw 0 v1_1 rfl rfl hS <| Ti 1 rfl rfl hS <| Tk 2 rfl (fun _ hq => r_idxS (v := v1_1) rfl ((hq.ow hP1_1)).sl rfl tb_el42 Om (by first | omega | (simp only [flagsTo_len, litsTo_len, firstF_len, ptF_len]; omega))) hS <| Tk 3 rfl (fun _ hq => r_load1 (v := .int .i64 _) rfl tb_sc3 (SlT.cell ((hq.ow hP1_1)).sl encI_len 0 Om (by first | omega | (simp only [flagsTo_len, litsTo_len, firstF_len, ptF_len]; omega)) 0 rfl)) hS <| Tk 4 rfl (fun _ _ => r_neq rfl rfl) hS <| Tx 5 rfl (fun _ _ => r_move (v := .bool _) rfl) hS (fun hs5_5 => ?_) fun hs5_5 => ?_
 refine Tw 6 v1_1 rfl rfl hS <| Ti 7 rfl rfl hS <| Tk 8 rfl (fun _ hq => r_idxS (v := v1_1) rfl ((hq.ow hP1_1)).sl rfl tb_el42 Om (by first | omega | (simp only [flagsTo_len, litsTo_len, firstF_len, ptF_len]; omega))) hS <| Tk 9 rfl (fun _ hq => r_load1 (v := .int .i64 _) rfl tb_sc3 (SlT.cell ((hq.ow hP1_1)).sl encI_len 0 Om (by first | omega | (simp only [flagsTo_len, litsTo_len, firstF_len, ptF_len]; omega)) 0 rfl)) hS <| Ti 10 rfl rfl hS <| Ti 11 rfl rfl hS <| To 12 rfl (TC tb_c64 (C_drawkniferef01_Bit _ _ _ (by first | assumption | omega) (by first | assumption | omega)) rfl fun v5_12 W29 hE30 hP5_12 => ⟨.inl (hS.trans hE30), ?_⟩)
 replace hB := Ze hB hE30
 replace hm0_0 := hE30.at hm0_0
 replace hP1_1 := hE30.ow hP1_1
 replace hS := hS.trans hE30
 obtain rfl := hP5_12
 refine Tk 13 rfl (fun _ _ => r_neq rfl rfl) hS <| Ty 14 rfl rfl hS <| Td <| ZQ rfl (fun hc1 => ?_) fun hc1 => ?_
 refine Zr <| Zb rfl <| WL_nil <| Zt <| ret_t (v := .bool false) rfl ⟨hB, ?_⟩
 exact congrArg Value.bool (has_not hm Om hs5_5 hc1).symm
 refine WC_skip <| hK24 _ _ <| WC_region <| Zi rfl <| Zv (r_addI rfl rfl Om Om) <| Zi rfl <| WL_nil ?_
 exact hJ18 _ _ (k + 1) Za ⟨rfl, trivial⟩ ⟨hB, hm0_0, hP1_1, Om, (upTo_succ hw (has_step Om (by first | exact .inl hs5_5 | exact .inr hc1))), trivial⟩ Zo
 refine Tp 6 rfl hS <| Tp 7 rfl hS <| Tp 8 rfl hS <| Tp 9 rfl hS <| Tp 10 rfl hS <| Tp 11 rfl hS <| Tp 12 rfl hS <| Tp 13 rfl hS <| Ty 14 rfl rfl hS <| Td <| WC_cond_false rfl <| WC_skip <| hK24 _ _ <| WC_region ?_
 refine Zi rfl <| Zv (r_addI rfl rfl Om Om) <| Zi rfl <| WL_nil ?_
 exact hJ18 _ _ (k + 1) Za ⟨rfl, trivial⟩ ⟨hB, hm0_0, hP1_1, Om, (upTo_succ hw (has_step Om (by first | exact .inl hs5_5 | exact .inr hc1))), trivial⟩ Zo
 refine WC_exit <| hK12 _ _ <| Zr <| Zb rfl <| WL_nil <| Zt <| ret_t (v := .bool true) rfl ⟨hB, ?_⟩
 obtain rfl : k = 8 := by omega
 exact congrArg Value.bool (has_fin hm hw)

end Go.Proofs.YtnkaebjaeaecmaaGreatDoor
