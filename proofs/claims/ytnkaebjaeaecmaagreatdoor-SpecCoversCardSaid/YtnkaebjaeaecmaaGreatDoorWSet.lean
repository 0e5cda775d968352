/-
  The walks of package set.
-/
import Derived.Test.YtnkaebjaeaecmaaGreatDoorProg
import Derived.Test.YtnkaebjaeaecmaaGreatDoorFrame
import Derived.Test.YtnkaebjaeaecmaaGreatDoorZip
namespace Go.Proofs.YtnkaebjaeaecmaaGreatDoor
set_option linter.unusedVariables false
set_option linter.unusedSimpArgs false
open Go Go.RowKit

theorem tb_mix : Tryz.prog.follows .mixedOrders = true := by kernel_rfl
theorem tb_z51 : zeroI Tryz.prog 51 = some (.agg #[.int .u64 0, .int .u64 0, .int .u64 0, .int .u64 0]) := by kernel_rfl
theorem tb_c58 : callB Tryz.prog 58 = true := by kernel_rfl
theorem tb_c59 : callB Tryz.prog 59 = true := by kernel_rfl
theorem tb_ar51 : arrI Tryz.prog 51 = some (4, 1) := by kernel_rfl
theorem tb_sc49 : scalarB Tryz.prog 49 = true := by kernel_rfl
theorem tb_ag51 : aggN Tryz.prog 51 = some 4 := by kernel_rfl
theorem tb_c61 : callB Tryz.prog 61 = true := by kernel_rfl
theorem tb_c45 : callB Tryz.prog 45 = true := by kernel_rfl
theorem tb_c46 : callB Tryz.prog 46 = true := by kernel_rfl
theorem tb_c60 : callB Tryz.prog 60 = true := by kernel_rfl
theorem tb_c40 : callB Tryz.prog 40 = true := by kernel_rfl
theorem tb_size49 : (Tryz.prog.info? 49).map (·.size) = some 1 := by kernel_rfl
theorem tb_build51_ {f : Nat → Value} {w : World} {d : Option Nat} {ty : TypeId} {ps : String} {af : Array Edge} {g : Option (Nat × Bool)}    :
    (execOp (evF f) ⟨d, .build 51 #[], ty, ps, af, g⟩).run Tryz.prog w = .ok (.value (.agg #[.int .u64 0, .int .u64 0, .int .u64 0, .int .u64 0])) w := by
  obtain ⟨i0, hi0, hz0⟩ := Option.bind_eq_some_iff.1 (show (Tryz.prog.info? 51).bind (·.zero) = _ from tb_z51)
  obtain ⟨j49, hj49, hs49⟩ := Option.map_eq_some_iff.1 tb_size49
  simp [execOp, Instr.build, zeroValue, typeInfo, sizeOf, hi0, hz0, run_underlying Tryz.underlying51, Instr.fill, cells_agg, hj49, hs49]
theorem tb_eq51 {f : Nat → Value} {w : World} {d : Option Nat} {ty t2 : TypeId} {ps : String} {af : Array Edge} {g : Option (Nat × Bool)} {x y : Operand} {a0 a1 a2 a3 b0 b1 b2 b3 : Int} (hx : evF f x = .agg #[.int .u64 a0, .int .u64 a1, .int .u64 a2, .int .u64 a3]) (hy : evF f y = .agg #[.int .u64 b0, .int .u64 b1, .int .u64 b2, .int .u64 b3]) :
    (execOp (evF f) ⟨d, .binOp .eql 51 x y t2, ty, ps, af, g⟩).run Tryz.prog w = .ok (.value (.bool (decide ((a0 = b0 ∧ a1 = b1 ∧ a2 = b2 ∧ a3 = b3))))) w := by
  have hg : Tryz.prog.eqGuardType Tryz.prog.depth 51 = false := by kernel_rfl
  have ha := run_equalIn_arr (P := Tryz.prog) w 9999 4 51 49 #[.int .u64 a0, .int .u64 a1, .int .u64 a2, .int .u64 a3] #[.int .u64 b0, .int .u64 b1, .int .u64 b2, .int .u64 b3]
    (fun i => .int .u64 ([a0, a1, a2, a3].getD i 0)) (fun i => .int .u64 ([b0, b1, b2, b3].getD i 0)) (fun i => [a0, a1, a2, a3].getD i 0 == [b0, b1, b2, b3].getD i 0) Tryz.underlying51 (by kernel_rfl) (by simp [isAgg, run_underlying Tryz.underlying49])
    (fun i hi => by
      have : i = 0 ∨ i = 1 ∨ i = 2 ∨ i = 3 := by omega
      rcases this with rfl | rfl | rfl | rfl <;> rfl)
    (fun i hi => by
      have : i = 0 ∨ i = 1 ∨ i = 2 ∨ i = 3 := by omega
      rcases this with rfl | rfl | rfl | rfl <;> rfl)
    (fun i hi => run_equalIn_int w 9998 49 .u64 .u64 _ _ Tryz.underlying49)
  simp only [execOp, hx, hy, Sem.run_bind, run_eqGuard_agg _ _ _ _ _ _ _ hg, Result.andThen_ok, run_eql_struct, ha]
  simp [List.range, List.range.loop]
  by_cases q0 : a0 = b0 <;> by_cases q1 : a1 = b1 <;> by_cases q2 : a2 = b2 <;> by_cases q3 : a3 = b3 <;> simp [q0, q1, q2, q3]
theorem tb_c38 : callB Tryz.prog 38 = true := by kernel_rfl

theorem C_set_may (p : Int) (w : World) :
    Fn Tryz.prog 58 #[.int .i64 p] w fun v w' => v = .bool (mayB p) := by
 refine Fn_intro (n := 9) Tryz.func58 rfl rfl (Nat.le_of_ble_eq_true rfl) ?_
 have hB : Below w.heap.size w w := Below.refl _ _
 refine Zr <| Zb rfl <| WL_nil <| Zr <| Zi rfl <| Zv (r_geq rfl rfl) <| ZX rfl (fun hs1_2 => ?_) fun hs1_2 => ?_
 refine Zi rfl <| Zv (r_lss rfl rfl) <| Zb rfl <| Zb rfl <| WL_nil <| Zt <| ret_t (v := .bool _) rfl ⟨hB, ?_⟩
 simp [mayB]; omega
 refine Zs <| Zs <| Zb rfl <| Zb rfl <| WL_nil <| Zt <| ret_t (v := .bool false) rfl ⟨hB, ?_⟩
 simp [mayB]; omega

theorem C_set_at (p : Int) (w : World) (h0 : 0 ≤ p) (h1 : p < 256) :
    Fn Tryz.prog 59 #[.int .i64 p] w fun v w' => v = .tuple #[.int .i64 ((p.toNat / 64 : Nat) : Int), .int .u64 ((2 ^ (p.toNat % 64) : Nat) : Int)] := by
 refine Fn_intro (n := 9) Tryz.func59 rfl rfl (Nat.le_of_ble_eq_true rfl) ?_
 have hB : Below w.heap.size w w := Below.refl _ _
 obtain ⟨q, rfl⟩ := Int.eq_ofNat_of_zero_le h0
 have hq : q < 256 := by omega
 refine Zr <| Zi rfl <| Zi rfl <| WL_nil <| Zd Ext fun W5 hE6 => ?_
 replace hB := Ze hB hE6
 have hS := Ext.refl W5
 refine Ti 0 rfl rfl hS <| Tk 1 rfl (fun _ _ => r_quoN (n := 64) rfl rfl rfl Om (by first | assumption | (simp only [topN]; omega) | (simp only [topN]; decide))) hS <| Ti 2 rfl rfl hS <| Tk 3 rfl (fun _ _ => r_remN (n := 64) rfl rfl rfl Om) hS <| Tk 4 rfl (fun _ _ => r_shl (m := 1) rfl rfl Om (by simp only [IntKind.bits]; omega) (by exact shl1 _ _ (by simp only [bitsN]; omega))) hS <| Ti 5 rfl rfl hS <| Ti 6 rfl rfl hS <| Td <| Zt <| ret_tt (v := .int .i64 _) rfl (v1 := .int .u64 _) rfl ⟨hB, ?_⟩
 have e : ((q : Int) % 64).toNat = q % 64 := by omega
 simp [e]

theorem C_set_With (s : Nat) (p : Int) (w : World) :
    Fn Tryz.prog 38 #[setV s, .int .i64 p] w fun v w' => v = setV (withS s p) := by
 refine Fn_intro (n := 21) Tryz.func38 rfl rfl (Nat.le_of_ble_eq_true rfl) ?_
 have hB : Below w.heap.size w w := Below.refl _ _
 refine Zr <| Zy (Y_box (c := #[_, _, _, _]) rfl rfl fun b0_0 W3 hb4 hE5 hm0_0 => ?_)
 have lo_b0_0 := ZO hb4 hB
 clear hb4
 replace hB := Ze hB hE5
 refine Zy (Y_alloc tb_z51 rfl fun b0_1 W6 hb7 hE8 hm0_1 => ?_)
 have lo_b0_1 := ZO hb7 hB
 have ne_b0_0_b0_1 := Zn hb7 hm0_0
 clear hb7
 replace hB := Ze hB hE8
 replace hm0_0 := hE8.at hm0_0
 replace hm0_1 : At W6 b0_1 #[wv 0 0, wv 0 1, wv 0 2, wv 0 3] 51 := hm0_1
 refine WL_nil <| WC_seq fun K9 hK10 => Zr <| Zi rfl <| ZC tb_c58 (C_set_may _ _) rfl fun v1_1 W13 hE14 hP1_1 => ?_
 replace hB := Ze hB hE14
 replace hm0_0 := hE14.at hm0_0
 replace hm0_1 := hE14.at hm0_1
 obtain rfl := hP1_1
 refine WL_nil <| ZQ rfl (fun hc0 => ?_) fun hc0 => ?_
 refine Zr <| Zi rfl <| ZC tb_c59 (C_set_at _ _ (by simp [mayB] at hc0; omega) (by simp [mayB] at hc0; omega)) rfl fun v2_1 W18 hE19 hP2_1 => ?_
 replace hB := Ze hB hE19
 replace hm0_0 := hE19.at hm0_0
 replace hm0_1 := hE19.at hm0_1
 obtain rfl := hP2_1
 obtain ⟨q, rfl⟩ := Int.eq_ofNat_of_zero_le (show 0 ≤ p by simp [mayB] at hc0; omega)
 have hq : q < 256 := by simp [mayB] at hc0; omega
 simp only [Int.toNat_natCast]
 refine Zw (.tuple #[.int .i64 _, .int .u64 _]) rfl <| Zv (r_ext2_0 rfl) <| Zv (r_ext2_1 rfl) <| Zi rfl <| Zi rfl <| WL_nil <| WC_region <| Zi rfl <| Zv (r_idxA rfl rfl tb_ar51 Om Om) <| Zv (r_load1 (v := wv s _) rfl tb_sc49 (At.cell hm0_0 (setA_get s _ Om))) <| Zi rfl <| Zv (r_or (n := _) rfl rfl rfl (by exact wd_top _ _) (by rw [← Nat.one_mul (2 ^ _)]; exact shl1 _ _ (by simp only [bitsN]; omega))) <| Zv (r_idxA rfl rfl tb_ar51 Om Om) <| Zy (Y_store1 (v := .int .u64 _) rfl rfl tb_sc49 rfl hm0_0 (by simp; omega) fun W21 hG22 hm23 => ?_)
 replace hB := Zg hB hG22 lo_b0_0
 replace hm0_1 := At.grownNe hm0_1 (Ne.symm ne_b0_0_b0_1) hG22
 replace hm0_0 := hm23
 rw [setA_set (s' := withS s q) (by omega) (withS_wd hq)] at hm0_0
 refine WL_nil <| hK10 _ _ <| Zr <| Zv (r_loadW rfl tb_ag51 rfl hm0_0) <| Zy (Y_storeW rfl rfl tb_ag51 rfl hm0_1 rfl rfl fun W26 hG27 hm28 => ?_)
 replace hB := Zg hB hG27 lo_b0_1
 replace hm0_0 := At.grownNe hm0_0 ne_b0_0_b0_1 hG27
 replace hm0_1 := hm28
 refine WL_nil <| Zt <| ret_c rfl tb_ag51 hm0_1 rfl ⟨hB, ?_⟩
 first | rfl | (simp [withS, hc0])
 refine WC_skip <| hK10 _ _ <| Zr <| Zv (r_loadW rfl tb_ag51 rfl hm0_0) <| Zy (Y_storeW rfl rfl tb_ag51 rfl hm0_1 rfl rfl fun W31 hG32 hm33 => ?_)
 replace hB := Zg hB hG32 lo_b0_1
 replace hm0_0 := At.grownNe hm0_0 ne_b0_0_b0_1 hG32
 replace hm0_1 := hm33
 refine WL_nil <| Zt <| ret_c rfl tb_ag51 hm0_1 rfl ⟨hB, ?_⟩
 first | rfl | (simp [withS, hc0])

theorem C_set_both (s t q : Nat) (op : Nat → Nat → Nat) (w : World) (hq : callB Tryz.prog q = true) (hdo : ∀ (x y : Nat) (w : World), x < 18446744073709551616 → y < 18446744073709551616 → Fn Tryz.prog q #[.int .u64 (x : Int), .int .u64 (y : Int)] w fun v w' => v = .int .u64 ((op x y : Nat) : Int)) :
    Fn Tryz.prog 45 #[setV s, setV t, .func (.func q) #[] #[]] w fun v w' => v = .agg (mixA op s t 4) := by
 refine Fn_intro (n := 24) Tryz.func45 rfl rfl (Nat.le_of_ble_eq_true rfl) ?_
 have hB : Below w.heap.size w w := Below.refl _ _
 refine Zr <| Zy (Y_box (c := #[_, _, _, _]) rfl rfl fun b0_0 W3 hb4 hE5 hm0_0 => ?_)
 have lo_b0_0 := ZO hb4 hB
 clear hb4
 replace hB := Ze hB hE5
 refine Zy (Y_box (c := #[_, _, _, _]) rfl rfl fun b0_1 W6 hb7 hE8 hm0_1 => ?_)
 have lo_b0_1 := ZO hb7 hB
 have ne_b0_0_b0_1 := Zn hb7 hm0_0
 clear hb7
 replace hB := Ze hB hE8
 replace hm0_0 := hE8.at hm0_0
 refine Zy (Y_alloc tb_z51 rfl fun b0_2 W9 hb10 hE11 hm0_2 => ?_)
 have lo_b0_2 := ZO hb10 hB
 have ne_b0_0_b0_2 := Zn hb10 hm0_0
 have ne_b0_1_b0_2 := Zn hb10 hm0_1
 clear hb10
 replace hB := Ze hB hE11
 replace hm0_0 := hE11.at hm0_0
 replace hm0_1 := hE11.at hm0_1
 replace hm0_2 : At W9 b0_2 #[wv 0 0, wv 0 1, wv 0 2, wv 0 3] 51 := hm0_2
 refine WL_nil <| Zr <| Zy (Y_alloc tb_z51 rfl fun b1_0 W14 hb15 hE16 hm1_0 => ?_)
 have lo_b1_0 := ZO hb15 hB
 have ne_b0_0_b1_0 := Zn hb15 hm0_0
 have ne_b0_1_b1_0 := Zn hb15 hm0_1
 have ne_b0_2_b1_0 := Zn hb15 hm0_2
 clear hb15
 replace hB := Ze hB hE16
 replace hm0_0 := hE16.at hm0_0
 replace hm0_1 := hE16.at hm0_1
 replace hm0_2 := hE16.at hm0_2
 replace hm1_0 : At W14 b1_0 #[wv 0 0, wv 0 1, wv 0 2, wv 0 3] 51 := hm1_0
 refine WL_nil <| WC_seq fun K17 hK18 => Zr <| Zi rfl <| WL_nil <| WC_block ?_
 refine WC_loop (σ := (Nat)) [8, 9, 10, 11, 12, 13, 14, 15, 16, 17, 18, 19, 20, 21, 22] (fun k => [(9, .int .i64 (k : Int))]) (fun k W => (Below w.heap.size w W) ∧ (At W b0_0 _ 51) ∧ (At W b0_1 _ 51) ∧ (At W b0_2 _ 51) ∧ (At W b1_0 (mixA op s t k) 51) ∧ (k ≤ 4) ∧ (True)) (fun k => 4 - k) (0) ⟨rfl, trivial⟩ ⟨hB, hm0_0, hm0_1, hm0_2, hm1_0, Om, trivial⟩ ?_
 clear hB hm0_0 hm0_1 hm0_2 hm1_0
 rintro k g22 W21 ⟨hB, hm0_0, hm0_1, hm0_2, hm1_0, hk, _⟩ J23 hJ24
 refine Zr <| Zv (r_lss rfl rfl) <| WL_nil <| WC_seq fun K27 hK28 => ZQ rfl (fun hc0 => ?_) fun hc0 => ?_
 refine WC_skip <| hK28 _ _ <| WC_seq fun K29 hK30 => WC_block <| Zr <| Zi rfl <| Zi rfl <| WL_nil ?_
 refine WC_draw Ext tb_mix (fun W33 hE34 => ?_)
 replace hB := Ze hB hE34
 replace hm0_0 := hE34.at hm0_0
 replace hm0_1 := hE34.at hm0_1
 replace hm0_2 := hE34.at hm0_2
 replace hm1_0 := hE34.at hm1_0
 have hS := Ext.refl W33
 refine Ti 0 rfl rfl hS <| Tw 1 (.func (.func q) #[] #[]) rfl rfl hS <| Ti 2 rfl rfl hS <| Tk 3 rfl (fun _ _ => r_idxA rfl rfl tb_ar51 Om Om) hS <| Tk 4 rfl (fun _ hq => r_load1 (v := .int .u64 _) rfl tb_sc49 (At.cell (hq.at hm0_0) (setA_get s k Om))) hS <| Ti 5 rfl rfl hS <| Tk 6 rfl (fun _ _ => r_idxA rfl rfl tb_ar51 Om Om) hS <| Tk 7 rfl (fun _ hq => r_load1 (v := .int .u64 _) rfl tb_sc49 (At.cell (hq.at hm0_1) (setA_get t k Om))) hS <| To 8 rfl (Yd.call (r_callv2 (q := q) rfl hq (v0 := .int .u64 _) rfl (v1 := .int .u64 _) rfl) (hdo _ _ _ (wd_lt _ _) (wd_lt _ _)) fun v5_8 W35 hE36 hP5_8 => ⟨.inl (hS.trans hE36), ?_⟩)
 replace hB := Ze hB hE36
 replace hm0_0 := hE36.at hm0_0
 replace hm0_1 := hE36.at hm0_1
 replace hm0_2 := hE36.at hm0_2
 replace hm1_0 := hE36.at hm1_0
 replace hS := hS.trans hE36
 obtain rfl := hP5_8
 refine Tk 9 rfl (fun _ _ => r_idxA rfl rfl tb_ar51 Om Om) hS <| To 10 rfl (Y_store1 (v := .int .u64 _) rfl rfl tb_sc49 rfl hm1_0 (by simp [mixA_size]; omega) fun W39 hG40 hm41 => ⟨.inr (by kernel_rfl), ?_⟩)
 replace hB := Zg hB hG40 lo_b1_0
 replace hm0_0 := At.grownNe hm0_0 ne_b0_0_b1_0 hG40
 replace hm0_1 := At.grownNe hm0_1 ne_b0_1_b1_0 hG40
 replace hm0_2 := At.grownNe hm0_2 ne_b0_2_b1_0 hG40
 replace hm1_0 := hm41
 rw [mixA_set op s t k (by omega)] at hm1_0
 refine Td <| hK30 _ _ <| WC_region <| Zv (r_addI rfl rfl Om Om) <| Zi rfl <| WL_nil ?_
 exact hJ24 _ _ (k + 1) Za ⟨rfl, trivial⟩ ⟨hB, hm0_0, hm0_1, hm0_2, hm1_0, Om, trivial⟩ Zo
 refine WC_exit <| hK18 _ _ <| Zr <| Zv (r_loadW rfl tb_ag51 rfl hm1_0) <| Zy (Y_storeW rfl rfl tb_ag51 rfl hm0_2 rfl rfl fun W44 hG45 hm46 => ?_)
 replace hB := Zg hB hG45 lo_b0_2
 replace hm0_0 := At.grownNe hm0_0 ne_b0_0_b0_2 hG45
 replace hm0_1 := At.grownNe hm0_1 ne_b0_1_b0_2 hG45
 replace hm1_0 := At.grownNe hm1_0 (Ne.symm ne_b0_2_b1_0) hG45
 replace hm0_2 := hm46
 refine WL_nil <| Zt <| ret_c rfl tb_ag51 hm0_2 rfl ⟨hB, ?_⟩
 obtain rfl : k = 4 := by omega
 rfl

theorem C_set_Or_1 (x y : Nat) (w : World) (hx : x < 18446744073709551616) (hy : y < 18446744073709551616) :
    Fn Tryz.prog 61 #[.int .u64 (x : Int), .int .u64 (y : Int)] w fun v w' => v = .int .u64 ((x ||| y : Nat) : Int) := by
 refine Fn_intro (n := 8) Tryz.func61 rfl rfl (Nat.le_of_ble_eq_true rfl) ?_
 have hB : Below w.heap.size w w := Below.refl _ _
 refine Zr <| Zi rfl <| WL_nil <| Zr <| Zi rfl <| Zi rfl <| Zv (r_or (n := _) rfl rfl rfl (by first | assumption | (simp only [topN]; omega) | (simp only [topN]; decide)) (by first | assumption | (simp only [topN]; omega) | (simp only [topN]; decide))) <| Zi rfl <| WL_nil <| Zt <| ret_t (v := .int .u64 _) rfl ⟨hB, ?_⟩
 rfl

theorem C_set_Or (s t : Nat) (w : World) :
    Fn Tryz.prog 43 #[setV s, setV t] w fun v w' => v = setV (s ||| t) := by
 refine Fn_intro (n := 8) Tryz.func43 rfl rfl (Nat.le_of_ble_eq_true rfl) ?_
 have hB : Below w.heap.size w w := Below.refl _ _
 refine Zr <| Zy (Y_box (c := #[_, _, _, _]) rfl rfl fun b0_0 W3 hb4 hE5 hm0_0 => ?_)
 have lo_b0_0 := ZO hb4 hB
 clear hb4
 replace hB := Ze hB hE5
 refine Zy (Y_box (c := #[_, _, _, _]) rfl rfl fun b0_1 W6 hb7 hE8 hm0_1 => ?_)
 have lo_b0_1 := ZO hb7 hB
 have ne_b0_0_b0_1 := Zn hb7 hm0_0
 clear hb7
 replace hB := Ze hB hE8
 replace hm0_0 := hE8.at hm0_0
 refine Zy (Y_alloc tb_z51 rfl fun b0_2 W9 hb10 hE11 hm0_2 => ?_)
 have lo_b0_2 := ZO hb10 hB
 have ne_b0_0_b0_2 := Zn hb10 hm0_0
 have ne_b0_1_b0_2 := Zn hb10 hm0_1
 clear hb10
 replace hB := Ze hB hE11
 replace hm0_0 := hE11.at hm0_0
 replace hm0_1 := hE11.at hm0_1
 replace hm0_2 : At W9 b0_2 #[wv 0 0, wv 0 1, wv 0 2, wv 0 3] 51 := hm0_2
 refine WL_nil <| Zr <| Zv (r_loadW rfl tb_ag51 rfl hm0_0) <| Zv (r_loadW rfl tb_ag51 rfl hm0_1) <| ZC tb_c45 (C_set_both s t 61 (fun x y => x ||| y) _ tb_c61 (fun x y w hx hy => C_set_Or_1 x y w hx hy)) rfl fun v1_2 W14 hE15 hP1_2 => ?_
 replace hB := Ze hB hE15
 replace hm0_0 := hE15.at hm0_0
 replace hm0_1 := hE15.at hm0_1
 replace hm0_2 := hE15.at hm0_2
 rw [mixA_all (r := s ||| t) (fun j => wd_or s t j)] at hP1_2
 obtain rfl := hP1_2
 refine Zy (Y_storeW rfl rfl tb_ag51 rfl hm0_2 rfl rfl fun W17 hG18 hm19 => ?_)
 replace hB := Zg hB hG18 lo_b0_2
 replace hm0_0 := At.grownNe hm0_0 ne_b0_0_b0_2 hG18
 replace hm0_1 := At.grownNe hm0_1 ne_b0_1_b0_2 hG18
 replace hm0_2 := hm19
 refine WL_nil <| Zt <| ret_c rfl tb_ag51 hm0_2 rfl ⟨hB, ?_⟩
 rfl

theorem C_set_And_1 (x y : Nat) (w : World) (hx : x < 18446744073709551616) (hy : y < 18446744073709551616) :
    Fn Tryz.prog 46 #[.int .u64 (x : Int), .int .u64 (y : Int)] w fun v w' => v = .int .u64 ((x &&& y : Nat) : Int) := by
 refine Fn_intro (n := 8) Tryz.func46 rfl rfl (Nat.le_of_ble_eq_true rfl) ?_
 have hB : Below w.heap.size w w := Below.refl _ _
 refine Zr <| Zi rfl <| WL_nil <| Zr <| Zi rfl <| Zi rfl <| Zv (r_and (n := _) rfl rfl rfl (by first | assumption | (simp only [topN]; omega) | (simp only [topN]; decide)) (by first | assumption | (simp only [topN]; omega) | (simp only [topN]; decide))) <| Zi rfl <| WL_nil <| Zt <| ret_t (v := .int .u64 _) rfl ⟨hB, ?_⟩
 rfl

theorem C_set_And (s t : Nat) (w : World) :
    Fn Tryz.prog 21 #[setV s, setV t] w fun v w' => v = setV (s &&& t) := by
 refine Fn_intro (n := 8) Tryz.func21 rfl rfl (Nat.le_of_ble_eq_true rfl) ?_
 have hB : Below w.heap.size w w := Below.refl _ _
 refine Zr <| Zy (Y_box (c := #[_, _, _, _]) rfl rfl fun b0_0 W3 hb4 hE5 hm0_0 => ?_)
 have lo_b0_0 := ZO hb4 hB
 clear hb4
 replace hB := Ze hB hE5
 refine Zy (Y_box (c := #[_, _, _, _]) rfl rfl fun b0_1 W6 hb7 hE8 hm0_1 => ?_)
 have lo_b0_1 := ZO hb7 hB
 have ne_b0_0_b0_1 := Zn hb7 hm0_0
 clear hb7
 replace hB := Ze hB hE8
 replace hm0_0 := hE8.at hm0_0
 refine Zy (Y_alloc tb_z51 rfl fun b0_2 W9 hb10 hE11 hm0_2 => ?_)
 have lo_b0_2 := ZO hb10 hB
 have ne_b0_0_b0_2 := Zn hb10 hm0_0
 have ne_b0_1_b0_2 := Zn hb10 hm0_1
 clear hb10
 replace hB := Ze hB hE11
 replace hm0_0 := hE11.at hm0_0
 replace hm0_1 := hE11.at hm0_1
 replace hm0_2 : At W9 b0_2 #[wv 0 0, wv 0 1, wv 0 2, wv 0 3] 51 := hm0_2
 refine WL_nil <| Zr <| Zv (r_loadW rfl tb_ag51 rfl hm0_0) <| Zv (r_loadW rfl tb_ag51 rfl hm0_1) <| ZC tb_c45 (C_set_both s t 46 (fun x y => x &&& y) _ tb_c46 (fun x y w hx hy => C_set_And_1 x y w hx hy)) rfl fun v1_2 W14 hE15 hP1_2 => ?_
 replace hB := Ze hB hE15
 replace hm0_0 := hE15.at hm0_0
 replace hm0_1 := hE15.at hm0_1
 replace hm0_2 := hE15.at hm0_2
 rw [mixA_all (r := s &&& t) (fun j => wd_and s t j)] at hP1_2
 obtain rfl := hP1_2
 refine Zy (Y_storeW rfl rfl tb_ag51 rfl hm0_2 rfl rfl fun W17 hG18 hm19 => ?_)
 replace hB := Zg hB hG18 lo_b0_2
 replace hm0_0 := At.grownNe hm0_0 ne_b0_0_b0_2 hG18
 replace hm0_1 := At.grownNe hm0_1 ne_b0_1_b0_2 hG18
 replace hm0_2 := hm19
 refine WL_nil <| Zt <| ret_c rfl tb_ag51 hm0_2 rfl ⟨hB, ?_⟩
 rfl

theorem C_set_Less_1 (x y : Nat) (w : World) (hx : x < 18446744073709551616) (hy : y < 18446744073709551616) :
    Fn Tryz.prog 60 #[.int .u64 (x : Int), .int .u64 (y : Int)] w fun v w' => v = .int .u64 ((andNot x y : Nat) : Int) := by
 refine Fn_intro (n := 8) Tryz.func60 rfl rfl (Nat.le_of_ble_eq_true rfl) ?_
 have hB : Below w.heap.size w w := Below.refl _ _
 refine Zr <| Zi rfl <| WL_nil <| Zr <| Zi rfl <| Zi rfl <| Zv (r_andNot (n := _) rfl rfl rfl (by first | assumption | (simp only [topN]; omega) | (simp only [topN]; decide)) (by first | assumption | (simp only [topN]; omega) | (simp only [topN]; decide))) <| Zi rfl <| WL_nil <| Zt <| ret_t (v := .int .u64 _) rfl ⟨hB, ?_⟩
 rfl

theorem C_set_Less (s t : Nat) (w : World) :
    Fn Tryz.prog 40 #[setV s, setV t] w fun v w' => v = setV (andNot s t) := by
 refine Fn_intro (n := 8) Tryz.func40 rfl rfl (Nat.le_of_ble_eq_true rfl) ?_
 have hB : Below w.heap.size w w := Below.refl _ _
 refine Zr <| Zy (Y_box (c := #[_, _, _, _]) rfl rfl fun b0_0 W3 hb4 hE5 hm0_0 => ?_)
 have lo_b0_0 := ZO hb4 hB
 clear hb4
 replace hB := Ze hB hE5
 refine Zy (Y_box (c := #[_, _, _, _]) rfl rfl fun b0_1 W6 hb7 hE8 hm0_1 => ?_)
 have lo_b0_1 := ZO hb7 hB
 have ne_b0_0_b0_1 := Zn hb7 hm0_0
 clear hb7
 replace hB := Ze hB hE8
 replace hm0_0 := hE8.at hm0_0
 refine Zy (Y_alloc tb_z51 rfl fun b0_2 W9 hb10 hE11 hm0_2 => ?_)
 have lo_b0_2 := ZO hb10 hB
 have ne_b0_0_b0_2 := Zn hb10 hm0_0
 have ne_b0_1_b0_2 := Zn hb10 hm0_1
 clear hb10
 replace hB := Ze hB hE11
 replace hm0_0 := hE11.at hm0_0
 replace hm0_1 := hE11.at hm0_1
 replace hm0_2 : At W9 b0_2 #[wv 0 0, wv 0 1, wv 0 2, wv 0 3] 51 := hm0_2
 refine WL_nil <| Zr <| Zv (r_loadW rfl tb_ag51 rfl hm0_0) <| Zv (r_loadW rfl tb_ag51 rfl hm0_1) <| ZC tb_c45 (C_set_both s t 60 (fun x y => andNot x y) _ tb_c60 (fun x y w hx hy => C_set_Less_1 x y w hx hy)) rfl fun v1_2 W14 hE15 hP1_2 => ?_
 replace hB := Ze hB hE15
 replace hm0_0 := hE15.at hm0_0
 replace hm0_1 := hE15.at hm0_1
 replace hm0_2 := hE15.at hm0_2
 rw [mixA_all (r := andNot s t) (fun j => wd_andNot s t j)] at hP1_2
 obtain rfl := hP1_2
 refine Zy (Y_storeW rfl rfl tb_ag51 rfl hm0_2 rfl rfl fun W17 hG18 hm19 => ?_)
 replace hB := Zg hB hG18 lo_b0_2
 replace hm0_0 := At.grownNe hm0_0 ne_b0_0_b0_2 hG18
 replace hm0_1 := At.grownNe hm0_1 ne_b0_1_b0_2 hG18
 replace hm0_2 := hm19
 refine WL_nil <| Zt <| ret_c rfl tb_ag51 hm0_2 rfl ⟨hB, ?_⟩
 rfl

theorem C_set_Within (s t : Nat) (w : World) :
    Fn Tryz.prog 26 #[setV s, setV t] w fun v w' => v = .bool (withinB s t) := by
 refine Fn_intro (n := 10) Tryz.func26 rfl rfl (Nat.le_of_ble_eq_true rfl) ?_
 have hB : Below w.heap.size w w := Below.refl _ _
 refine Zr <| Zy (Y_box (c := #[_, _, _, _]) rfl rfl fun b0_0 W3 hb4 hE5 hm0_0 => ?_)
 have lo_b0_0 := ZO hb4 hB
 clear hb4
 replace hB := Ze hB hE5
 refine Zy (Y_box (c := #[_, _, _, _]) rfl rfl fun b0_1 W6 hb7 hE8 hm0_1 => ?_)
 have lo_b0_1 := ZO hb7 hB
 have ne_b0_0_b0_1 := Zn hb7 hm0_0
 clear hb7
 replace hB := Ze hB hE8
 replace hm0_0 := hE8.at hm0_0
 refine Zb rfl <| WL_nil <| Zr <| Zv (r_loadW rfl tb_ag51 rfl hm0_0) <| Zv (r_loadW rfl tb_ag51 rfl hm0_1) <| ZC tb_c40 (C_set_Less _ _ _) rfl fun v1_2 W11 hE12 hP1_2 => ?_
 replace hB := Ze hB hE12
 replace hm0_0 := hE12.at hm0_0
 replace hm0_1 := hE12.at hm0_1
 obtain rfl := hP1_2
 refine Zv (v := setV 0) (tb_build51_ ) <| Zv (tb_eq51 rfl rfl) <| Zb rfl <| WL_nil <| Zt <| ret_t (v := .bool _) rfl ⟨hB, ?_⟩
 simp [withinB, wd_zero]

theorem C_set_All (n : Int) (w : World) :
    Fn Tryz.prog 18 #[.int .i64 n] w fun v w' => v = if 0 ≤ n ∧ n ≤ 8 then .tuple #[setV (allS n.toNat), .int .i64 0] else .tuple #[setV 0, .int .i64 1] := by
 refine Fn_intro (n := 23) Tryz.func18 rfl rfl (Nat.le_of_ble_eq_true rfl) ?_
 have hB : Below w.heap.size w w := Below.refl _ _
 refine Zr <| Zy (Y_alloc tb_z51 rfl fun b0_0 W3 hb4 hE5 hm0_0 => ?_)
 have lo_b0_0 := ZO hb4 hB
 clear hb4
 replace hB := Ze hB hE5
 replace hm0_0 : At W3 b0_0 #[wv 0 0, wv 0 1, wv 0 2, wv 0 3] 51 := hm0_0
 refine Zi rfl <| WL_nil <| WC_seq fun K6 hK7 => Zr <| Zi rfl <| Zv (r_lss rfl rfl) <| ZX rfl (fun hs1_2 => ?_) fun hs1_2 => ?_
 refine Zs <| Zs <| Zb rfl <| WL_nil <| WC_cond_true rfl <| Zr <| Zv (v := setV 0) (tb_build51_ ) <| Zy (Y_storeW rfl rfl tb_ag51 rfl hm0_0 rfl rfl fun W12 hG13 hm14 => ?_)
 replace hB := Zg hB hG13 lo_b0_0
 replace hm0_0 := hm14
 refine Zi rfl <| WL_nil <| Zt <| ret_ct rfl tb_ag51 hm0_0 rfl (v1 := .int .i64 1) rfl ⟨hB, ?_⟩
 rw [if_neg (by omega)]
 refine Zi rfl <| Zv (r_gtr rfl rfl) <| Zb rfl <| WL_nil <| ZQ rfl (fun hc0 => ?_) fun hc0 => ?_
 refine Zr <| Zv (v := setV 0) (tb_build51_ ) <| Zy (Y_storeW rfl rfl tb_ag51 rfl hm0_0 rfl rfl fun W17 hG18 hm19 => ?_)
 replace hB := Zg hB hG18 lo_b0_0
 replace hm0_0 := hm19
 refine Zi rfl <| WL_nil <| Zt <| ret_ct rfl tb_ag51 hm0_0 rfl (v1 := .int .i64 1) rfl ⟨hB, ?_⟩
 rw [if_neg (by omega)]
 refine WC_skip <| hK7 _ _ ?_
 have hn : 0 ≤ n ∧ n ≤ 8 := by omega
 refine Zr <| Zy (Y_alloc tb_z51 rfl fun b3_0 W22 hb23 hE24 hm3_0 => ?_)
 have lo_b3_0 := ZO hb23 hB
 have ne_b0_0_b3_0 := Zn hb23 hm0_0
 clear hb23
 replace hB := Ze hB hE24
 replace hm0_0 := hE24.at hm0_0
 replace hm3_0 : At W22 b3_0 #[wv 0 0, wv 0 1, wv 0 2, wv 0 3] 51 := hm3_0
 refine WL_nil <| WC_seq fun K25 hK26 => ?_
 have hp := two_pow_le hn.2
 refine Zr <| Zi rfl <| Zv (r_shl (m := 1) rfl rfl Om (by simp only [IntKind.bits]; omega) (by exact shl1 _ _ (by simp only [bitsN]; omega))) <| Zi rfl <| WL_nil <| WC_block ?_
 refine WC_loop (σ := (Nat)) [5, 15, 16, 17, 18, 19, 20, 21] (fun k => [(15, .int .i64 (k : Int))]) (fun k W => (Below w.heap.size w W) ∧ (At W b0_0 _ 51) ∧ (At W b3_0 #[wv (firstS k) 0, wv (firstS k) 1, wv (firstS k) 2, wv (firstS k) 3] 51) ∧ (k ≤ 2 ^ n.toNat) ∧ (True)) (fun k => 2 ^ n.toNat - k) (0) ⟨rfl, trivial⟩ ⟨hB, hm0_0, hm3_0, (Nat.zero_le _), trivial⟩ ?_
 clear hB hm0_0 hm3_0
 rintro k g30 W29 ⟨hB, hm0_0, hm3_0, hk, _⟩ J31 hJ32
 refine Zr <| Zv (r_lss rfl rfl) <| WL_nil <| WC_seq fun K35 hK36 => ZQ rfl (fun hc1 => ?_) fun hc1 => ?_
 refine WC_skip <| hK36 _ _ <| WC_seq fun K37 hK38 => WC_block <| Zr <| Zi rfl <| Zi rfl <| WL_nil <| WC_region <| Zv (r_loadW rfl tb_ag51 rfl hm3_0) <| Zi rfl <| ZC tb_c38 (C_set_With _ _ _) rfl fun v7_2 W41 hE42 hP7_2 => ?_
 replace hB := Ze hB hE42
 replace hm0_0 := hE42.at hm0_0
 replace hm3_0 := hE42.at hm3_0
 obtain rfl := hP7_2
 rw [withS_firstS (by simp only [Nat.one_mul] at hc1; omega)]
 refine Zy (Y_storeW rfl rfl tb_ag51 rfl hm3_0 rfl rfl fun W44 hG45 hm46 => ?_)
 replace hB := Zg hB hG45 lo_b3_0
 replace hm0_0 := At.grownNe hm0_0 ne_b0_0_b3_0 hG45
 replace hm3_0 := hm46
 refine WL_nil <| hK38 _ _ <| WC_region <| Zv (r_addI rfl rfl Om Om) <| Zi rfl <| WL_nil ?_
 exact hJ32 _ _ (k + 1) Za ⟨rfl, trivial⟩ ⟨hB, hm0_0, hm3_0, (by simp only [Nat.one_mul] at hc1; omega), trivial⟩ (by simp only [Nat.one_mul] at hc1; omega)
 refine WC_exit <| hK26 _ _ <| Zr <| Zv (r_loadW rfl tb_ag51 rfl hm3_0) <| Zy (Y_storeW rfl rfl tb_ag51 rfl hm0_0 rfl rfl fun W49 hG50 hm51 => ?_)
 replace hB := Zg hB hG50 lo_b0_0
 replace hm3_0 := At.grownNe hm3_0 (Ne.symm ne_b0_0_b3_0) hG50
 replace hm0_0 := hm51
 refine Zi rfl <| WL_nil <| Zt <| ret_ct rfl tb_ag51 hm0_0 rfl (v1 := .int .i64 0) rfl ⟨hB, ?_⟩
 obtain rfl : k = 2 ^ n.toNat := by simp only [Nat.one_mul] at hc1; omega
 rw [if_pos hn]; rfl

end Go.Proofs.YtnkaebjaeaecmaaGreatDoor
