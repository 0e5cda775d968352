/-
  The walks of what rows cover, and of the document's rows, primes and growing.
-/
import Derived.Test.YtnkaebjaeaecmaaGreatDoorProg
import Derived.Test.YtnkaebjaeaecmaaGreatDoorWMulti
import Derived.Test.YtnkaebjaeaecmaaGreatDoorCov
import Derived.Test.YtnkaebjaeaecmaaGreatDoorZip
namespace Go.Proofs.YtnkaebjaeaecmaaGreatDoor
set_option linter.unusedVariables false
set_option linter.unusedSimpArgs false
open Go Go.RowKit

theorem tb_el37 : elemI Tryz.prog 37 = some (48, 3, 3) := by kernel_rfl
theorem tb_ag48 : aggN Tryz.prog 48 = some 3 := by kernel_rfl
theorem tb_z48 : zeroI Tryz.prog 48 = some (.agg #[.int .u8 0, .int .u8 0, .int .u8 0]) := by kernel_rfl
theorem tb_c44 : callB Tryz.prog 44 = true := by kernel_rfl
theorem tb_c43 : callB Tryz.prog 43 = true := by kernel_rfl
theorem tb_ag29 : aggN Tryz.prog 29 = some 3 := by kernel_rfl
theorem tb_c10 : callB Tryz.prog 10 = true := by kernel_rfl
theorem tb_c30 : callB Tryz.prog 30 = true := by kernel_rfl
theorem tb_c31 : callB Tryz.prog 31 = true := by kernel_rfl
theorem tb_c48 : callB Tryz.prog 48 = true := by kernel_rfl
theorem tb_c49 : callB Tryz.prog 49 = true := by kernel_rfl
theorem tb_c32 : callB Tryz.prog 32 = true := by kernel_rfl
theorem tb_c23 : callB Tryz.prog 23 = true := by kernel_rfl
theorem tb_c34 : callB Tryz.prog 34 = true := by kernel_rfl

theorem C_spec_may (S : Sp) (onV mayV : Value) (xa : Value) (l : List Rw) (w : World) (hon : SlT encS 4 w onV S.on) (hmay : SlT encS 4 w mayV S.may) (hl : SlT encR 3 w xa l) (hlb : l.length ≤ 2000000) (hlr : RowB l) (h4 : S.on.length ≤ 20) :
    Fn Tryz.prog 30 #[.agg #[.int .i64 S.n, onV, mayV], xa] w fun v w' => v = .bool (mayL S l) := by
 refine Fn_intro (n := 35) Tryz.func30 rfl rfl (Nat.le_of_ble_eq_true rfl) ?_
 have hB : Below w.heap.size w w := Below.refl _ _
 refine Zr <| Zy (Y_box (c := #[_, _, _]) rfl rfl fun b0_0 W3 hb4 hE5 hm0_0 => ?_)
 have lo_b0_0 := ZO hb4 hB
 clear hb4
 replace hB := Ze hB hE5
 refine Zb rfl <| WL_nil <| WC_seq fun K6 hK7 => Zr <| Zw xa rfl <| Zv (r_lenS (v := xa) rfl (Below.slT hB hl) tb_el37) <| Zi rfl <| WL_nil <| WC_block ?_
 refine WC_loop (σ := (Nat)) [4, 6, 9, 10, 11, 12, 13, 14, 15, 16, 17, 18, 19, 20, 21, 22, 23, 24, 25, 26, 27, 28, 29, 30, 31, 32, 33, 34] (fun k => [(9, .int .i64 (k : Int))]) (fun k W => (Below w.heap.size w W) ∧ (At W b0_0 _ 29) ∧ (k ≤ l.length) ∧ (∀ q, q < k → okR S (l.getD q ⟨⟨0, 0⟩, 0⟩) = true) ∧ (True)) (fun k => l.length - k) (0) ⟨rfl, trivial⟩ ⟨hB, hm0_0, (Nat.zero_le _), upTo_zero, trivial⟩ ?_
 clear hB hm0_0
 rintro k g11 W10 ⟨hB, hm0_0, hk, hq, _⟩ J12 hJ13
 refine Zr <| Zv (r_lss rfl rfl) <| WL_nil <| WC_seq fun K16 hK17 => ZQ rfl (fun hc0 => ?_) fun hc0 => ?_
 refine WC_skip <| hK17 _ _ <| WC_seq fun K18 hK19 => WC_block ?_
 obtain ⟨hb1, hb2, hb3⟩ := hlr.get (k := k) (by omega)
 refine Zr <| Zv (r_idxS (v := xa) rfl (Below.slT hB hl) rfl tb_el37 Om (by first | omega | (simp only [flagsTo_len, litsTo_len, firstF_len, ptF_len, setF_len]; omega))) <| Zv (r_load3 rfl tb_ag48 (SlT.cell (Below.slT hB hl) encR_len ⟨⟨0, 0⟩, 0⟩ Om (by first | omega | (simp only [flagsTo_len, litsTo_len, firstF_len, ptF_len, setF_len]; omega)) 0 rfl) (SlT.cell (Below.slT hB hl) encR_len ⟨⟨0, 0⟩, 0⟩ Om (by first | omega | (simp only [flagsTo_len, litsTo_len, firstF_len, ptF_len, setF_len]; omega)) 1 rfl) (SlT.cell (Below.slT hB hl) encR_len ⟨⟨0, 0⟩, 0⟩ Om (by first | omega | (simp only [flagsTo_len, litsTo_len, firstF_len, ptF_len, setF_len]; omega)) 2 rfl)) <| Zy (Y_alloc tb_z48 rfl fun b3_2 W22 hb23 hE24 hm3_2 => ?_)
 have lo_b3_2 := ZO hb23 hB
 clear hb23
 replace hB := Ze hB hE24
 replace hm0_0 := hE24.at hm0_0
 refine Zy (Y_storeW rfl rfl tb_ag48 rfl hm3_2 rfl rfl fun W25 hG26 hm27 => ?_)
 replace hB := Zg hB hG26 lo_b3_2
 replace hm0_0 := At.grownAt hm0_0 hm3_2 hG26 Dc
 replace hm3_2 := hm27
 refine WL_nil <| Zd Ext fun W30 hE31 => ?_
 replace hB := Ze hB hE31
 replace hm0_0 := hE31.at hm0_0
 replace hm3_2 := hE31.at hm3_2
 have hS := Ext.refl W30
 refine Tf 0 rfl rfl tb_fo48_0 hS <| Tk 1 rfl (fun _ hq => r_load2 rfl tb_ag41 (At.cell (hq.at hm3_2) rfl) (At.cell (hq.at hm3_2) rfl)) hS <| Tf 2 rfl rfl tb_fo29_0 hS <| Tk 3 rfl (fun _ hq => r_load1 (v := .int .i64 _) rfl tb_sc3 (At.cell (hq.at hm0_0) rfl)) hS <| To 4 rfl (TC tb_c37 (C_cube_Right _ _ _ _ hb1 hb2) rfl fun v4_4 W32 hE33 hP4_4 => ⟨.inl (hS.trans hE33), ?_⟩)
 have sv35_hB := hB
 have sv35_hm0_0 := hm0_0
 have sv35_hm3_2 := hm3_2
 replace hB := Ze hB hE33
 replace hm0_0 := hE33.at hm0_0
 replace hm3_2 := hE33.at hm3_2
 replace hS := hS.trans hE33
 obtain rfl := hP4_4
 refine Tk 5 rfl (fun _ _ => r_not rfl) hS <| Tx 6 rfl (fun _ _ => r_move (v := .bool _) rfl) hS (fun hs4_6 => ?_) fun hs4_6 => ?_
 refine Tp 7 rfl hS <| Tp 8 rfl hS <| Tp 9 rfl hS <| Ty 10 rfl rfl hS <| Ty 11 rfl rfl hS <| Tp 12 rfl hS <| Tp 13 rfl hS <| Tp 14 rfl hS <| Tp 15 rfl hS <| Tp 16 rfl hS <| Tp 17 rfl hS <| Tp 18 rfl hS <| Tp 19 rfl hS <| Ty 20 rfl rfl hS ?_
 refine Td <| WC_cond_true rfl <| Zr <| Zb rfl <| WL_nil <| Zt <| ret_t (v := .bool false) rfl ⟨hB, ?_⟩
 exact may_f (k := k) Om (okR_1 hs4_6)
 refine Tf 7 rfl rfl tb_fo48_1 hS <| Tk 8 rfl (fun _ hq => r_load1 (v := .int .u8 _) rfl tb_sc5 (At.cell (hq.at sv35_hm3_2) rfl)) hS <| Tk 9 rfl (fun _ _ => r_eql rfl rfl) hS <| Ty 10 rfl rfl hS <| Tx 11 rfl (fun _ _ => r_move (v := .bool _) rfl) hS (fun hs4_11 => ?_) fun hs4_11 => ?_
 refine Tp 12 rfl hS <| Tp 13 rfl hS <| Tp 14 rfl hS <| Tp 15 rfl hS <| Tp 16 rfl hS <| Tp 17 rfl hS <| Tp 18 rfl hS <| Tp 19 rfl hS <| Ty 20 rfl rfl hS <| Td <| WC_cond_true rfl <| Zr <| Zb rfl <| WL_nil ?_
 refine Zt <| ret_t (v := .bool false) rfl ⟨hB, ?_⟩
 exact may_f (k := k) Om (okR_2 hs4_11)
 refine Tf 12 rfl rfl tb_fo48_1 hS <| Tk 13 rfl (fun _ hq => r_load1 (v := .int .u8 _) rfl tb_sc5 (At.cell (hq.at sv35_hm3_2) rfl)) hS <| Tk 14 rfl (fun _ _ => r_convN rfl Tryz.underlying5 Tryz.underlying3 (by show (l.getD k ⟨⟨0, 0⟩, 0⟩).o < 9223372036854775808; omega)) hS <| Tf 15 rfl rfl tb_fo29_1 hS <| Tk 16 rfl (fun _ hq => r_load1 (v := onV) rfl tb_sc27 (At.cell (hq.at sv35_hm0_0) rfl)) hS <| Tk 17 rfl (fun _ hq => r_lenS (v := onV) rfl (hq.slT (Below.slT sv35_hB hon)) tb_el27) hS <| Tk 18 rfl (fun _ _ => r_shl (m := 1) rfl rfl Om (by simp only [IntKind.bits]; omega) (by exact shl1 _ _ (by simp only [bitsN]; omega))) hS <| Tk 19 rfl (fun _ _ => r_geq rfl rfl) hS <| Ty 20 rfl rfl hS <| Td <| ZQ rfl (fun hc1 => ?_) fun hc1 => ?_
 refine Zr <| Zb rfl <| WL_nil <| Zt <| ret_t (v := .bool false) rfl ⟨hB, ?_⟩
 exact may_f (k := k) Om (okR_3 hc1)
 refine WC_skip <| hK19 _ _ <| WC_region <| Zv (r_addI rfl rfl Om Om) <| Zi rfl <| WL_nil ?_
 exact hJ13 _ _ (k + 1) Za ⟨rfl, trivial⟩ ⟨hB, hm0_0, Om, (upTo_succ hq (okR_t (x := (l.getD k ⟨⟨0, 0⟩, 0⟩)) hs4_6 hs4_11 hc1)), trivial⟩ Zo
 refine WC_exit <| hK7 _ _ <| Zr <| Zb rfl <| WL_nil <| Zt <| ret_t (v := .bool true) rfl ⟨hB, ?_⟩
 obtain rfl : k = l.length := by omega
 exact vb_t (mayL_iff.2 hq)

theorem C_spec_Points (xa : Value) (l : List Rw) (n out : Int) (w : World) (hl : SlT encR 3 w xa l) (hlb : l.length ≤ 2000000) (hlr : RowB l) :
    Fn Tryz.prog 31 #[xa, .int .i64 n, .int .i64 out] w fun v w' => v = if ptOk l n out = true then .tuple #[setV (ptsR l n.toNat out.toNat l.length), .int .i64 0] else .tuple #[setV 0, .int .i64 1] := by
 refine Fn_intro (n := 56) Tryz.func31 rfl rfl (Nat.le_of_ble_eq_true rfl) ?_
 have hB : Below w.heap.size w w := Below.refl _ _
 refine Zr <| Zy (Y_alloc tb_z51 rfl fun b0_0 W3 hb4 hE5 hm0_0 => ?_)
 have lo_b0_0 := ZO hb4 hB
 clear hb4
 replace hB := Ze hB hE5
 replace hm0_0 : At W3 b0_0 #[wv 0 0, wv 0 1, wv 0 2, wv 0 3] 51 := hm0_0
 refine Zi rfl <| WL_nil <| WC_seq fun K6 hK7 => Zr <| Zi rfl <| Zv (r_lss rfl rfl) <| ZX rfl (fun hs1_2 => ?_) fun hs1_2 => ?_
 refine Zs <| Zs <| Zb rfl <| Zb rfl <| Zs <| Zs <| Zb rfl <| Zb rfl <| Zs <| Zs <| Zb rfl <| WL_nil <| WC_cond_true rfl <| Zr ?_
 refine Zv (v := setV 0) (tb_build51_ ) <| Zy (Y_storeW rfl rfl tb_ag51 rfl hm0_0 rfl rfl fun W12 hG13 hm14 => ?_)
 replace hB := Zg hB hG13 lo_b0_0
 replace hm0_0 := hm14
 refine Zi rfl <| WL_nil <| Zt <| ret_ct rfl tb_ag51 hm0_0 rfl (v1 := .int .i64 1) rfl ⟨hB, ?_⟩
 rw [if_neg (ptOk_no (by omega))]
 refine Zi rfl <| Zv (r_gtr rfl rfl) <| Zb rfl <| ZX rfl (fun hs1_6 => ?_) fun hs1_6 => ?_
 refine Zs <| Zs <| Zb rfl <| Zb rfl <| Zs <| Zs <| Zb rfl <| WL_nil <| WC_cond_true rfl <| Zr <| Zv (v := setV 0) (tb_build51_ ) <| Zy (Y_storeW rfl rfl tb_ag51 rfl hm0_0 rfl rfl fun W17 hG18 hm19 => ?_)
 replace hB := Zg hB hG18 lo_b0_0
 replace hm0_0 := hm19
 refine Zi rfl <| WL_nil <| Zt <| ret_ct rfl tb_ag51 hm0_0 rfl (v1 := .int .i64 1) rfl ⟨hB, ?_⟩
 rw [if_neg (ptOk_no (by omega))]
 refine Zi rfl <| Zv (r_lss rfl rfl) <| Zb rfl <| ZX rfl (fun hs1_10 => ?_) fun hs1_10 => ?_
 refine Zs <| Zs <| Zb rfl <| WL_nil <| WC_cond_true rfl <| Zr <| Zv (v := setV 0) (tb_build51_ ) <| Zy (Y_storeW rfl rfl tb_ag51 rfl hm0_0 rfl rfl fun W22 hG23 hm24 => ?_)
 replace hB := Zg hB hG23 lo_b0_0
 replace hm0_0 := hm24
 refine Zi rfl <| WL_nil <| Zt <| ret_ct rfl tb_ag51 hm0_0 rfl (v1 := .int .i64 1) rfl ⟨hB, ?_⟩
 rw [if_neg (ptOk_no (by omega))]
 refine Zi rfl <| Zv (r_geq rfl rfl) <| Zb rfl <| WL_nil <| ZQ rfl (fun hc0 => ?_) fun hc0 => ?_
 refine Zr <| Zv (v := setV 0) (tb_build51_ ) <| Zy (Y_storeW rfl rfl tb_ag51 rfl hm0_0 rfl rfl fun W27 hG28 hm29 => ?_)
 replace hB := Zg hB hG28 lo_b0_0
 replace hm0_0 := hm29
 refine Zi rfl <| WL_nil <| Zt <| ret_ct rfl tb_ag51 hm0_0 rfl (v1 := .int .i64 1) rfl ⟨hB, ?_⟩
 rw [if_neg (ptOk_no (by omega))]
 refine WC_skip <| hK7 _ _ <| Zr <| Zy (Y_alloc tb_z51 rfl fun b3_0 W32 hb33 hE34 hm3_0 => ?_)
 have lo_b3_0 := ZO hb33 hB
 have ne_b0_0_b3_0 := Zn hb33 hm0_0
 clear hb33
 replace hB := Ze hB hE34
 replace hm0_0 := hE34.at hm0_0
 replace hm3_0 : At W32 b3_0 #[wv 0 0, wv 0 1, wv 0 2, wv 0 3] 51 := hm3_0
 refine WL_nil <| WC_seq fun K35 hK36 => Zr <| Zw xa rfl <| Zv (r_lenS (v := xa) rfl (Below.slT hB hl) tb_el37) <| Zi rfl <| WL_nil <| WC_block ?_
 refine WC_loop (σ := (Nat)) [7, 10, 11, 12, 30, 31, 32, 33, 34, 35, 36, 37, 38, 39, 40, 41, 42, 43, 44, 45, 46, 47, 48, 49, 50, 51, 52, 53, 54] (fun k => [(30, .int .i64 (k : Int))]) (fun k W => (Below w.heap.size w W) ∧ (At W b0_0 _ 51) ∧ (At W b3_0 #[wv (ptsR l n.toNat out.toNat k) 0, wv (ptsR l n.toNat out.toNat k) 1, wv (ptsR l n.toNat out.toNat k) 2, wv (ptsR l n.toNat out.toNat k) 3] 51) ∧ (k ≤ l.length) ∧ (∀ q, q < k → rightB (l.getD q ⟨⟨0, 0⟩, 0⟩).c.m (l.getD q ⟨⟨0, 0⟩, 0⟩).c.v n = true) ∧ (True)) (fun k => l.length - k) (0) ⟨rfl, trivial⟩ ⟨hB, hm0_0, hm3_0, (Nat.zero_le _), upTo_zero, trivial⟩ ?_
 clear hB hm0_0 hm3_0
 rintro k g40 W39 ⟨hB, hm0_0, hm3_0, hk, hq, _⟩ J41 hJ42
 refine Zr <| Zv (r_lss rfl rfl) <| WL_nil <| WC_seq fun K45 hK46 => ZQ rfl (fun hc1 => ?_) fun hc1 => ?_
 refine WC_skip <| hK46 _ _ <| WC_seq fun K47 hK48 => WC_block ?_
 obtain ⟨hb1, hb2, hb3⟩ := hlr.get (k := k) (by omega)
 have hb4 : (l.getD k ⟨⟨0, 0⟩, 0⟩).o / 2 ^ out.toNat ≤ (l.getD k ⟨⟨0, 0⟩, 0⟩).o := Nat.div_le_self _ _
 refine Zr <| Zv (r_idxS (v := xa) rfl (Below.slT hB hl) rfl tb_el37 Om (by first | omega | (simp only [flagsTo_len, litsTo_len, firstF_len, ptF_len, setF_len]; omega))) <| Zv (r_load3 rfl tb_ag48 (SlT.cell (Below.slT hB hl) encR_len ⟨⟨0, 0⟩, 0⟩ Om (by first | omega | (simp only [flagsTo_len, litsTo_len, firstF_len, ptF_len, setF_len]; omega)) 0 rfl) (SlT.cell (Below.slT hB hl) encR_len ⟨⟨0, 0⟩, 0⟩ Om (by first | omega | (simp only [flagsTo_len, litsTo_len, firstF_len, ptF_len, setF_len]; omega)) 1 rfl) (SlT.cell (Below.slT hB hl) encR_len ⟨⟨0, 0⟩, 0⟩ Om (by first | omega | (simp only [flagsTo_len, litsTo_len, firstF_len, ptF_len, setF_len]; omega)) 2 rfl)) <| Zy (Y_alloc tb_z48 rfl fun b6_2 W51 hb52 hE53 hm6_2 => ?_)
 have lo_b6_2 := ZO hb52 hB
 clear hb52
 replace hB := Ze hB hE53
 replace hm0_0 := hE53.at hm0_0
 replace hm3_0 := hE53.at hm3_0
 refine Zy (Y_storeW rfl rfl tb_ag48 rfl hm6_2 rfl rfl fun W54 hG55 hm56 => ?_)
 replace hB := Zg hB hG55 lo_b6_2
 replace hm0_0 := At.grownAt hm0_0 hm6_2 hG55 Dc
 replace hm3_0 := At.grownAt hm3_0 hm6_2 hG55 Dc
 replace hm6_2 := hm56
 refine WL_nil <| Zr <| Zf rfl tb_fo48_0 <| Zv (r_load2 rfl tb_ag41 (At.cell hm6_2 rfl) (At.cell hm6_2 rfl)) <| Zi rfl <| ZC tb_c44 (C_cube_Points _ _ _ _ hb1 hb2) rfl fun v7_3 W59 hE60 hP7_3 => ?_
 replace hB := Ze hB hE60
 replace hm0_0 := hE60.at hm0_0
 replace hm3_0 := hE60.at hm3_0
 replace hm6_2 := hE60.at hm6_2
 obtain ⟨sa, er, rfl, hhP7_3⟩ := pts_cases hP7_3
 refine Zw (.tuple #[.agg #[_, _, _, _], .int .i64 _]) rfl <| Zv (r_ext2_0 rfl) <| Zv (r_ext2_1 rfl) <| Zy (Y_alloc tb_z51 rfl fun b7_7 W62 hb63 hE64 hm7_7 => ?_)
 have lo_b7_7 := ZO hb63 hB
 have ne_b0_0_b7_7 := Zn hb63 hm0_0
 have ne_b3_0_b7_7 := Zn hb63 hm3_0
 clear hb63
 replace hB := Ze hB hE64
 replace hm0_0 := hE64.at hm0_0
 replace hm3_0 := hE64.at hm3_0
 replace hm6_2 := hE64.at hm6_2
 replace hm7_7 : At W62 b7_7 #[wv 0 0, wv 0 1, wv 0 2, wv 0 3] 51 := hm7_7
 refine Zy (Y_storeW rfl rfl tb_ag51 rfl hm7_7 rfl rfl fun W65 hG66 hm67 => ?_)
 replace hB := Zg hB hG66 lo_b7_7
 replace hm0_0 := At.grownNe hm0_0 ne_b0_0_b7_7 hG66
 replace hm3_0 := At.grownNe hm3_0 ne_b3_0_b7_7 hG66
 replace hm6_2 := At.grownAt hm6_2 hm7_7 hG66 Dc
 replace hm7_7 := hm67
 refine Zi rfl <| WL_nil <| WC_seq fun K68 hK69 => Zr <| Zi rfl <| Zv (r_neq rfl rfl) <| WL_nil <| ZQ rfl (fun hc2 => ?_) fun hc2 => ?_
 refine Zr <| Zv (v := setV 0) (tb_build51_ ) <| Zi rfl <| Zy (Y_storeW rfl rfl tb_ag51 rfl hm0_0 rfl rfl fun W74 hG75 hm76 => ?_)
 replace hB := Zg hB hG75 lo_b0_0
 replace hm3_0 := At.grownNe hm3_0 (Ne.symm ne_b0_0_b3_0) hG75
 replace hm6_2 := At.grownAt hm6_2 hm0_0 hG75 Dc
 replace hm7_7 := At.grownNe hm7_7 (Ne.symm ne_b0_0_b7_7) hG75
 replace hm0_0 := hm76
 refine Zi rfl <| WL_nil <| Zt <| ret_ct rfl tb_ag51 hm0_0 rfl (v1 := .int .i64 _) rfl ⟨hB, ?_⟩
 obtain ⟨hrr, her⟩ := hhP7_3.resolve_left (fun h => hc2 h.2.2)
 rw [if_neg (ptOk_k (k := k) (by omega) hrr), her]
 refine WC_skip <| hK69 _ _ ?_
 obtain ⟨hrr, hsa, _⟩ := hhP7_3.resolve_right (fun h => hc2 (fun e => by rw [h.2] at e; cases e))
 subst hsa
 refine Zr <| Zf rfl tb_fo48_1 <| Zl rfl tb_sc5 hm6_2 rfl <| Zi rfl <| Zv (r_shr rfl rfl Om (by simp only [IntKind.bits]; omega)) <| Zv (r_and (n := 1) rfl rfl rfl (by show (l.getD k ⟨⟨0, 0⟩, 0⟩).o / 2 ^ out.toNat < 256; omega) Dc) <| Zv (r_eql rfl rfl) <| WL_nil <| ZQ rfl (fun hc3 => ?_) fun hc3 => ?_
 refine WC_region <| Zv (r_loadW rfl tb_ag51 rfl hm3_0) <| Zv (r_loadW rfl tb_ag51 rfl hm7_7) <| ZC tb_c43 (C_set_Or _ _ _) rfl fun v11_2 W79 hE80 hP11_2 => ?_
 replace hB := Ze hB hE80
 replace hm0_0 := hE80.at hm0_0
 replace hm3_0 := hE80.at hm3_0
 replace hm6_2 := hE80.at hm6_2
 replace hm7_7 := hE80.at hm7_7
 obtain rfl := hP11_2
 refine Zy (Y_storeW rfl rfl tb_ag51 rfl hm3_0 rfl rfl fun W82 hG83 hm84 => ?_)
 replace hB := Zg hB hG83 lo_b3_0
 replace hm0_0 := At.grownNe hm0_0 ne_b0_0_b3_0 hG83
 replace hm6_2 := At.grownAt hm6_2 hm3_0 hG83 Dc
 replace hm7_7 := At.grownNe hm7_7 (Ne.symm ne_b3_0_b7_7) hG83
 replace hm3_0 := hm84
 refine WL_nil <| hK48 _ _ <| WC_region <| Zv (r_addI rfl rfl Om Om) <| Zi rfl <| WL_nil ?_
 exact hJ42 _ _ (k + 1) Za ⟨rfl, trivial⟩ ⟨hB, hm0_0, (by first | (rw [← ptsR_t (l := l) (k := k) (bit_yesI hc3)]; exact hm3_0) | (rw [← ptsR_f (l := l) (k := k) (bit_notI hc3)]; exact hm3_0)), Om, (upTo_succ hq hrr), trivial⟩ Zo
 refine WC_skip <| hK48 _ _ <| WC_region <| Zv (r_addI rfl rfl Om Om) <| Zi rfl <| WL_nil ?_
 exact hJ42 _ _ (k + 1) Za ⟨rfl, trivial⟩ ⟨hB, hm0_0, (by first | (rw [← ptsR_t (l := l) (k := k) (bit_yesI hc3)]; exact hm3_0) | (rw [← ptsR_f (l := l) (k := k) (bit_notI hc3)]; exact hm3_0)), Om, (upTo_succ hq hrr), trivial⟩ Zo
 refine WC_exit <| hK36 _ _ <| Zr <| Zv (r_loadW rfl tb_ag51 rfl hm3_0) <| Zy (Y_storeW rfl rfl tb_ag51 rfl hm0_0 rfl rfl fun W87 hG88 hm89 => ?_)
 replace hB := Zg hB hG88 lo_b0_0
 replace hm3_0 := At.grownNe hm3_0 (Ne.symm ne_b0_0_b3_0) hG88
 replace hm0_0 := hm89
 refine Zi rfl <| WL_nil <| Zt <| ret_ct rfl tb_ag51 hm0_0 rfl (v1 := .int .i64 0) rfl ⟨hB, ?_⟩
 obtain rfl : k = l.length := by omega
 rw [if_pos (ptOk_iff.2 ⟨by omega, hq⟩)]

theorem C_spec_Covers (S : Sp) (onV mayV : Value) (xa : Value) (l : List Rw) (w : World) (hon : SlT encS 4 w onV S.on) (hmay : SlT encS 4 w mayV S.may) (hl : SlT encR 3 w xa l) (hlb : l.length ≤ 2000000) (hlr : RowB l) (h4 : S.on.length ≤ 20) :
    Fn Tryz.prog 14 #[.agg #[.int .i64 S.n, onV, mayV], xa] w fun v w' => v = .bool (covB S l) := by
 refine Fn_intro (n := 49) Tryz.func14 rfl rfl (Nat.le_of_ble_eq_true rfl) ?_
 have hB : Below w.heap.size w w := Below.refl _ _
 refine Zr <| Zy (Y_box (c := #[_, _, _]) rfl rfl fun b0_0 W3 hb4 hE5 hm0_0 => ?_)
 have lo_b0_0 := ZO hb4 hB
 clear hb4
 replace hB := Ze hB hE5
 refine Zb rfl <| WL_nil <| WC_seq fun K6 hK7 => Zr <| Zv (r_loadW rfl tb_ag29 rfl hm0_0) <| ZC tb_c10 (C_spec_Right S _ _  _ (Below.slT hB hon) (Below.slT hB hmay) ) rfl fun v1_1 W10 hE11 hP1_1 => ?_
 replace hB := Ze hB hE11
 replace hm0_0 := hE11.at hm0_0
 obtain rfl := hP1_1
 refine Zv (r_not rfl) <| ZX rfl (fun hs1_3 => ?_) fun hs1_3 => ?_
 refine Zs <| Zs <| Zs <| Zs <| Zb rfl <| WL_nil <| WC_cond_true rfl <| Zr <| Zb rfl <| WL_nil <| Zt <| ret_t (v := .bool false) rfl ⟨hB, ?_⟩
 exact cov_f1 (not_t hs1_3)
 refine Zv (r_loadW rfl tb_ag29 rfl hm0_0) <| Zw xa rfl <| ZC tb_c30 (C_spec_may S _ _ _ l _ (Below.slT hB hon) (Below.slT hB hmay) (Below.slT hB hl) hlb hlr h4) rfl fun v1_6 W15 hE16 hP1_6 => ?_
 replace hB := Ze hB hE16
 replace hm0_0 := hE16.at hm0_0
 obtain rfl := hP1_6
 refine Zv (r_not rfl) <| Zb rfl <| WL_nil <| ZQ rfl (fun hc0 => ?_) fun hc0 => ?_
 refine Zr <| Zb rfl <| WL_nil <| Zt <| ret_t (v := .bool false) rfl ⟨hB, ?_⟩
 exact cov_f2 (not_t hc0)
 refine WC_skip <| hK7 _ _ <| WC_seq fun K20 hK21 => ?_
 have hr : rightS S = true := not_f hs1_3
 have hm : mayL S l = true := not_f hc0
 obtain ⟨h0, h8, h1, h5, h6, _⟩ := rightS_iff.1 hr
 refine Zr <| Zf rfl tb_fo29_1 <| ZL onV rfl tb_sc27 hm0_0 rfl <| Zv (r_lenS (v := onV) rfl (Below.slT hB hon) tb_el27) <| Zi rfl <| WL_nil <| WC_block ?_
 refine WC_loop (σ := (Nat)) [4, 5, 6, 7, 8, 21, 22, 23, 24, 25, 26, 27, 28, 29, 30, 31, 32, 33, 34, 35, 36, 37, 38, 39, 40, 41, 42, 43, 44, 45, 46, 47, 48] (fun k => [(21, .int .i64 (k : Int))]) (fun k W => (Below w.heap.size w W) ∧ (At W b0_0 _ 29) ∧ (k ≤ S.on.length) ∧ (∀ q, q < k → covO S l q = true) ∧ (True)) (fun k => S.on.length - k) (0) ⟨rfl, trivial⟩ ⟨hB, hm0_0, (Nat.zero_le _), upTo_zero, trivial⟩ ?_
 clear hB hm0_0
 rintro k g25 W24 ⟨hB, hm0_0, hk, hq, _⟩ J26 hJ27
 refine Zr <| Zv (r_lss rfl rfl) <| WL_nil <| WC_seq fun K30 hK31 => ZQ rfl (fun hc1 => ?_) fun hc1 => ?_
 refine WC_skip <| hK31 _ _ <| WC_seq fun K32 hK33 => WC_block <| Zr <| Zi rfl <| Zv (r_idxS (v := onV) rfl (Below.slT hB hon) rfl tb_el27 Om (by first | omega | (simp only [flagsTo_len, litsTo_len, firstF_len, ptF_len, setF_len]; omega))) <| Zv (r_load4 rfl tb_ag51 (SlT.cell (Below.slT hB hon) encS_len 0 Om (by first | omega | (simp only [flagsTo_len, litsTo_len, firstF_len, ptF_len, setF_len]; omega)) 0 rfl) (SlT.cell (Below.slT hB hon) encS_len 0 Om (by first | omega | (simp only [flagsTo_len, litsTo_len, firstF_len, ptF_len, setF_len]; omega)) 1 rfl) (SlT.cell (Below.slT hB hon) encS_len 0 Om (by first | omega | (simp only [flagsTo_len, litsTo_len, firstF_len, ptF_len, setF_len]; omega)) 2 rfl) (SlT.cell (Below.slT hB hon) encS_len 0 Om (by first | omega | (simp only [flagsTo_len, litsTo_len, firstF_len, ptF_len, setF_len]; omega)) 3 rfl)) <| Zy (Y_alloc tb_z51 rfl fun b5_3 W36 hb37 hE38 hm5_3 => ?_)
 have lo_b5_3 := ZO hb37 hB
 clear hb37
 replace hB := Ze hB hE38
 replace hm0_0 := hE38.at hm0_0
 replace hm5_3 : At W36 b5_3 #[wv 0 0, wv 0 1, wv 0 2, wv 0 3] 51 := hm5_3
 refine Zi rfl <| Zy (Y_storeW rfl rfl tb_ag51 rfl hm5_3 rfl rfl fun W39 hG40 hm41 => ?_)
 replace hB := Zg hB hG40 lo_b5_3
 replace hm0_0 := At.grownAt hm0_0 hm5_3 hG40 Dc
 replace hm5_3 := hm41
 refine WL_nil <| Zr <| Zw xa rfl <| Zf rfl tb_fo29_0 <| Zl rfl tb_sc3 hm0_0 rfl <| Zi rfl <| ZC tb_c31 (C_spec_Points _ l S.n (k : Int) _ (Below.slT hB hl) hlb hlr) rfl fun v6_4 W44 hE45 hP6_4 => ?_
 replace hB := Ze hB hE45
 replace hm0_0 := hE45.at hm0_0
 replace hm5_3 := hE45.at hm5_3
 obtain ⟨sa, er, rfl, hhP6_4⟩ := pts_res hP6_4
 refine Zw (.tuple #[.agg #[_, _, _, _], .int .i64 _]) rfl <| Zv (r_ext2_0 rfl) <| Zv (r_ext2_1 rfl) <| Zy (Y_alloc tb_z51 rfl fun b6_8 W47 hb48 hE49 hm6_8 => ?_)
 have lo_b6_8 := ZO hb48 hB
 have ne_b5_3_b6_8 := Zn hb48 hm5_3
 clear hb48
 replace hB := Ze hB hE49
 replace hm0_0 := hE49.at hm0_0
 replace hm5_3 := hE49.at hm5_3
 replace hm6_8 : At W47 b6_8 #[wv 0 0, wv 0 1, wv 0 2, wv 0 3] 51 := hm6_8
 refine Zy (Y_storeW rfl rfl tb_ag51 rfl hm6_8 rfl rfl fun W50 hG51 hm52 => ?_)
 replace hB := Zg hB hG51 lo_b6_8
 replace hm0_0 := At.grownAt hm0_0 hm6_8 hG51 Dc
 replace hm5_3 := At.grownNe hm5_3 ne_b5_3_b6_8 hG51
 replace hm6_8 := hm52
 refine Zi rfl <| WL_nil ?_
 obtain ⟨_, hsa, _⟩ := hhP6_4.resolve_right (fun h => by have h2 := may_pts (l := l) hr hm (show k < S.on.length by omega); rw [h.1] at h2; cases h2)
 rw [Int.toNat_natCast] at hsa
 subst hsa
 refine Zd Ext fun W55 hE56 => ?_
 replace hB := Ze hB hE56
 replace hm0_0 := hE56.at hm0_0
 replace hm5_3 := hE56.at hm5_3
 replace hm6_8 := hE56.at hm6_8
 have hS := Ext.refl W55
 refine Tk 0 rfl (fun _ hq => r_loadW rfl tb_ag51 rfl (hq.at hm5_3)) hS <| Tk 1 rfl (fun _ hq => r_loadW rfl tb_ag51 rfl (hq.at hm6_8)) hS <| To 2 rfl (TC tb_c26 (C_set_Within _ _ _) rfl fun v7_2 W57 hE58 hP7_2 => ⟨.inl (hS.trans hE58), ?_⟩)
 have sv60_hB := hB
 have sv60_hm0_0 := hm0_0
 have sv60_hm6_8 := hm6_8
 replace hB := Ze hB hE58
 replace hm0_0 := hE58.at hm0_0
 replace hm5_3 := hE58.at hm5_3
 replace hm6_8 := hE58.at hm6_8
 replace hS := hS.trans hE58
 obtain rfl := hP7_2
 refine Tk 3 rfl (fun _ _ => r_not rfl) hS <| Tx 4 rfl (fun _ _ => r_move (v := .bool _) rfl) hS (fun hs7_4 => ?_) fun hs7_4 => ?_
 refine Tp 5 rfl hS <| Tp 6 rfl hS <| Tp 7 rfl hS <| Tp 8 rfl hS <| Tp 9 rfl hS <| Tp 10 rfl hS <| Tp 11 rfl hS <| Tp 12 rfl hS <| Ty 13 rfl rfl hS <| Td <| WC_cond_true rfl <| Zr <| Zb rfl <| WL_nil ?_
 refine Zt <| ret_t (v := .bool false) rfl ⟨hB, ?_⟩
 exact cov_f3 (o := k) Om (not_t hs7_4)
 refine Tk 5 rfl (fun _ hq => r_loadW rfl tb_ag51 rfl (hq.at sv60_hm6_8)) hS <| Tf 6 rfl rfl tb_fo29_2 hS <| Tk 7 rfl (fun _ hq => r_load1 (v := mayV) rfl tb_sc27 (At.cell (hq.at sv60_hm0_0) rfl)) hS <| Ti 8 rfl rfl hS <| Tk 9 rfl (fun _ hq => r_idxS (v := mayV) rfl (hq.slT (Below.slT sv60_hB hmay)) rfl tb_el27 Om (by first | omega | (simp only [flagsTo_len, litsTo_len, firstF_len, ptF_len, setF_len]; omega))) hS <| Tk 10 rfl (fun _ hq => r_load4 rfl tb_ag51 (SlT.cell (hq.slT (Below.slT sv60_hB hmay)) encS_len 0 Om (by first | omega | (simp only [flagsTo_len, litsTo_len, firstF_len, ptF_len, setF_len]; omega)) 0 rfl) (SlT.cell (hq.slT (Below.slT sv60_hB hmay)) encS_len 0 Om (by first | omega | (simp only [flagsTo_len, litsTo_len, firstF_len, ptF_len, setF_len]; omega)) 1 rfl) (SlT.cell (hq.slT (Below.slT sv60_hB hmay)) encS_len 0 Om (by first | omega | (simp only [flagsTo_len, litsTo_len, firstF_len, ptF_len, setF_len]; omega)) 2 rfl) (SlT.cell (hq.slT (Below.slT sv60_hB hmay)) encS_len 0 Om (by first | omega | (simp only [flagsTo_len, litsTo_len, firstF_len, ptF_len, setF_len]; omega)) 3 rfl)) hS <| To 11 rfl (TC tb_c26 (C_set_Within _ _ _) rfl fun v7_11 W63 hE64 hP7_11 => ⟨.inl (hS.trans hE64), ?_⟩)
 replace hB := Ze hB hE64
 replace hm0_0 := hE64.at hm0_0
 replace hm5_3 := hE64.at hm5_3
 replace hm6_8 := hE64.at hm6_8
 replace hS := hS.trans hE64
 obtain rfl := hP7_11
 refine Tk 12 rfl (fun _ _ => r_not rfl) hS <| Ty 13 rfl rfl hS <| Td <| ZQ rfl (fun hc2 => ?_) fun hc2 => ?_
 refine Zr <| Zb rfl <| WL_nil <| Zt <| ret_t (v := .bool false) rfl ⟨hB, ?_⟩
 exact cov_f4 (o := k) Om (not_t hc2)
 refine WC_skip <| hK33 _ _ <| WC_region <| Zv (r_addI rfl rfl Om Om) <| Zi rfl <| WL_nil ?_
 exact hJ27 _ _ (k + 1) Za ⟨rfl, trivial⟩ ⟨hB, hm0_0, Om, (upTo_succ hq (covO_t (not_f hs7_4) (not_f hc2))), trivial⟩ Zo
 refine WC_exit <| hK21 _ _ <| Zr <| Zb rfl <| WL_nil <| Zt <| ret_t (v := .bool true) rfl ⟨hB, ?_⟩
 obtain rfl : k = S.on.length := by omega
 exact vb_t (covB_iff.2 ⟨hr, hm, hq⟩)

theorem C_drawkniferef04_size (n : Int) (w : World) (h0 : 0 ≤ n) (h1 : n ≤ 8) :
    Fn Tryz.prog 23 #[.int .i64 n] w fun v w' => v = .int .i64 ((2 ^ n.toNat : Nat) : Int) := by
 refine Fn_intro (n := 8) Tryz.func23 rfl rfl (Nat.le_of_ble_eq_true rfl) ?_
 have hB : Below w.heap.size w w := Below.refl _ _
 refine Zr <| Zi rfl <| WL_nil <| Zr <| Zi rfl <| ZC tb_c28 (C_drawkniferef01_All _ _ (by first | assumption | omega) (by first | assumption | omega)) rfl fun v1_1 W5 hE6 hP1_1 => ?_
 have hsz7 := (Below.size hB)
 replace hB := Ze hB hE6
 replace hP1_1 := OwT.mono hP1_1 hsz7
 refine ZC tb_c25 (C_drawkniferef01_Set _ _ _ hP1_1.sl (firstF_len _)) rfl fun v1_2 W8 hE9 hP1_2 => ?_
 replace hB := Ze hB hE9
 replace hP1_1 := hE9.ow hP1_1
 obtain rfl := hP1_2
 refine ZC tb_c48 (C_drawkniferef01_List _ _) rfl fun v1_3 W11 hE12 hP1_3 => ?_
 have hsz13 := (Below.size hB)
 replace hB := Ze hB hE12
 replace hP1_1 := hE12.ow hP1_1
 replace hP1_3 := OwT.mono hP1_3 hsz13
 refine Zv (r_lenS (v := v1_3) rfl hP1_3.sl tb_el42) <| Zi rfl <| WL_nil <| Zt <| ret_t (v := .int .i64 _) rfl ⟨hB, ?_⟩
 rw [size_all n.toNat (by omega)]

theorem C_drawkniferef04_Covered (xa : Value) (l : List Rw) (p o : Nat) (w : World) (hl : SlT encR 3 w xa l) (hlb : l.length ≤ 2000000) (hlr : RowB l) (hp : p < 256) (ho : o < 8) :
    Fn Tryz.prog 34 #[xa, .int .i64 (p : Int), .int .i64 (o : Int)] w fun v w' => v = .bool (cvB l p o) := by
 refine Fn_intro (n := 30) Tryz.func34 rfl rfl (Nat.le_of_ble_eq_true rfl) ?_
 have hB : Below w.heap.size w w := Below.refl _ _
 refine Zr <| Zb rfl <| WL_nil <| WC_seq fun K3 hK4 => Zr <| Zi rfl <| WL_nil <| WC_block ?_
 refine WC_loop (σ := (Nat)) [6, 7, 8, 9, 10, 11, 12, 13, 14, 15, 16, 17, 18, 19, 20, 21, 22, 23, 24, 25, 26, 27, 28, 29] (fun k => [(7, .int .i64 (k : Int))]) (fun k W => (Below w.heap.size w W) ∧ (k ≤ l.length) ∧ (∀ q, q < k → ((l.getD q ⟨⟨0, 0⟩, 0⟩).o.testBit o && hasC (l.getD q ⟨⟨0, 0⟩, 0⟩).c.m (l.getD q ⟨⟨0, 0⟩, 0⟩).c.v p) = false) ∧ (True)) (fun k => l.length - k) (0) ⟨rfl, trivial⟩ ⟨hB, (Nat.zero_le _), upTo_zero, trivial⟩ ?_
 clear hB
 rintro k g8 W7 ⟨hB, hk, hq, _⟩ J9 hJ10
 refine WC_seq fun K11 hK12 => Zr <| Zi rfl <| Zw xa rfl <| Zv (r_lenS (v := xa) rfl (Below.slT hB hl) tb_el37) <| Zv (r_lss rfl rfl) <| WL_nil <| ZQ rfl (fun hc0 => ?_) fun hc0 => ?_
 refine WC_skip <| hK12 _ _ <| WC_seq fun K15 hK16 => WC_block ?_
 obtain ⟨hb1, hb2, hb3⟩ := hlr.get (k := k) (by omega)
 refine Zr <| Zw xa rfl <| Zi rfl <| Zv (r_idxS (v := xa) rfl (Below.slT hB hl) rfl tb_el37 Om (by first | omega | (simp only [flagsTo_len, litsTo_len, firstF_len, ptF_len, setF_len]; omega))) <| Zf rfl tb_fo48_1 <| Zv (r_load1 (v := .int .u8 _) rfl tb_sc5 (SlT.cell (Below.slT hB hl) encR_len ⟨⟨0, 0⟩, 0⟩ Om (by first | omega | (simp only [flagsTo_len, litsTo_len, firstF_len, ptF_len, setF_len]; omega)) 2 rfl)) <| Zi rfl <| ZC tb_c51 (C_drawkniferef04_Bit _ _ _ hb3 ho) rfl fun v4_6 W19 hE20 hP4_6 => ?_
 replace hB := Ze hB hE20
 obtain rfl := hP4_6
 refine ZX rfl (fun hs4_7 => ?_) fun hs4_7 => ?_
 refine Zw xa rfl <| Zi rfl <| Zv (r_idxS (v := xa) rfl (Below.slT hB hl) rfl tb_el37 Om (by first | omega | (simp only [flagsTo_len, litsTo_len, firstF_len, ptF_len, setF_len]; omega))) <| Zf rfl tb_fo48_0 <| Zv (r_load2 rfl tb_ag41 (SlT.cell (Below.slT hB hl) encR_len ⟨⟨0, 0⟩, 0⟩ Om (by first | omega | (simp only [flagsTo_len, litsTo_len, firstF_len, ptF_len, setF_len]; omega)) 0 rfl) (SlT.cell (Below.slT hB hl) encR_len ⟨⟨0, 0⟩, 0⟩ Om (by first | omega | (simp only [flagsTo_len, litsTo_len, firstF_len, ptF_len, setF_len]; omega)) 1 rfl)) <| Zi rfl <| ZC tb_c49 (C_drawkniferef02_Has _ _ p _ hb1 hb2 hp) rfl fun v4_14 W22 hE23 hP4_14 => ?_
 replace hB := Ze hB hE23
 obtain rfl := hP4_14
 refine Zb rfl <| WL_nil <| ZQ rfl (fun hc1 => ?_) fun hc1 => ?_
 refine Zr <| Zb rfl <| WL_nil <| Zt <| ret_t (v := .bool true) rfl ⟨hB, ?_⟩
 exact cv_t (k := k) Om hs4_7 hc1
 refine WC_skip <| hK16 _ _ <| WC_region <| Zi rfl <| Zv (r_addI rfl rfl Om Om) <| Zi rfl <| WL_nil ?_
 exact hJ10 _ _ (k + 1) Za ⟨rfl, trivial⟩ ⟨hB, Om, (upTo_succ hq (by first | exact and_f1 hs4_7 | exact and_f2 hc1)), trivial⟩ Zo
 refine Zs <| Zs <| Zs <| Zs <| Zs <| Zs <| Zs <| Zb rfl <| WL_nil <| WC_cond_false rfl <| WC_skip <| hK16 _ _ <| WC_region <| Zi rfl ?_
 refine Zv (r_addI rfl rfl Om Om) <| Zi rfl <| WL_nil ?_
 exact hJ10 _ _ (k + 1) Za ⟨rfl, trivial⟩ ⟨hB, Om, (upTo_succ hq (by first | exact and_f1 hs4_7 | exact and_f2 hc1)), trivial⟩ Zo
 refine WC_exit <| hK4 _ _ <| Zr <| Zb rfl <| WL_nil <| Zt <| ret_t (v := .bool false) rfl ⟨hB, ?_⟩
 exact cv_f Om hq

theorem C_drawkniferef04_Covers (S : Sp) (onV mayV : Value) (xa : Value) (l : List Rw) (w : World) (hon : SlT encS 4 w onV S.on) (hmay : SlT encS 4 w mayV S.may) (hl : SlT encR 3 w xa l) (hlb : l.length ≤ 2000000) (hlr : RowB l) (hr : rightS S = true) :
    Fn Tryz.prog 15 #[.agg #[.int .i64 S.n, onV, mayV], xa] w fun v w' => v = .bool (covB S l) := by
 refine Fn_intro (n := 76) Tryz.func15 rfl rfl (Nat.le_of_ble_eq_true rfl) ?_
 have hB : Below w.heap.size w w := Below.refl _ _
 obtain ⟨h0, h8, h1, h5, h6, _⟩ := rightS_iff.1 hr
 have h256 := two_pow_le h8
 refine Zr <| Zy (Y_box (c := #[_, _, _]) rfl rfl fun b0_0 W3 hb4 hE5 hm0_0 => ?_)
 have lo_b0_0 := ZO hb4 hB
 clear hb4
 replace hB := Ze hB hE5
 refine Zb rfl <| WL_nil <| WC_seq fun K6 hK7 => Zr <| Zi rfl <| WL_nil <| WC_block ?_
 refine WC_loop (σ := (Nat)) [4, 5, 11, 12, 13, 14, 15, 16, 17, 18, 19, 20, 21, 22, 23, 24, 25, 26, 27] (fun k => [(5, .int .i64 (k : Int))]) (fun k W => (Below w.heap.size w W) ∧ (At W b0_0 _ 29) ∧ (k ≤ l.length) ∧ (∀ q, q < k → okR S (l.getD q ⟨⟨0, 0⟩, 0⟩) = true) ∧ (True)) (fun k => l.length - k) (0) ⟨rfl, trivial⟩ ⟨hB, hm0_0, (Nat.zero_le _), upTo_zero, trivial⟩ ?_
 clear hB hm0_0
 rintro k g11 W10 ⟨hB, hm0_0, hk, hq, _⟩ J12 hJ13
 refine WC_seq fun K14 hK15 => Zr <| Zi rfl <| Zw xa rfl <| Zv (r_lenS (v := xa) rfl (Below.slT hB hl) tb_el37) <| Zv (r_lss rfl rfl) <| WL_nil <| ZQ rfl (fun hc0 => ?_) fun hc0 => ?_
 refine WC_skip <| hK15 _ _ <| WC_seq fun K18 hK19 => WC_block ?_
 obtain ⟨hb1, hb2, hb3⟩ := hlr.get (k := k) (by omega)
 refine Zd Ext fun W22 hE23 => ?_
 replace hB := Ze hB hE23
 replace hm0_0 := hE23.at hm0_0
 have hS := Ext.refl W22
 refine Tw 0 xa rfl rfl hS <| Ti 1 rfl rfl hS <| Tk 2 rfl (fun _ hq => r_idxS (v := xa) rfl (hq.slT (Below.slT hB hl)) rfl tb_el37 Om (by first | omega | (simp only [flagsTo_len, litsTo_len, firstF_len, ptF_len, setF_len]; omega))) hS <| Tk 3 rfl (fun _ hq => r_load3 rfl tb_ag48 (SlT.cell (hq.slT (Below.slT hB hl)) encR_len ⟨⟨0, 0⟩, 0⟩ Om (by first | omega | (simp only [flagsTo_len, litsTo_len, firstF_len, ptF_len, setF_len]; omega)) 0 rfl) (SlT.cell (hq.slT (Below.slT hB hl)) encR_len ⟨⟨0, 0⟩, 0⟩ Om (by first | omega | (simp only [flagsTo_len, litsTo_len, firstF_len, ptF_len, setF_len]; omega)) 1 rfl) (SlT.cell (hq.slT (Below.slT hB hl)) encR_len ⟨⟨0, 0⟩, 0⟩ Om (by first | omega | (simp only [flagsTo_len, litsTo_len, firstF_len, ptF_len, setF_len]; omega)) 2 rfl)) hS <| Tf 4 rfl rfl tb_fo29_0 hS <| Tk 5 rfl (fun _ hq => r_load1 (v := .int .i64 _) rfl tb_sc3 (At.cell (hq.at hm0_0) rfl)) hS <| Tf 6 rfl rfl tb_fo29_1 hS <| Tk 7 rfl (fun _ hq => r_load1 (v := onV) rfl tb_sc27 (At.cell (hq.at hm0_0) rfl)) hS <| Tk 8 rfl (fun _ hq => r_lenS (v := onV) rfl (hq.slT (Below.slT hB hon)) tb_el27) hS <| To 9 rfl (TC tb_c32 (C_drawkniferef04_May _ _ _ S.on.length _ _ hb1 hb2 hb3) rfl fun v4_9 W24 hE25 hP4_9 => ⟨.inl (hS.trans hE25), ?_⟩)
 replace hB := Ze hB hE25
 replace hm0_0 := hE25.at hm0_0
 replace hS := hS.trans hE25
 obtain rfl := hP4_9
 refine Tk 10 rfl (fun _ _ => r_not rfl) hS <| Td <| ZQ rfl (fun hc1 => ?_) fun hc1 => ?_
 refine Zr <| Zb rfl <| WL_nil <| Zt <| ret_t (v := .bool false) rfl ⟨hB, ?_⟩
 exact cov_rowf (k := k) Om (fun h => Bool.noConfusion (h.symm.trans ((okR_ref (S := S) (x := (l.getD k ⟨⟨0, 0⟩, 0⟩))).symm.trans (not_t hc1))))
 refine WC_skip <| hK19 _ _ <| WC_region <| Zi rfl <| Zv (r_addI rfl rfl Om Om) <| Zi rfl <| WL_nil ?_
 exact hJ13 _ _ (k + 1) Za ⟨rfl, trivial⟩ ⟨hB, hm0_0, Om, (upTo_succ hq ((okR_ref (S := S) (x := (l.getD k ⟨⟨0, 0⟩, 0⟩))).symm.trans (not_f hc1))), trivial⟩ Zo
 refine WC_exit <| hK7 _ _ <| WC_seq fun K30 hK31 => ?_
 obtain rfl : k = l.length := by omega
 have hm : mayL S l = true := mayL_iff.2 hq
 refine Zr <| Zi rfl <| WL_nil <| WC_block ?_
 refine WC_loop (σ := (Nat)) [4, 6, 7, 8, 9, 10, 28, 29, 30, 31, 32, 33, 34, 35, 36, 37, 38, 39, 40, 41, 42, 43, 44, 45, 46, 47, 48, 49, 50, 51, 52, 53, 54, 55, 56, 57, 58, 59, 60, 61, 62, 63, 64, 65, 66, 67, 68, 69, 70, 71, 72, 73, 74, 75] (fun o => [(6, .int .i64 (o : Int))]) (fun o W => (Below w.heap.size w W) ∧ (At W b0_0 _ 29) ∧ (o ≤ S.on.length) ∧ (∀ q, q < o → covO S l q = true) ∧ (True)) (fun o => S.on.length - o) (0) ⟨rfl, trivial⟩ ⟨hB, hm0_0, (Nat.zero_le _), upTo_zero, trivial⟩ ?_
 clear hB hm0_0
 rintro o g35 W34 ⟨hB, hm0_0, ho, hq2, _⟩ J36 hJ37
 refine WC_seq fun K38 hK39 => Zr <| Zi rfl <| Zf rfl tb_fo29_1 <| ZL onV rfl tb_sc27 hm0_0 rfl <| Zv (r_lenS (v := onV) rfl (Below.slT hB hon) tb_el27) <| Zv (r_lss rfl rfl) <| WL_nil <| ZQ rfl (fun hc2 => ?_) fun hc2 => ?_
 refine WC_skip <| hK39 _ _ <| WC_seq fun K42 hK43 => WC_block <| Zd Ext fun W46 hE47 => ?_
 replace hB := Ze hB hE47
 replace hm0_0 := hE47.at hm0_0
 have hS := Ext.refl W46
 refine Tf 0 rfl rfl tb_fo29_1 hS <| Tk 1 rfl (fun _ hq => r_load1 (v := onV) rfl tb_sc27 (At.cell (hq.at hm0_0) rfl)) hS <| Ti 2 rfl rfl hS <| Tk 3 rfl (fun _ hq => r_idxS (v := onV) rfl (hq.slT (Below.slT hB hon)) rfl tb_el27 Om (by first | omega | (simp only [flagsTo_len, litsTo_len, firstF_len, ptF_len, setF_len]; omega))) hS <| Tk 4 rfl (fun _ hq => r_load4 rfl tb_ag51 (SlT.cell (hq.slT (Below.slT hB hon)) encS_len 0 Om (by first | omega | (simp only [flagsTo_len, litsTo_len, firstF_len, ptF_len, setF_len]; omega)) 0 rfl) (SlT.cell (hq.slT (Below.slT hB hon)) encS_len 0 Om (by first | omega | (simp only [flagsTo_len, litsTo_len, firstF_len, ptF_len, setF_len]; omega)) 1 rfl) (SlT.cell (hq.slT (Below.slT hB hon)) encS_len 0 Om (by first | omega | (simp only [flagsTo_len, litsTo_len, firstF_len, ptF_len, setF_len]; omega)) 2 rfl) (SlT.cell (hq.slT (Below.slT hB hon)) encS_len 0 Om (by first | omega | (simp only [flagsTo_len, litsTo_len, firstF_len, ptF_len, setF_len]; omega)) 3 rfl)) hS <| Tf 6 rfl rfl tb_fo29_2 hS <| Tk 7 rfl (fun _ hq => r_load1 (v := mayV) rfl tb_sc27 (At.cell (hq.at hm0_0) rfl)) hS <| Ti 8 rfl rfl hS <| Tk 9 rfl (fun _ hq => r_idxS (v := mayV) rfl (hq.slT (Below.slT hB hmay)) rfl tb_el27 Om (by first | omega | (simp only [flagsTo_len, litsTo_len, firstF_len, ptF_len, setF_len]; omega))) hS <| Tk 10 rfl (fun _ hq => r_load4 rfl tb_ag51 (SlT.cell (hq.slT (Below.slT hB hmay)) encS_len 0 Om (by first | omega | (simp only [flagsTo_len, litsTo_len, firstF_len, ptF_len, setF_len]; omega)) 0 rfl) (SlT.cell (hq.slT (Below.slT hB hmay)) encS_len 0 Om (by first | omega | (simp only [flagsTo_len, litsTo_len, firstF_len, ptF_len, setF_len]; omega)) 1 rfl) (SlT.cell (hq.slT (Below.slT hB hmay)) encS_len 0 Om (by first | omega | (simp only [flagsTo_len, litsTo_len, firstF_len, ptF_len, setF_len]; omega)) 2 rfl) (SlT.cell (hq.slT (Below.slT hB hmay)) encS_len 0 Om (by first | omega | (simp only [flagsTo_len, litsTo_len, firstF_len, ptF_len, setF_len]; omega)) 3 rfl)) hS <| To 5 rfl (TC tb_c33 (C_drawkniferef01_Flags _ _) rfl fun v9_5 W48 hE49 hP9_5 => ⟨.inl (hS.trans hE49), ?_⟩)
 have hsz50 := (Below.size hB)
 replace hB := Ze hB hE49
 replace hm0_0 := hE49.at hm0_0
 replace hS := hS.trans hE49
 replace hP9_5 := OwT.mono hP9_5 hsz50
 refine To 11 rfl (TC tb_c33 (C_drawkniferef01_Flags _ _) rfl fun v9_11 W52 hE53 hP9_11 => ⟨.inl (hS.trans hE53), ?_⟩)
 have hlt54 := OwT.lt2 hP9_5
 have hsz55 := (Below.size hB)
 replace hB := Ze hB hE53
 replace hm0_0 := hE53.at hm0_0
 replace hP9_5 := hE53.ow hP9_5
 replace hS := hS.trans hE53
 have hap56 := Apart.new hlt54 hP9_11
 replace hP9_11 := OwT.mono hP9_11 hsz55
 refine Tw 12 v9_5 rfl rfl hS <| Tw 13 v9_11 rfl rfl hS <| Td <| Zr <| Zi rfl <| WL_nil <| WC_block ?_
 refine WC_loop (σ := (Nat)) [4, 9, 10, 47, 48, 49, 50, 51, 52, 53, 54, 55, 56, 57, 58, 59, 60, 61, 62, 63, 64, 65, 66, 67, 68, 69, 70, 71, 72, 73, 74, 75] (fun p => [(9, .int .i64 (p : Int))]) (fun p W => (Below w.heap.size w W) ∧ (At W b0_0 _ 29) ∧ (OwT encB 1 4 W w.heap.size v9_5 _) ∧ (Apart v9_5 v9_11) ∧ (OwT encB 1 4 W w.heap.size v9_11 _) ∧ (p ≤ 2 ^ S.n.toNat) ∧ (∀ q, q < p → ((onP S o).testBit q = true → cvB l q o = true) ∧ (cvB l q o = true → (mayP S o).testBit q = true)) ∧ (True)) (fun p => 2 ^ S.n.toNat - p) (0) ⟨rfl, trivial⟩ ⟨hB, hm0_0, hP9_5, hap56, hP9_11, (Nat.zero_le _), upTo_zero, trivial⟩ ?_
 clear hB hm0_0 hP9_5 hap56 hP9_11
 rintro p g60 W59 ⟨hB, hm0_0, hP9_5, hap56, hP9_11, hp, hq3, _⟩ J61 hJ62
 refine WC_seq fun K63 hK64 => Zr <| Zi rfl <| Zf rfl tb_fo29_0 <| Zl rfl tb_sc3 hm0_0 rfl <| ZC tb_c23 (C_drawkniferef04_size _ _ (by first | assumption | omega) (by first | assumption | omega)) rfl fun v11_3 W67 hE68 hP11_3 => ?_
 replace hB := Ze hB hE68
 replace hm0_0 := hE68.at hm0_0
 replace hP9_5 := hE68.ow hP9_5
 replace hP9_11 := hE68.ow hP9_11
 obtain rfl := hP11_3
 refine Zv (r_lss rfl rfl) <| WL_nil <| ZQ rfl (fun hc3 => ?_) fun hc3 => ?_
 refine WC_skip <| hK64 _ _ <| WC_seq fun K70 hK71 => WC_block <| Zr <| Zw xa rfl <| Zi rfl <| Zi rfl <| ZC tb_c34 (C_drawkniferef04_Covered _ l p o _ (Below.slT hB hl) hlb hlr Om Om) rfl fun v13_3 W74 hE75 hP13_3 => ?_
 replace hB := Ze hB hE75
 replace hm0_0 := hE75.at hm0_0
 replace hP9_5 := hE75.ow hP9_5
 replace hP9_11 := hE75.ow hP9_11
 obtain rfl := hP13_3
 refine Zb rfl <| WL_nil <| Zr <| Zw v9_5 rfl <| Zi rfl <| Zv (r_idxS (v := v9_5) rfl hP9_5.sl rfl tb_el61 Om (by first | omega | (simp only [flagsTo_len, litsTo_len, firstF_len, ptF_len, setF_len]; omega))) <| Zv (r_load1 (v := .bool _) rfl tb_sc4 (SlT.cell hP9_5.sl encB_len false Om (by first | omega | (simp only [flagsTo_len, litsTo_len, firstF_len, ptF_len, setF_len]; omega)) 0 rfl)) <| ZX rfl (fun hs14_4 => ?_) fun hs14_4 => ?_
 refine Zb rfl <| Zv (r_not rfl) <| Zb rfl <| ZX rfl (fun hs14_8 => ?_) fun hs14_8 => ?_
 refine Zs <| Zs <| Zs <| Zs <| Zs <| Zs <| Zs <| Zs <| Zb rfl <| WL_nil <| WC_cond_true rfl <| Zr <| Zb rfl <| WL_nil ?_
 refine Zt <| ret_t (v := .bool false) rfl ⟨hB, ?_⟩
 exact cov_ref_no hr hm (o := o) (p := p) Om Om (fun h => Bool.noConfusion ((h.1 (cr_y Om hs14_4)).symm.trans (not_t hs14_8)))
 refine Zb rfl <| ZX rfl (fun hs14_10 => ?_) fun hs14_10 => ?_
 refine Zw v9_11 rfl <| Zi rfl <| Zv (r_idxS (v := v9_11) rfl hP9_11.sl rfl tb_el61 Om (by first | omega | (simp only [flagsTo_len, litsTo_len, firstF_len, ptF_len, setF_len]; omega))) <| Zv (r_load1 (v := .bool _) rfl tb_sc4 (SlT.cell hP9_11.sl encB_len false Om (by first | omega | (simp only [flagsTo_len, litsTo_len, firstF_len, ptF_len, setF_len]; omega)) 0 rfl)) <| Zv (r_not rfl) <| Zb rfl <| Zb rfl <| WL_nil <| ZQ rfl (fun hc4 => ?_) fun hc4 => ?_
 refine Zr <| Zb rfl <| WL_nil <| Zt <| ret_t (v := .bool false) rfl ⟨hB, ?_⟩
 exact cov_ref_no hr hm (o := o) (p := p) Om Om (fun h => cr_n Om (not_t hc4) (h.2 hs14_10))
 refine WC_skip <| hK71 _ _ <| WC_region <| Zi rfl <| Zv (r_addI rfl rfl Om Om) <| Zi rfl <| WL_nil ?_
 exact hJ62 _ _ (p + 1) Za ⟨rfl, trivial⟩ ⟨hB, hm0_0, hP9_5, hap56, hP9_11, Om, (upTo_succ hq3 ⟨fun h1 => by first | exact not_f hs14_8 | exact hs14_10 | exact absurd h1 (cr_n Om hs14_4), fun h2 => by first | exact cr_y Om (not_f hc4) | exact absurd h2 (by rw [hs14_10]; decide)⟩), trivial⟩ Zo
 refine Zs <| Zs <| Zs <| Zs <| Zs <| Zb rfl <| Zb rfl <| WL_nil <| WC_cond_false rfl <| WC_skip <| hK71 _ _ <| WC_region <| Zi rfl <| Zv (r_addI rfl rfl Om Om) ?_
 refine Zi rfl <| WL_nil ?_
 exact hJ62 _ _ (p + 1) Za ⟨rfl, trivial⟩ ⟨hB, hm0_0, hP9_5, hap56, hP9_11, Om, (upTo_succ hq3 ⟨fun h1 => by first | exact not_f hs14_8 | exact hs14_10 | exact absurd h1 (cr_n Om hs14_4), fun h2 => by first | exact cr_y Om (not_f hc4) | exact absurd h2 (by rw [hs14_10]; decide)⟩), trivial⟩ Zo
 refine Zs <| Zs <| Zb rfl <| Zb rfl <| Zb rfl <| ZX rfl (fun hs14_10 => ?_) fun hs14_10 => ?_
 refine Zw v9_11 rfl <| Zi rfl <| Zv (r_idxS (v := v9_11) rfl hP9_11.sl rfl tb_el61 Om (by first | omega | (simp only [flagsTo_len, litsTo_len, firstF_len, ptF_len, setF_len]; omega))) <| Zv (r_load1 (v := .bool _) rfl tb_sc4 (SlT.cell hP9_11.sl encB_len false Om (by first | omega | (simp only [flagsTo_len, litsTo_len, firstF_len, ptF_len, setF_len]; omega)) 0 rfl)) <| Zv (r_not rfl) <| Zb rfl <| Zb rfl <| WL_nil <| ZQ rfl (fun hc4 => ?_) fun hc4 => ?_
 refine Zr <| Zb rfl <| WL_nil <| Zt <| ret_t (v := .bool false) rfl ⟨hB, ?_⟩
 exact cov_ref_no hr hm (o := o) (p := p) Om Om (fun h => cr_n Om (not_t hc4) (h.2 hs14_10))
 refine WC_skip <| hK71 _ _ <| WC_region <| Zi rfl <| Zv (r_addI rfl rfl Om Om) <| Zi rfl <| WL_nil ?_
 exact hJ62 _ _ (p + 1) Za ⟨rfl, trivial⟩ ⟨hB, hm0_0, hP9_5, hap56, hP9_11, Om, (upTo_succ hq3 ⟨fun h1 => by first | exact not_f hs14_8 | exact hs14_10 | exact absurd h1 (cr_n Om hs14_4), fun h2 => by first | exact cr_y Om (not_f hc4) | exact absurd h2 (by rw [hs14_10]; decide)⟩), trivial⟩ Zo
 refine Zs <| Zs <| Zs <| Zs <| Zs <| Zb rfl <| Zb rfl <| WL_nil <| WC_cond_false rfl <| WC_skip <| hK71 _ _ <| WC_region <| Zi rfl <| Zv (r_addI rfl rfl Om Om) ?_
 refine Zi rfl <| WL_nil ?_
 exact hJ62 _ _ (p + 1) Za ⟨rfl, trivial⟩ ⟨hB, hm0_0, hP9_5, hap56, hP9_11, Om, (upTo_succ hq3 ⟨fun h1 => by first | exact not_f hs14_8 | exact hs14_10 | exact absurd h1 (cr_n Om hs14_4), fun h2 => by first | exact cr_y Om (not_f hc4) | exact absurd h2 (by rw [hs14_10]; decide)⟩), trivial⟩ Zo
 refine WC_exit <| hK43 _ _ <| WC_region <| Zi rfl <| Zv (r_addI rfl rfl Om Om) <| Zi rfl <| WL_nil ?_
 exact hJ37 _ _ (o + 1) Za ⟨rfl, trivial⟩ ⟨hB, hm0_0, Om, (upTo_succ hq2 ((covO_iff hr hm Om).2 (fun q hq => hq3 q Om))), trivial⟩ Zo
 refine WC_exit <| hK31 _ _ <| Zr <| Zb rfl <| WL_nil <| Zt <| ret_t (v := .bool true) rfl ⟨hB, ?_⟩
 obtain rfl : o = S.on.length := by omega
 exact vb_t (covB_iff.2 ⟨hr, hm, hq2⟩)

end Go.Proofs.YtnkaebjaeaecmaaGreatDoor
