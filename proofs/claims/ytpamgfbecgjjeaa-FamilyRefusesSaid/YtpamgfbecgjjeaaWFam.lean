/-
  The walks of more deeds with families: the steps.
-/
import Derived.Test.YtpamgfbecgjjeaaProg
import Derived.Test.YtpamgfbecgjjeaaWZdd3
import Derived.Test.YtpamgfbecgjjeaaWZdd5
import Derived.Test.YtpamgfbecgjjeaaZ11
namespace Go.Proofs.Ytpamgfbecgjjeaa
set_option linter.unusedVariables false
set_option linter.unusedSimpArgs false
open Go Go.RowKit

theorem tb_z114 : zeroI Try.prog 114 = some (.agg #[.pointer none, .map none, .int .i64 0]) := by kernel_rfl
theorem tb_size29 : (Try.prog.info? 29).map (·.size) = some 1 := by kernel_rfl
theorem tb_size112 : (Try.prog.info? 112).map (·.size) = some 1 := by kernel_rfl
theorem tb_build114_0_1 {f : Nat → Value} {w : World} {d : Option Nat} {ty : TypeId} {ps : String} {af : Array Edge} {g : Option (Nat × Bool)} {x0 x1 : Operand} {c0_0 c1_0 : Value} (h0 : evF f x0 = c0_0) (k0 : c0_0.cells = #[c0_0]) (h1 : evF f x1 = c1_0) (k1 : c1_0.cells = #[c1_0]) :
    (execOp (evF f) ⟨d, .build 114 #[(0, x0), (1, x1)], ty, ps, af, g⟩).run Try.prog w = .ok (.value (.agg #[c0_0, c1_0, .int .i64 0])) w := by
  obtain ⟨i0, hi0, hz0⟩ := Option.bind_eq_some_iff.1 (show (Try.prog.info? 114).bind (·.zero) = _ from tb_z114)
  obtain ⟨j24, hj24, hs24⟩ := Option.map_eq_some_iff.1 tb_size24
  obtain ⟨j29, hj29, hs29⟩ := Option.map_eq_some_iff.1 tb_size29
  obtain ⟨j112, hj112, hs112⟩ := Option.map_eq_some_iff.1 tb_size112
  simp [execOp, h0, k0, h1, k1, Instr.build, zeroValue, typeInfo, sizeOf, hi0, hz0, run_underlying Try.underlying114, Instr.fill, cells_agg, hj24, hs24, hj29, hs29, hj112, hs112]
theorem tb_fo114_2 : fieldO Try.prog 114 2 = some 2 := by kernel_rfl
theorem tb_sc29 : scalarB Try.prog 29 = true := by kernel_rfl
theorem tb_fo114_0 : fieldO Try.prog 114 0 = some 0 := by kernel_rfl
theorem tb_c41 : callB Try.prog 41 = true := by kernel_rfl
theorem tb_c91 : callB Try.prog 91 = true := by kernel_rfl
theorem tb_c40 : callB Try.prog 40 = true := by kernel_rfl
theorem tb_c32 : callB Try.prog 32 = true := by kernel_rfl
theorem tb_c23 : callB Try.prog 23 = true := by kernel_rfl

theorem C_family_begin (bz : Nat) (w : World) :
    Fn Try.prog 90 #[.pointer (some ⟨bz, 0, none⟩)] w fun v w' => ∃ bw bd, v = .pointer (some ⟨bw, 0, none⟩) ∧ At w' bw #[.pointer (some ⟨bz, 0, none⟩), .map (some bd), .int .i64 0] 114 ∧ MapT keyN keyI w' bd ([] : List (Nd × Int)) ∧ w.heap.size ≤ bw ∧ w.heap.size ≤ bd := by
 refine Fn_intro (n := 7) Try.func90 rfl rfl (Nat.le_of_ble_eq_true rfl) ?_
 have hB : Below w.heap.size w w := Below.refl _ _
 refine WC_seq (fun K1 hK2 => ?_)
 refine WC_region ?_
 refine WL_val (dd := some 2) rfl rfl rfl (r_assign (v := .pointer none) rfl) ?_
 refine WL_nil ?_
 refine hK2 _ _ ?_
 clear hK2 K1
 refine WC_seq (fun K3 hK4 => ?_)
 refine WC_region ?_
 refine WL_val (dd := some 3) rfl rfl rfl (r_move (v := .pointer (some ⟨bz, 0, none⟩)) rfl) ?_
 refine WL_step (dd := some 4) rfl rfl rfl (Y_makeMap (enc := keyN) (encV := keyI) (fun b1_1 W5 hb6 hE7 hm1_1 => ?_))
 have lo_b1_1 : w.heap.size ≤ b1_1 := hb6 ▸ (Below.size hB)
 clear hb6
 replace hB := below_ext hB hE7 (Nat.le_refl _)
 clear hE7
 refine WL_val (dd := some 5) rfl rfl rfl (tb_build114_0_1 (h0 := rfl) (k0 := rfl) (h1 := rfl) (k1 := rfl) (c0_0 := .pointer (some ⟨bz, 0, none⟩)) (c1_0 := .map (some b1_1))) ?_
 refine WL_step (dd := some 6) rfl rfl rfl (Y_box (c := #[_, _, _]) rfl rfl (fun b1_3 W8 hb9 hE10 hm1_3 => ?_))
 have lo_b1_3 : w.heap.size ≤ b1_3 := hb9 ▸ (Below.size hB)
 clear hb9
 replace hB := below_ext hB hE10 (Nat.le_refl _)
 replace hm1_1 := hE10.mapT hm1_1
 clear hE10
 refine WL_val (dd := some 2) rfl rfl rfl (r_assign (v := .pointer (some ⟨b1_3, 0, none⟩)) rfl) ?_
 refine WL_nil ?_
 refine hK4 _ _ ?_
 clear hK4 K3
 refine WC_ret ?_
 repeat (first | refine thenQ_ret ?_ | refine blockQ_ret ?_)
 refine ret_t (v := .pointer (some ⟨b1_3, 0, none⟩)) rfl ?_
 refine ⟨hB, ?_⟩
 exact ⟨_, _, rfl, hm1_3, hm1_1, lo_b1_3, lo_b1_1⟩

theorem C___family_work__did (N bw bz bd : Nat) (e : Int) (id : Nat) (er : Int) (w : World) (hN0 : N ≤ w.heap.size) (hw : At w bw #[.pointer (some ⟨bz, 0, none⟩), .map (some bd), .int .i64 e] 114) (low : N ≤ bw) :
    FnG Try.prog 91 #[.pointer (some ⟨bw, 0, none⟩), .int .i64 (id : Int), .int .i64 er] w fun v w' => w.grownBy w' (some bw) ∧ At w' bw #[.pointer (some ⟨bz, 0, none⟩), .map (some bd), .int .i64 (didE e er)] 114 ∧ v = .int .i64 ((didV e er id : Nat) : Int) := by
 refine FnG_intro (n := 22) Try.func91 rfl rfl (Nat.le_of_ble_eq_true rfl) ?_
 have hB : Below N w w := Below.refl _ _
 have hg0 : w.grownBy w (some bw) := World.grownBy.refl w (some bw)
 refine WC_seq (fun K1 hK2 => ?_)
 refine WC_region ?_
 refine WL_val (dd := some 6) rfl rfl rfl (r_assign (v := .int .i64 0) rfl) ?_
 refine WL_nil ?_
 refine hK2 _ _ ?_
 clear hK2 K1
 refine WC_seq (fun K3 hK4 => ?_)
 refine WC_seq (fun K5 hK6 => ?_)
 refine WC_region ?_
 refine WL_val (dd := some 7) rfl rfl rfl (r_move (v := .pointer (some ⟨bw, 0, none⟩)) rfl) ?_
 refine WL_val (dd := some 8) rfl rfl rfl (r_nilCheck_ptr rfl) ?_
 refine WL_val (dd := some 9) rfl rfl rfl (r_fieldAddr (b := _) (o := _) rfl tb_fo114_2) ?_
 refine WL_val (dd := some 10) rfl rfl rfl (r_load1 (v := .int .i64 _) rfl tb_sc29 (At.cell hw rfl)) ?_
 refine WL_val (dd := some 11) rfl rfl rfl (r_eql rfl rfl) ?_
 refine WL_nil ?_
 refine hK6 _ _ ?_
 clear hK6 K5
 refine WC_cond (b := _) rfl (fun hc0 => ?_) (fun hc0 => ?_)
 ·
  try with_reducible replace hc0 := of_decide_eq_true hc0
  refine WC_region ?_
  refine WL_val (dd := some 12) rfl rfl rfl (r_move (v := .pointer (some ⟨bw, 0, none⟩)) rfl) ?_
  refine WL_val (dd := some 13) rfl rfl rfl (r_move (v := .int .i64 _) rfl) ?_
  refine WL_val (dd := some 14) rfl rfl rfl (r_nilCheck_ptr rfl) ?_
  refine WL_val (dd := some 15) rfl rfl rfl (r_fieldAddr (b := _) (o := _) rfl tb_fo114_2) ?_
  refine WL_step (dd := none) rfl rfl rfl (Y_store1 (v := .int .i64 _) rfl rfl tb_sc29 rfl hw (by simp) (fun W7 hG8 hm9 => ?_))
  replace hg0 := grownBy_trans hg0 hG8
  replace hB := below_grown hB hG8 hN0 (fun j hj => by cases hj; exact low)
  clear hG8 hw
  have hw := hm9
  clear hm9
  replace hw : At _ _ #[_, _, _] _ := hw
  refine WL_nil ?_
  refine hK4 _ _ ?_
  clear hK4 K3
  refine WC_seq (fun K10 hK11 => ?_)
  refine WC_seq (fun K12 hK13 => ?_)
  refine WC_region ?_
  refine WL_val (dd := some 16) rfl rfl rfl (r_move (v := .pointer (some ⟨bw, 0, none⟩)) rfl) ?_
  refine WL_val (dd := some 17) rfl rfl rfl (r_nilCheck_ptr rfl) ?_
  refine WL_val (dd := some 18) rfl rfl rfl (r_fieldAddr (b := _) (o := _) rfl tb_fo114_2) ?_
  refine WL_val (dd := some 19) rfl rfl rfl (r_load1 (v := .int .i64 _) rfl tb_sc29 (At.cell hw rfl)) ?_
  refine WL_val (dd := some 20) rfl rfl rfl (r_neq rfl rfl) ?_
  refine WL_nil ?_
  refine hK13 _ _ ?_
  clear hK13 K12
  refine WC_cond (b := _) rfl (fun hc1 => ?_) (fun hc1 => ?_)
  ·
   try with_reducible replace hc1 := of_decide_eq_true hc1
   refine WC_seq (fun K14 hK15 => ?_)
   refine WC_region ?_
   refine WL_val (dd := some 6) rfl rfl rfl (r_assign (v := .int .i64 0) rfl) ?_
   refine WL_nil ?_
   refine hK15 _ _ ?_
   clear hK15 K14
   refine WC_ret ?_
   repeat (first | refine thenQ_ret ?_ | refine blockQ_ret ?_)
   try clear hK11 K10
   refine ret_t (v := .int .i64 0) rfl ?_
   have hde : didE e er = er := if_pos hc0
   rw [hde]
   exact ⟨hg0, hw, by unfold didV; rw [hde, if_neg hc1]; rfl⟩
  ·
   try with_reducible replace hc1 := of_decide_eq_false hc1
   refine WC_skip ?_
   refine hK11 _ _ ?_
   clear hK11 K10
   refine WC_seq (fun K16 hK17 => ?_)
   refine WC_region ?_
   refine WL_val (dd := some 21) rfl rfl rfl (r_move (v := .int .i64 _) rfl) ?_
   refine WL_val (dd := some 6) rfl rfl rfl (r_assign (v := .int .i64 _) rfl) ?_
   refine WL_nil ?_
   refine hK17 _ _ ?_
   clear hK17 K16
   refine WC_ret ?_
   repeat (first | refine thenQ_ret ?_ | refine blockQ_ret ?_)
   refine ret_t (v := .int .i64 _) rfl ?_
   have hde : didE e er = er := if_pos hc0
   rw [hde]
   exact ⟨hg0, hw, by unfold didV; rw [hde, if_pos (Decidable.of_not_not hc1)]⟩
 ·
  try with_reducible replace hc0 := of_decide_eq_false hc0
  refine WC_skip ?_
  refine hK4 _ _ ?_
  clear hK4 K3
  refine WC_seq (fun K18 hK19 => ?_)
  refine WC_seq (fun K20 hK21 => ?_)
  refine WC_region ?_
  refine WL_val (dd := some 16) rfl rfl rfl (r_move (v := .pointer (some ⟨bw, 0, none⟩)) rfl) ?_
  refine WL_val (dd := some 17) rfl rfl rfl (r_nilCheck_ptr rfl) ?_
  refine WL_val (dd := some 18) rfl rfl rfl (r_fieldAddr (b := _) (o := _) rfl tb_fo114_2) ?_
  refine WL_val (dd := some 19) rfl rfl rfl (r_load1 (v := .int .i64 _) rfl tb_sc29 (At.cell hw rfl)) ?_
  refine WL_val (dd := some 20) rfl rfl rfl (r_neq rfl rfl) ?_
  refine WL_nil ?_
  refine hK21 _ _ ?_
  clear hK21 K20
  refine WC_cond (b := _) rfl (fun hc1 => ?_) (fun hc1 => ?_)
  ·
   try with_reducible replace hc1 := of_decide_eq_true hc1
   refine WC_seq (fun K22 hK23 => ?_)
   refine WC_region ?_
   refine WL_val (dd := some 6) rfl rfl rfl (r_assign (v := .int .i64 0) rfl) ?_
   refine WL_nil ?_
   refine hK23 _ _ ?_
   clear hK23 K22
   refine WC_ret ?_
   repeat (first | refine thenQ_ret ?_ | refine blockQ_ret ?_)
   try clear hK19 K18
   refine ret_t (v := .int .i64 0) rfl ?_
   have hde : didE e er = e := if_neg hc0
   rw [hde]
   exact ⟨hg0, hw, by unfold didV; rw [hde, if_neg hc0]; rfl⟩
  ·
   try with_reducible replace hc1 := of_decide_eq_false hc1
   refine WC_skip ?_
   refine hK19 _ _ ?_
   clear hK19 K18
   refine WC_seq (fun K24 hK25 => ?_)
   refine WC_region ?_
   refine WL_val (dd := some 21) rfl rfl rfl (r_move (v := .int .i64 _) rfl) ?_
   refine WL_val (dd := some 6) rfl rfl rfl (r_assign (v := .int .i64 _) rfl) ?_
   refine WL_nil ?_
   refine hK25 _ _ ?_
   clear hK25 K24
   refine WC_ret ?_
   repeat (first | refine thenQ_ret ?_ | refine blockQ_ret ?_)
   refine ret_t (v := .int .i64 _) rfl ?_
   exact absurd (Decidable.of_not_not hc1) hc0

theorem C___family_work__end (bw bz bd : Nat) (e : Int) (id : Nat) (w : World) (hw : At w bw #[.pointer (some ⟨bz, 0, none⟩), .map (some bd), .int .i64 e] 114) :
    Fn Try.prog 99 #[.pointer (some ⟨bw, 0, none⟩), .int .i64 (id : Int)] w fun v w' => v = .tuple #[.int .i64 ((didV e 0 id : Nat) : Int), .int .i64 e] := by
 refine Fn_intro (n := 16) Try.func99 rfl rfl (Nat.le_of_ble_eq_true rfl) ?_
 have hB : Below w.heap.size w w := Below.refl _ _
 refine WC_seq (fun K1 hK2 => ?_)
 refine WC_region ?_
 refine WL_val (dd := some 4) rfl rfl rfl (r_assign (v := .int .i64 0) rfl) ?_
 refine WL_val (dd := some 5) rfl rfl rfl (r_assign (v := .int .i64 0) rfl) ?_
 refine WL_nil ?_
 refine hK2 _ _ ?_
 clear hK2 K1
 refine WC_seq (fun K3 hK4 => ?_)
 refine WC_seq (fun K5 hK6 => ?_)
 refine WC_region ?_
 refine WL_val (dd := some 6) rfl rfl rfl (r_move (v := .pointer (some ⟨bw, 0, none⟩)) rfl) ?_
 refine WL_val (dd := some 7) rfl rfl rfl (r_nilCheck_ptr rfl) ?_
 refine WL_val (dd := some 8) rfl rfl rfl (r_fieldAddr (b := _) (o := _) rfl tb_fo114_2) ?_
 refine WL_val (dd := some 9) rfl rfl rfl (r_load1 (v := .int .i64 _) rfl tb_sc29 (At.cell (Below.atI hB hw) rfl)) ?_
 refine WL_val (dd := some 10) rfl rfl rfl (r_neq rfl rfl) ?_
 refine WL_nil ?_
 refine hK6 _ _ ?_
 clear hK6 K5
 refine WC_cond (b := _) rfl (fun hc0 => ?_) (fun hc0 => ?_)
 ·
  try with_reducible replace hc0 := of_decide_eq_true hc0
  refine WC_seq (fun K7 hK8 => ?_)
  refine WC_draw Ext tb_mix (fun W9 hE10 => ?_)
  replace hB := below_ext hB hE10 (Nat.le_refl _)
  have hS := Ext.refl W9
  refine WT_take (dd := some 11) 0 rfl (by kernel_rfl) (by kernel_rfl) (by kernel_rfl) rfl rfl rfl (fun _wq _hq => r_move (v := .pointer (some ⟨bw, 0, none⟩)) rfl) hS ?_
  refine WT_take (dd := some 12) 1 rfl (by kernel_rfl) (by kernel_rfl) (by kernel_rfl) rfl rfl rfl (fun _wq _hq => r_nilCheck_ptr rfl) hS ?_
  refine WT_take (dd := some 13) 2 rfl (by kernel_rfl) (by kernel_rfl) (by kernel_rfl) rfl rfl rfl (fun _wq _hq => r_fieldAddr (b := _) (o := _) rfl tb_fo114_2) hS ?_
  refine WT_take (dd := some 14) 3 rfl (by kernel_rfl) (by kernel_rfl) (by kernel_rfl) rfl rfl rfl (fun _wq hq => r_load1 (v := .int .i64 _) rfl tb_sc29 (At.cell (hq.at (Below.atI hB hw)) rfl)) hS ?_
  refine WT_take (dd := some 4) 4 rfl (by kernel_rfl) (by kernel_rfl) (by kernel_rfl) rfl rfl rfl (fun _wq _hq => r_assign (v := .int .i64 0) rfl) hS ?_
  refine WT_take (dd := some 5) 5 rfl (by kernel_rfl) (by kernel_rfl) (by kernel_rfl) rfl rfl rfl (fun _wq _hq => r_assign (v := .int .i64 _) rfl) hS ?_
  refine WT_done (by kernel_rfl) ?_
  refine hK8 _ _ ?_
  clear hK8 K7
  refine WC_ret ?_
  repeat (first | refine thenQ_ret ?_ | refine blockQ_ret ?_)
  try clear hK4 K3
  refine ret_tt (v := .int .i64 0) rfl (v1 := .int .i64 _) rfl ?_
  refine ⟨hB, ?_⟩
  have hde : didE e 0 = e := if_neg hc0
  unfold didV
  rw [hde, if_neg hc0]
  rfl
 ·
  try with_reducible replace hc0 := of_decide_eq_false hc0
  refine WC_skip ?_
  refine hK4 _ _ ?_
  clear hK4 K3
  refine WC_seq (fun K11 hK12 => ?_)
  refine WC_region ?_
  refine WL_val (dd := some 15) rfl rfl rfl (r_move (v := .int .i64 _) rfl) ?_
  refine WL_val (dd := some 4) rfl rfl rfl (r_assign (v := .int .i64 _) rfl) ?_
  refine WL_val (dd := some 5) rfl rfl rfl (r_assign (v := .int .i64 0) rfl) ?_
  refine WL_nil ?_
  refine hK12 _ _ ?_
  clear hK12 K11
  refine WC_ret ?_
  repeat (first | refine thenQ_ret ?_ | refine blockQ_ret ?_)
  refine ret_tt (v := .int .i64 _) rfl (v1 := .int .i64 0) rfl ?_
  refine ⟨hB, ?_⟩
  have he : e = 0 := Decidable.of_not_not hc0
  subst he
  rfl

set_option maxRecDepth 10000 in
theorem C___family_work__parts (N ba bm bz bw bd R : Nat) (ns : List Nd) (e : Int) (dl : List (Nd × Int)) (f i : Nat) (w : World) (hN0 : N ≤ w.heap.size) (hz : At w bz #[.pointer (some ⟨ba, 0, none⟩)] 100) (hD : Dia 147 150 N ba bm R w ns) (hw : At w bw #[.pointer (some ⟨bz, 0, none⟩), .map (some bd), .int .i64 e] 114) (low : N ≤ bw) (hdn : MapT keyN keyI w bd dl) (lod : N ≤ bd) (hdm : bd ≠ bm) (hf : f < ns.length + 2) (hi : i < 24) :
    FnG Try.prog 126 #[.pointer (some ⟨bw, 0, none⟩), .int .i64 (f : Int), .int .i64 (i : Int)] w fun v w' => ∃ (ns' : List Nd) (e' : Int) (f0 f1 : Nat), v = .tuple #[.int .i64 (f0 : Int), .int .i64 (f1 : Int)] ∧ Dw 150 114 N bw bz bd ba bm w w' ∧ At w' bz #[.pointer (some ⟨ba, 0, none⟩)] 100 ∧ Dia 147 150 N ba bm R w' ns' ∧ At w' bw #[.pointer (some ⟨bz, 0, none⟩), .map (some bd), .int .i64 e'] 114 ∧ MapT keyN keyI w' bd dl ∧ PartW ns ns' R e e' f i f0 f1 := by
 refine FnG_intro (n := 30) Try.func126 rfl rfl (Nat.le_of_ble_eq_true rfl) ?_
 have hB : Below N w w := Below.refl _ _
 have hX : Dw 150 114 N bw bz bd ba bm w w := Dw.refl
 have hwf := hD.wf
 have hroom := hD.room
 have htop := hD.top
 refine WC_seq (fun K1 hK2 => ?_)
 refine WC_region ?_
 refine WL_val (dd := some 6) rfl rfl rfl (r_assign (v := .int .i64 0) rfl) ?_
 refine WL_val (dd := some 7) rfl rfl rfl (r_assign (v := .int .i64 0) rfl) ?_
 refine WL_nil ?_
 refine hK2 _ _ ?_
 clear hK2 K1
 refine WC_seq (fun K3 hK4 => ?_)
 refine WC_draw (fun a b => Dw 150 114 N bw bz bd ba bm a b) tb_mix (fun W5 hE6 => ?_)
 replace hz := hE6.at hz
 replace hw := hE6.at hw
 replace hD := Dia.ext hE6 hD
 replace hdn := hE6.mapT hdn
 replace hX := Dw.trans hX (Dw.ext hE6)
 replace hB := below_ext hB hE6 hN0
 have hwk0 : Wk 114 bw bz bd W5 := ⟨_, hw⟩
 have hS : Dw 150 114 N bw bz bd ba bm W5 W5 := Dw.refl
 refine WT_take (dd := some 8) 0 rfl (by kernel_rfl) (by kernel_rfl) (by kernel_rfl) rfl rfl rfl (fun _wq _hq => r_move (v := .pointer (some ⟨bw, 0, none⟩)) rfl) hS ?_
 refine WT_take (dd := some 9) 1 rfl (by kernel_rfl) (by kernel_rfl) (by kernel_rfl) rfl rfl rfl (fun _wq _hq => r_move (v := .pointer (some ⟨bw, 0, none⟩)) rfl) hS ?_
 refine WT_take (dd := some 10) 2 rfl (by kernel_rfl) (by kernel_rfl) (by kernel_rfl) rfl rfl rfl (fun _wq _hq => r_nilCheck_ptr rfl) hS ?_
 refine WT_take (dd := some 11) 3 rfl (by kernel_rfl) (by kernel_rfl) (by kernel_rfl) rfl rfl rfl (fun _wq _hq => r_fieldAddr (b := _) (o := _) rfl tb_fo114_0) hS ?_
 refine WT_take (dd := some 12) 4 rfl (by kernel_rfl) (by kernel_rfl) (by kernel_rfl) rfl rfl rfl (fun _wq hq => r_load1 (v := .pointer (some ⟨bz, 0, none⟩)) rfl tb_sc24 (Wk.c0 (Dw.wk hq hwk0))) hS ?_
 refine WT_take (dd := some 13) 5 rfl (by kernel_rfl) (by kernel_rfl) (by kernel_rfl) rfl rfl rfl (fun _wq _hq => r_move (v := .int .i64 _) rfl) hS ?_
 refine WT_take (dd := some 14) 6 rfl (by kernel_rfl) (by kernel_rfl) (by kernel_rfl) rfl rfl rfl (fun _wq _hq => r_move (v := .int .i64 _) rfl) hS ?_
 refine WT_take (dd := some 19) 11 rfl (by kernel_rfl) (by kernel_rfl) (by kernel_rfl) rfl rfl rfl (fun _wq _hq => r_move (v := .pointer (some ⟨bw, 0, none⟩)) rfl) hS ?_
 refine WT_take (dd := some 20) 12 rfl (by kernel_rfl) (by kernel_rfl) (by kernel_rfl) rfl rfl rfl (fun _wq _hq => r_move (v := .pointer (some ⟨bw, 0, none⟩)) rfl) hS ?_
 refine WT_take (dd := some 21) 13 rfl (by kernel_rfl) (by kernel_rfl) (by kernel_rfl) rfl rfl rfl (fun _wq _hq => r_nilCheck_ptr rfl) hS ?_
 refine WT_take (dd := some 22) 14 rfl (by kernel_rfl) (by kernel_rfl) (by kernel_rfl) rfl rfl rfl (fun _wq _hq => r_fieldAddr (b := _) (o := _) rfl tb_fo114_0) hS ?_
 refine WT_take (dd := some 23) 15 rfl (by kernel_rfl) (by kernel_rfl) (by kernel_rfl) rfl rfl rfl (fun _wq hq => r_load1 (v := .pointer (some ⟨bz, 0, none⟩)) rfl tb_sc24 (Wk.c0 (Dw.wk hq hwk0))) hS ?_
 refine WT_take (dd := some 24) 16 rfl (by kernel_rfl) (by kernel_rfl) (by kernel_rfl) rfl rfl rfl (fun _wq _hq => r_move (v := .int .i64 _) rfl) hS ?_
 refine WT_take (dd := some 25) 17 rfl (by kernel_rfl) (by kernel_rfl) (by kernel_rfl) rfl rfl rfl (fun _wq _hq => r_move (v := .int .i64 _) rfl) hS ?_
 refine WT_one (dd := some 15) 7 (by kernel_rfl) rfl rfl rfl rfl (Yd.callG (r_call3 tb_c41 (v0 := .pointer (some ⟨bz, 0, none⟩)) rfl (v1 := .int .i64 _) rfl (v2 := .int .i64 _) rfl) (C___zdd_Zdd__Without N ba bm bz R ns f (i : Int) _ (Nat.le_trans hN0 (Below.size hB)) hz hD hf) (fun v1_7 W7 hP1_7 => ⟨.inl (Dw.trans hS (Dw.zdd hD (PE.dx hP1_7) (by decide) (by decide))), ?_⟩))
 replace hS := Dw.trans hS (Dw.zdd hD (PE.dx hP1_7) (by decide) (by decide))
 obtain ⟨ns1_7, id1_7, er1_7, rfl, hx1_7, hDn1_7, hg1_7⟩ := hP1_7
 replace hz := At.dx hD hx1_7 hz (by decide) (by decide)
 replace hw := At.dx hD hx1_7 hw (by decide) (by decide)
 replace hdn := MapT.dx hD hx1_7 hdn hdm
 replace hX := Dw.trans hX (Dw.zdd hD hx1_7 (by decide) (by decide))
 replace hB := Below.dx hB (Nat.le_refl _) hN0 hx1_7
 replace hD := hDn1_7
 have hgA := pe_ok hg1_7 (decide_eq_true (by omega))
 have hf1 : f < ns1_7.length + 2 := by have := pre_len hgA.pre; omega
 refine WT_take (dd := some 16) 8 rfl (by kernel_rfl) (by kernel_rfl) (by kernel_rfl) rfl rfl rfl (fun _wq _hq => r_ext2_0 (h := rfl)) hS ?_
 refine WT_take (dd := some 17) 9 rfl (by kernel_rfl) (by kernel_rfl) (by kernel_rfl) rfl rfl rfl (fun _wq _hq => r_ext2_1 (h := rfl)) hS ?_
 refine WT_one (dd := some 18) 10 (by kernel_rfl) rfl rfl rfl rfl (Yd.callG (r_call3 tb_c91 (v0 := .pointer (some ⟨bw, 0, none⟩)) rfl (v1 := .int .i64 _) rfl (v2 := .int .i64 _) rfl) (C___family_work__did N bw bz bd _ _ _ _ (Nat.le_trans hN0 (Below.size hB)) hw low) (fun v1_10 W9 hP1_10 => ⟨.inl (Dw.trans hS (Dw.did hP1_10.1 low hP1_10.2.1)), ?_⟩))
 replace hS := Dw.trans hS (Dw.did hP1_10.1 low hP1_10.2.1)
 obtain ⟨hG1_10, hw1_10, rfl⟩ := hP1_10
 replace hX := Dw.trans hX (Dw.did hG1_10 low hw1_10)
 have sv11_hz := hz
 have sv11_hw := hw
 have sv11_hdn := hdn
 have sv11_hB := hB
 replace hz := At.grownAt hz hw hG1_10 (by decide)
 replace hD := Dia.grownAt hD hw hG1_10 (by decide) (by decide)
 replace hdn := MapT.grownAt hdn hw hG1_10
 replace hB := below_grown hB hG1_10 hN0 (fun j hj => by cases hj; exact low)
 replace hw := hw1_10
 clear hG1_10
 refine WT_one (dd := some 26) 18 (by kernel_rfl) rfl rfl rfl rfl (Yd.callG (r_call3 tb_c40 (v0 := .pointer (some ⟨bz, 0, none⟩)) rfl (v1 := .int .i64 _) rfl (v2 := .int .i64 _) rfl) (C___zdd_Zdd__With N ba bm bz R ns1_7 f (i : Int) _ (Nat.le_trans hN0 (Below.size hB)) hz hD (by omega)) (fun v1_18 W12 hP1_18 => ⟨.inl (Dw.trans hS (Dw.zdd hD (PE.dx hP1_18) (by decide) (by decide))), ?_⟩))
 replace hS := Dw.trans hS (Dw.zdd hD (PE.dx hP1_18) (by decide) (by decide))
 obtain ⟨ns1_18, id1_18, er1_18, rfl, hx1_18, hDn1_18, hg1_18⟩ := hP1_18
 replace hz := At.dx hD hx1_18 hz (by decide) (by decide)
 replace hw := At.dx hD hx1_18 hw (by decide) (by decide)
 replace hdn := MapT.dx hD hx1_18 hdn hdm
 replace hB := Below.dx hB (Nat.le_refl _) hN0 hx1_18
 replace hX := Dw.trans hX (Dw.zdd hD hx1_18 (by decide) (by decide))
 replace hD := hDn1_18
 refine WT_take (dd := some 27) 19 rfl (by kernel_rfl) (by kernel_rfl) (by kernel_rfl) rfl rfl rfl (fun _wq _hq => r_ext2_0 (h := rfl)) hS ?_
 refine WT_take (dd := some 28) 20 rfl (by kernel_rfl) (by kernel_rfl) (by kernel_rfl) rfl rfl rfl (fun _wq _hq => r_ext2_1 (h := rfl)) hS ?_
 refine WT_one (dd := some 29) 21 (by kernel_rfl) rfl rfl rfl rfl (Yd.callG (r_call3 tb_c91 (v0 := .pointer (some ⟨bw, 0, none⟩)) rfl (v1 := .int .i64 _) rfl (v2 := .int .i64 _) rfl) (C___family_work__did N bw bz bd _ _ _ _ (Nat.le_trans hN0 (Below.size hB)) hw low) (fun v1_21 W14 hP1_21 => ⟨.inl (Dw.trans hS (Dw.did hP1_21.1 low hP1_21.2.1)), ?_⟩))
 replace hS := Dw.trans hS (Dw.did hP1_21.1 low hP1_21.2.1)
 obtain ⟨hG1_21, hw1_21, rfl⟩ := hP1_21
 replace hX := Dw.trans hX (Dw.did hG1_21 low hw1_21)
 replace hz := At.grownAt hz hw hG1_21 (by decide)
 replace hD := Dia.grownAt hD hw hG1_21 (by decide) (by decide)
 replace hdn := MapT.grownAt hdn hw hG1_21
 replace hB := below_grown hB hG1_21 hN0 (fun j hj => by cases hj; exact low)
 replace hw := hw1_21
 clear hG1_21
 refine WT_take (dd := some 6) 22 rfl (by kernel_rfl) (by kernel_rfl) (by kernel_rfl) rfl rfl rfl (fun _wq _hq => r_assign (v := .int .i64 _) rfl) hS ?_
 refine WT_take (dd := some 7) 23 rfl (by kernel_rfl) (by kernel_rfl) (by kernel_rfl) rfl rfl rfl (fun _wq _hq => r_assign (v := .int .i64 _) rfl) hS ?_
 refine WT_done (by kernel_rfl) ?_
 try clear sv11_hz sv11_hdn sv11_hB
 refine hK4 _ _ ?_
 clear hK4 K3
 refine WC_ret ?_
 repeat (first | refine thenQ_ret ?_ | refine blockQ_ret ?_)
 refine ret_tt (v := .int .i64 _) rfl (v1 := .int .i64 _) rfl ?_
 have hgB := pe_ok hg1_18 (decide_eq_true (by omega))
 exact ⟨_, _, _, _, rfl, hX, hz, hD, hw, hdn, part_w hgA hgB hf⟩

set_option maxRecDepth 10000 in
theorem C___family_work__put (N ba bm bz bw bd R : Nat) (ns : List Nd) (e : Int) (dl : List (Nd × Int)) (f i : Nat) (w : World) (hN0 : N ≤ w.heap.size) (hz : At w bz #[.pointer (some ⟨ba, 0, none⟩)] 100) (hD : Dia 147 150 N ba bm R w ns) (hw : At w bw #[.pointer (some ⟨bz, 0, none⟩), .map (some bd), .int .i64 e] 114) (low : N ≤ bw) (hdn : MapT keyN keyI w bd dl) (lod : N ≤ bd) (hdm : bd ≠ bm) (hf : f < ns.length + 2) (hi : i < 24) :
    FnG Try.prog 127 #[.pointer (some ⟨bw, 0, none⟩), .int .i64 (f : Int), .int .i64 (i : Int)] w fun v w' => ∃ (ns' : List Nd) (e' : Int) (id : Nat), v = .int .i64 (id : Int) ∧ Dw 150 114 N bw bz bd ba bm w w' ∧ At w' bz #[.pointer (some ⟨ba, 0, none⟩)] 100 ∧ Dia 147 150 N ba bm R w' ns' ∧ At w' bw #[.pointer (some ⟨bz, 0, none⟩), .map (some bd), .int .i64 e'] 114 ∧ MapT keyN keyI w' bd dl ∧ PutW ns ns' R e e' f i id := by
 refine FnG_intro (n := 29) Try.func127 rfl rfl (Nat.le_of_ble_eq_true rfl) ?_
 have hB : Below N w w := Below.refl _ _
 have hX : Dw 150 114 N bw bz bd ba bm w w := Dw.refl
 have hwf := hD.wf
 have hroom := hD.room
 have htop := hD.top
 have hpl : 2 ^ i ≤ 8388608 := by have := Nat.pow_le_pow_right (show 0 < 2 by decide) (show i ≤ 23 by omega); simpa using this
 refine WC_seq (fun K1 hK2 => ?_)
 refine WC_region ?_
 refine WL_val (dd := some 6) rfl rfl rfl (r_assign (v := .int .i64 0) rfl) ?_
 refine WL_nil ?_
 refine hK2 _ _ ?_
 clear hK2 K1
 refine WC_seq (fun K3 hK4 => ?_)
 refine WC_draw (fun a b => Dw 150 114 N bw bz bd ba bm a b) tb_mix (fun W5 hE6 => ?_)
 replace hz := hE6.at hz
 replace hw := hE6.at hw
 replace hD := Dia.ext hE6 hD
 replace hdn := hE6.mapT hdn
 replace hX := Dw.trans hX (Dw.ext hE6)
 replace hB := below_ext hB hE6 hN0
 have hwk0 : Wk 114 bw bz bd W5 := ⟨_, hw⟩
 have hS : Dw 150 114 N bw bz bd ba bm W5 W5 := Dw.refl
 refine WT_take (dd := some 7) 0 rfl (by kernel_rfl) (by kernel_rfl) (by kernel_rfl) rfl rfl rfl (fun _wq _hq => r_move (v := .pointer (some ⟨bw, 0, none⟩)) rfl) hS ?_
 refine WT_take (dd := some 8) 1 rfl (by kernel_rfl) (by kernel_rfl) (by kernel_rfl) rfl rfl rfl (fun _wq _hq => r_move (v := .pointer (some ⟨bw, 0, none⟩)) rfl) hS ?_
 refine WT_take (dd := some 9) 2 rfl (by kernel_rfl) (by kernel_rfl) (by kernel_rfl) rfl rfl rfl (fun _wq _hq => r_nilCheck_ptr rfl) hS ?_
 refine WT_take (dd := some 10) 3 rfl (by kernel_rfl) (by kernel_rfl) (by kernel_rfl) rfl rfl rfl (fun _wq _hq => r_fieldAddr (b := _) (o := _) rfl tb_fo114_0) hS ?_
 refine WT_take (dd := some 11) 4 rfl (by kernel_rfl) (by kernel_rfl) (by kernel_rfl) rfl rfl rfl (fun _wq hq => r_load1 (v := .pointer (some ⟨bz, 0, none⟩)) rfl tb_sc24 (Wk.c0 (Dw.wk hq hwk0))) hS ?_
 refine WT_take (dd := some 12) 5 rfl (by kernel_rfl) (by kernel_rfl) (by kernel_rfl) rfl rfl rfl (fun _wq _hq => r_move (v := .int .i64 _) rfl) hS ?_
 refine WT_take (dd := some 13) 6 rfl (by kernel_rfl) (by kernel_rfl) (by kernel_rfl) rfl rfl rfl (fun _wq _hq => r_move (v := .pointer (some ⟨bw, 0, none⟩)) rfl) hS ?_
 refine WT_take (dd := some 14) 7 rfl (by kernel_rfl) (by kernel_rfl) (by kernel_rfl) rfl rfl rfl (fun _wq _hq => r_move (v := .pointer (some ⟨bw, 0, none⟩)) rfl) hS ?_
 refine WT_take (dd := some 15) 8 rfl (by kernel_rfl) (by kernel_rfl) (by kernel_rfl) rfl rfl rfl (fun _wq _hq => r_nilCheck_ptr rfl) hS ?_
 refine WT_take (dd := some 16) 9 rfl (by kernel_rfl) (by kernel_rfl) (by kernel_rfl) rfl rfl rfl (fun _wq _hq => r_fieldAddr (b := _) (o := _) rfl tb_fo114_0) hS ?_
 refine WT_take (dd := some 17) 10 rfl (by kernel_rfl) (by kernel_rfl) (by kernel_rfl) rfl rfl rfl (fun _wq hq => r_load1 (v := .pointer (some ⟨bz, 0, none⟩)) rfl tb_sc24 (Wk.c0 (Dw.wk hq hwk0))) hS ?_
 refine WT_take (dd := some 18) 11 rfl (by kernel_rfl) (by kernel_rfl) (by kernel_rfl) rfl rfl rfl (fun _wq _hq => r_move (v := .int .i64 _) rfl) hS ?_
 refine WT_take (dd := some 19) 12 rfl (by kernel_rfl) (by kernel_rfl) (by kernel_rfl) rfl rfl rfl (fun _wq _hq => r_shl (m := 1) rfl rfl (by omega) (by simp only [IntKind.bits]; omega) (by simp only [topN, Int.toNat_natCast, Nat.one_mul]; omega)) hS ?_
 refine WT_one (dd := some 20) 13 (by kernel_rfl) rfl rfl rfl rfl (Y_lit1 (u := .int .i64 _) rfl tb_el22 tb_zs3 rfl (by decide) (by decide) (fun b1_13 W7 hb8 hE9 hm1_13 => ⟨.inl (Dw.trans hS (Dw.ext hE9)), ?_⟩))
 have lo_b1_13 : N ≤ b1_13 := hb8 ▸ (Nat.le_trans hN0 (Below.size hB))
 clear hb8
 have sv10_hz := hz
 have sv10_hw := hw
 have sv10_hdn := hdn
 have sv10_hB := hB
 replace hz := hE9.at hz
 replace hw := hE9.at hw
 replace hD := Dia.ext hE9 hD
 replace hdn := hE9.mapT hdn
 replace hX := Dw.trans hX (Dw.ext hE9)
 replace hB := below_ext hB hE9 hN0
 replace hS := Dw.trans hS (Dw.ext hE9)
 clear hE9
 have ho11 := own_lit1 (enc := encI) (a := ((1 * 2 ^ i : Nat) : Int)) hm1_13 rfl rfl lo_b1_13
 clear hm1_13
 refine WT_one (dd := some 21) 14 (by kernel_rfl) rfl rfl rfl rfl (Yd.callG (r_call2 tb_c32 (v0 := .pointer (some ⟨bz, 0, none⟩)) rfl (v1 := .slice (some ⟨b1_13, 0, none⟩) 1 1) rfl) (C___zdd_Zdd__Of N ba bm bz R ns _ [((1 * 2 ^ i : Nat) : Int)] _ (Nat.le_trans hN0 (Below.size hB)) hz hD ho11.sl (show 1 ≤ 1000000 by decide)) (fun v1_14 W12 hP1_14 => ⟨.inl (Dw.trans hS (Dw.zdd hD (PE.dx hP1_14) (by decide) (by decide))), ?_⟩))
 replace hS := Dw.trans hS (Dw.zdd hD (PE.dx hP1_14) (by decide) (by decide))
 obtain ⟨ns1_14, id1_14, er1_14, rfl, hx1_14, hDn1_14, hg1_14⟩ := hP1_14
 replace hz := At.dx hD hx1_14 hz (by decide) (by decide)
 replace hw := At.dx hD hx1_14 hw (by decide) (by decide)
 replace hdn := MapT.dx hD hx1_14 hdn hdm
 replace hX := Dw.trans hX (Dw.zdd hD hx1_14 (by decide) (by decide))
 replace hB := Below.dx hB (Nat.le_refl _) hN0 hx1_14
 replace ho11 := OwT.dx hD hx1_14 ho11 (by decide) (by decide)
 replace hD := hDn1_14
 have hgA := pe_ok hg1_14 (by rw [Nat.one_mul]; exact one_ok hi)
 have hvA := hgA.valid
 have hf1 : f < ns1_14.length + 2 := by have := pre_len hgA.pre; omega
 have hw1 := hD.wf
 refine WT_take (dd := some 22) 15 rfl (by kernel_rfl) (by kernel_rfl) (by kernel_rfl) rfl rfl rfl (fun _wq _hq => r_ext2_0 (h := rfl)) hS ?_
 refine WT_take (dd := some 23) 16 rfl (by kernel_rfl) (by kernel_rfl) (by kernel_rfl) rfl rfl rfl (fun _wq _hq => r_ext2_1 (h := rfl)) hS ?_
 refine WT_one (dd := some 24) 17 (by kernel_rfl) rfl rfl rfl rfl (Yd.callG (r_call3 tb_c91 (v0 := .pointer (some ⟨bw, 0, none⟩)) rfl (v1 := .int .i64 _) rfl (v2 := .int .i64 _) rfl) (C___family_work__did N bw bz bd _ _ _ _ (Nat.le_trans hN0 (Below.size hB)) hw low) (fun v1_17 W14 hP1_17 => ⟨.inl (Dw.trans hS (Dw.did hP1_17.1 low hP1_17.2.1)), ?_⟩))
 replace hS := Dw.trans hS (Dw.did hP1_17.1 low hP1_17.2.1)
 obtain ⟨hG1_17, hw1_17, rfl⟩ := hP1_17
 replace hX := Dw.trans hX (Dw.did hG1_17 low hw1_17)
 replace hz := At.grownAt hz hw hG1_17 (by decide)
 replace hD := Dia.grownAt hD hw hG1_17 (by decide) (by decide)
 replace hdn := MapT.grownAt hdn hw hG1_17
 replace hB := below_grown hB hG1_17 hN0 (fun j hj => by cases hj; exact low)
 replace ho11 := OwT.grownAt ho11 hw hG1_17 (by decide)
 replace hw := hw1_17
 clear hG1_17
 refine WT_one (dd := some 25) 18 (by kernel_rfl) rfl rfl rfl rfl (Yd.callG (r_call3 tb_c23 (v0 := .pointer (some ⟨bz, 0, none⟩)) rfl (v1 := .int .i64 _) rfl (v2 := .int .i64 _) rfl) (C___zdd_Zdd__Join N ba bm bz R ns1_14 f (didV e er1_14 id1_14) _ (Nat.le_trans hN0 (Below.size hB)) hz hD hf1 (didV_v hvA)) (fun v1_18 W16 hP1_18 => ⟨.inl (Dw.trans hS (Dw.zdd hD (PO.dx hP1_18) (by decide) (by decide))), ?_⟩))
 replace hS := Dw.trans hS (Dw.zdd hD (PO.dx hP1_18) (by decide) (by decide))
 obtain ⟨ns1_18, id1_18, er1_18, rfl, hx1_18, hDn1_18, hg1_18⟩ := hP1_18
 replace hz := At.dx hD hx1_18 hz (by decide) (by decide)
 replace hw := At.dx hD hx1_18 hw (by decide) (by decide)
 replace hdn := MapT.dx hD hx1_18 hdn hdm
 replace hB := Below.dx hB (Nat.le_refl _) hN0 hx1_18
 replace ho11 := OwT.dx hD hx1_18 ho11 (by decide) (by decide)
 replace hX := Dw.trans hX (Dw.zdd hD hx1_18 (by decide) (by decide))
 replace hD := hDn1_18
 refine WT_take (dd := some 26) 19 rfl (by kernel_rfl) (by kernel_rfl) (by kernel_rfl) rfl rfl rfl (fun _wq _hq => r_ext2_0 (h := rfl)) hS ?_
 refine WT_take (dd := some 27) 20 rfl (by kernel_rfl) (by kernel_rfl) (by kernel_rfl) rfl rfl rfl (fun _wq _hq => r_ext2_1 (h := rfl)) hS ?_
 refine WT_one (dd := some 28) 21 (by kernel_rfl) rfl rfl rfl rfl (Yd.callG (r_call3 tb_c91 (v0 := .pointer (some ⟨bw, 0, none⟩)) rfl (v1 := .int .i64 _) rfl (v2 := .int .i64 _) rfl) (C___family_work__did N bw bz bd _ _ _ _ (Nat.le_trans hN0 (Below.size hB)) hw low) (fun v1_21 W18 hP1_21 => ⟨.inl (Dw.trans hS (Dw.did hP1_21.1 low hP1_21.2.1)), ?_⟩))
 replace hS := Dw.trans hS (Dw.did hP1_21.1 low hP1_21.2.1)
 obtain ⟨hG1_21, hw1_21, rfl⟩ := hP1_21
 replace hX := Dw.trans hX (Dw.did hG1_21 low hw1_21)
 replace hz := At.grownAt hz hw hG1_21 (by decide)
 replace hD := Dia.grownAt hD hw hG1_21 (by decide) (by decide)
 replace hdn := MapT.grownAt hdn hw hG1_21
 replace hB := below_grown hB hG1_21 hN0 (fun j hj => by cases hj; exact low)
 replace ho11 := OwT.grownAt ho11 hw hG1_21 (by decide)
 replace hw := hw1_21
 clear hG1_21
 refine WT_take (dd := some 6) 22 rfl (by kernel_rfl) (by kernel_rfl) (by kernel_rfl) rfl rfl rfl (fun _wq _hq => r_assign (v := .int .i64 _) rfl) hS ?_
 refine WT_done (by kernel_rfl) ?_
 try clear sv10_hz sv10_hdn sv10_hB
 refine hK4 _ _ ?_
 clear hK4 K3
 refine WC_ret ?_
 repeat (first | refine thenQ_ret ?_ | refine blockQ_ret ?_)
 refine ret_t (v := .int .i64 _) rfl ?_
 exact ⟨_, _, _, rfl, hX, hz, hD, hw, hdn, put_w hw1 hgA hg1_18 hf hi⟩

end Go.Proofs.Ytpamgfbecgjjeaa
