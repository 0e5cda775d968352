/-
  The walks of what no other member holds, and of dividing.
-/
import Derived.Test.YtpamgfbecgjjeaaProg
import Derived.Test.YtpamgfbecgjjeaaWFam3
import Derived.Test.YtpamgfbecgjjeaaZ18
namespace Go.Proofs.Ytpamgfbecgjjeaa
set_option linter.unusedVariables false
set_option linter.unusedSimpArgs false
open Go Go.RowKit

theorem tb_c101 : callB Try.prog 101 = true := by kernel_rfl
theorem tb_c56 : callB Try.prog 56 = true := by kernel_rfl
theorem tb_c35 : callB Try.prog 35 = true := by kernel_rfl
theorem tb_c37 : callB Try.prog 37 = true := by kernel_rfl
theorem tb_c34 : callB Try.prog 34 = true := by kernel_rfl

def MostAt (n : Nat) : Prop := ∀ (N ba bm bz bw bd R : Nat) (ns : List Nd) (e : Int) (dl : List (Nd × Int)) (f i : Nat) (w : World), (N ≤ w.heap.size) → (At w bz #[.pointer (some ⟨ba, 0, none⟩)] 100) → (Dia 147 150 N ba bm R w ns) → (At w bw #[.pointer (some ⟨bz, 0, none⟩), .map (some bd), .int .i64 e] 114) → (N ≤ bw) → (MapT keyN keyI w bd dl) → (N ≤ bd) → (bd ≠ bm) → (f < ns.length + 2) → (i ≤ 24) → (e = 0 → i ≤ lvl ns f) → 25 - i ≤ n →
  FnG Try.prog 101 #[.pointer (some ⟨bw, 0, none⟩), .int .i64 (f : Int), .int .i64 (i : Int)] w fun v w' => ∃ (ns' : List Nd) (e' : Int) (id : Nat), v = .int .i64 (id : Int) ∧ Dw 150 114 N bw bz bd ba bm w w' ∧ At w' bz #[.pointer (some ⟨ba, 0, none⟩)] 100 ∧ Dia 147 150 N ba bm R w' ns' ∧ At w' bw #[.pointer (some ⟨bz, 0, none⟩), .map (some bd), .int .i64 e'] 114 ∧ MapT keyN keyI w' bd dl ∧ MostW ns ns' R e e' f i id

set_option maxRecDepth 10000 in
theorem C_most (n : Nat) (N ba bm bz bw bd R : Nat) (ns : List Nd) (e : Int) (dl : List (Nd × Int)) (f i : Nat) (w : World) (ih : MostAt n) (hN0 : N ≤ w.heap.size) (hz : At w bz #[.pointer (some ⟨ba, 0, none⟩)] 100) (hD : Dia 147 150 N ba bm R w ns) (hw : At w bw #[.pointer (some ⟨bz, 0, none⟩), .map (some bd), .int .i64 e] 114) (low : N ≤ bw) (hdn : MapT keyN keyI w bd dl) (lod : N ≤ bd) (hdm : bd ≠ bm) (hf : f < ns.length + 2) (hi : i ≤ 24) (lf : e = 0 → i ≤ lvl ns f) (hn : 25 - i ≤ n + 1) :
    FnG Try.prog 101 #[.pointer (some ⟨bw, 0, none⟩), .int .i64 (f : Int), .int .i64 (i : Int)] w fun v w' => ∃ (ns' : List Nd) (e' : Int) (id : Nat), v = .int .i64 (id : Int) ∧ Dw 150 114 N bw bz bd ba bm w w' ∧ At w' bz #[.pointer (some ⟨ba, 0, none⟩)] 100 ∧ Dia 147 150 N ba bm R w' ns' ∧ At w' bw #[.pointer (some ⟨bz, 0, none⟩), .map (some bd), .int .i64 e'] 114 ∧ MapT keyN keyI w' bd dl ∧ MostW ns ns' R e e' f i id := by
 refine FnG_intro (n := 78) Try.func101 rfl rfl (Nat.le_of_ble_eq_true rfl) ?_
 have hB : Below N w w := Below.refl _ _
 have hX : Dw 150 114 N bw bz bd ba bm w w := Dw.refl
 have hwf := hD.wf
 have hroom := hD.room
 have htop := hD.top
 refine WC_seq (fun K1 hK2 => ?_)
 refine WC_region ?_
 refine WL_val (dd := some 6) rfl rfl rfl (r_assign (v := .int .i64 0) rfl) ?_
 refine WL_nil ?_
 refine hK2 _ _ ?_
 clear hK2 K1
 refine WC_seq (fun K3 hK4 => ?_)
 refine WC_seq (fun K5 hK6 => ?_)
 refine WC_region ?_
 refine WL_val (dd := some 12) rfl rfl rfl (r_move (v := .pointer (some ⟨bw, 0, none⟩)) rfl) ?_
 refine WL_val (dd := some 13) rfl rfl rfl (r_nilCheck_ptr rfl) ?_
 refine WL_val (dd := some 14) rfl rfl rfl (r_fieldAddr (b := _) (o := _) rfl tb_fo114_2) ?_
 refine WL_val (dd := some 15) rfl rfl rfl (r_load1 (v := .int .i64 _) rfl tb_sc29 (At.cell hw rfl)) ?_
 refine WL_val (dd := some 16) rfl rfl rfl (r_neq rfl rfl) ?_
 refine WL_split (dd := some 17) rfl rfl rfl (r_move (v := .bool _) rfl) (fun hs1_5 => ?_) (fun hs1_5 => ?_)
 ·
  try with_reducible replace hs1_5 := of_decide_eq_true hs1_5
  refine WL_skip (dd := some 18) rfl rfl rfl ?_
  refine WL_skip (dd := some 19) rfl rfl rfl ?_
  refine WL_val (dd := some 20) rfl rfl rfl (r_pick_t rfl (v := .bool true) rfl) ?_
  refine WL_val (dd := some 21) rfl rfl rfl (r_move (v := .bool true) rfl) ?_
  refine WL_skip (dd := some 22) rfl rfl rfl ?_
  refine WL_skip (dd := some 23) rfl rfl rfl ?_
  refine WL_val (dd := some 24) rfl rfl rfl (r_pick_t rfl (v := .bool true) rfl) ?_
  refine WL_nil ?_
  refine hK6 _ _ ?_
  clear hK6 K5
  refine WC_cond_true rfl ?_
  refine WC_seq (fun K7 hK8 => ?_)
  refine WC_region ?_
  refine WL_val (dd := some 25) rfl rfl rfl (r_move (v := .int .i64 _) rfl) ?_
  refine WL_val (dd := some 6) rfl rfl rfl (r_assign (v := .int .i64 _) rfl) ?_
  refine WL_nil ?_
  refine hK8 _ _ ?_
  clear hK8 K7
  refine WC_ret ?_
  repeat (first | refine thenQ_ret ?_ | refine blockQ_ret ?_)
  try clear hK4 K3
  refine ret_t (v := .int .i64 _) rfl ?_
  exact ⟨ns, e, f, rfl, hX, hz, hD, hw, hdn, most_0 hf (.inl hs1_5)⟩
 ·
  try with_reducible replace hs1_5 := of_decide_eq_false hs1_5
  refine WL_val (dd := some 18) rfl rfl rfl (r_move (v := .int .i64 _) rfl) ?_
  refine WL_val (dd := some 19) rfl rfl rfl (r_lss rfl rfl) ?_
  refine WL_val (dd := some 20) rfl rfl rfl (r_pick_f rfl (v := .bool _) rfl) ?_
  refine WL_split (dd := some 21) rfl rfl rfl (r_move (v := .bool _) rfl) (fun hs1_9 => ?_) (fun hs1_9 => ?_)
  ·
   try with_reducible replace hs1_9 := of_decide_eq_true hs1_9
   refine WL_skip (dd := some 22) rfl rfl rfl ?_
   refine WL_skip (dd := some 23) rfl rfl rfl ?_
   refine WL_val (dd := some 24) rfl rfl rfl (r_pick_t rfl (v := .bool true) rfl) ?_
   refine WL_nil ?_
   refine hK6 _ _ ?_
   clear hK6 K5
   refine WC_cond_true rfl ?_
   refine WC_seq (fun K9 hK10 => ?_)
   refine WC_region ?_
   refine WL_val (dd := some 25) rfl rfl rfl (r_move (v := .int .i64 _) rfl) ?_
   refine WL_val (dd := some 6) rfl rfl rfl (r_assign (v := .int .i64 _) rfl) ?_
   refine WL_nil ?_
   refine hK10 _ _ ?_
   clear hK10 K9
   refine WC_ret ?_
   repeat (first | refine thenQ_ret ?_ | refine blockQ_ret ?_)
   try clear hK4 K3
   refine ret_t (v := .int .i64 _) rfl ?_
   exact ⟨ns, e, f, rfl, hX, hz, hD, hw, hdn, most_0 hf (.inr (by omega))⟩
  ·
   try with_reducible replace hs1_9 := of_decide_eq_false hs1_9
   refine WL_val (dd := some 22) rfl rfl rfl (r_move (v := .int .i64 _) rfl) ?_
   refine WL_val (dd := some 23) rfl rfl rfl (r_eql rfl rfl) ?_
   refine WL_val (dd := some 24) rfl rfl rfl (r_pick_f rfl (v := .bool _) rfl) ?_
   refine WL_nil ?_
   refine hK6 _ _ ?_
   clear hK6 K5
   refine WC_cond (b := _) rfl (fun hc0 => ?_) (fun hc0 => ?_)
   ·
    try with_reducible replace hc0 := of_decide_eq_true hc0
    refine WC_seq (fun K11 hK12 => ?_)
    refine WC_region ?_
    refine WL_val (dd := some 25) rfl rfl rfl (r_move (v := .int .i64 _) rfl) ?_
    refine WL_val (dd := some 6) rfl rfl rfl (r_assign (v := .int .i64 _) rfl) ?_
    refine WL_nil ?_
    refine hK12 _ _ ?_
    clear hK12 K11
    refine WC_ret ?_
    repeat (first | refine thenQ_ret ?_ | refine blockQ_ret ?_)
    try clear hK4 K3
    refine ret_t (v := .int .i64 _) rfl ?_
    have he : e = 0 := Decidable.of_not_not hs1_5
    have := lf he
    have h3 := lvl_lt hwf hf (show 2 ≤ f by omega)
    omega
   ·
    try with_reducible replace hc0 := of_decide_eq_false hc0
    refine WC_skip ?_
    refine hK4 _ _ ?_
    clear hK4 K3
    refine WC_seq (fun K13 hK14 => ?_)
    have he : e = 0 := Decidable.of_not_not hs1_5
    subst he
    have lf0 := lf rfl
    have f2 : 2 ≤ f := by omega
    have h24 : i < 24 := by omega
    refine WC_region ?_
    refine WL_val (dd := some 27) rfl rfl rfl (r_move (v := .pointer (some ⟨bw, 0, none⟩)) rfl) ?_
    refine WL_val (dd := some 28) rfl rfl rfl (r_move (v := .int .i64 _) rfl) ?_
    refine WL_val (dd := some 29) rfl rfl rfl (r_move (v := .int .i64 _) rfl) ?_
    refine WL_callG (dd := some 30) rfl rfl rfl (r_call3 tb_c126 (v0 := .pointer (some ⟨bw, 0, none⟩)) rfl (v1 := .int .i64 _) rfl (v2 := .int .i64 _) rfl) (C___family_work__parts N ba bm bz bw bd R ns 0 dl f i _ (Nat.le_trans hN0 (Below.size hB)) hz hD hw low hdn lod hdm hf h24) (fun v3_3 W15 hP3_3 => ?_)
    obtain ⟨ns3_3, e3_3, f03_3, f13_3, rfl, hx3_3, hz3_3, hD3_3, hw3_3, hdn3_3, hp3_3⟩ := hP3_3
    replace hX := Dw.trans hX hx3_3
    replace hB := Below.dx hB (Nat.le_refl _) hN0 hx3_3.dx
    replace hz := hz3_3
    replace hD := hD3_3
    replace hw := hw3_3
    replace hdn := hdn3_3
    clear hx3_3
    refine WL_val (dd := some 26) rfl rfl rfl (r_move (v := .tuple #[.int .i64 _, .int .i64 _]) rfl) ?_
    refine WL_val (dd := some 31) rfl rfl rfl (r_ext2_0 (h := rfl)) ?_
    refine WL_val (dd := some 32) rfl rfl rfl (r_ext2_1 (h := rfl)) ?_
    refine WL_val (dd := some 7) rfl rfl rfl (r_assign (v := .int .i64 _) rfl) ?_
    refine WL_val (dd := some 8) rfl rfl rfl (r_assign (v := .int .i64 _) rfl) ?_
    refine WL_nil ?_
    refine hK14 _ _ ?_
    clear hK14 K13
    refine WC_seq (fun K17 hK18 => ?_)
    have hw1 := hD.wf
    have hv0 := hp3_3.v0
    have hv1 := hp3_3.v1
    have hlo := most_lo (i := i) hwf hf h24 lf0 hp3_3
    have hl1 := pre_len hp3_3.pre
    refine WC_region ?_
    refine WL_val (dd := some 33) rfl rfl rfl (r_move (v := .pointer (some ⟨bw, 0, none⟩)) rfl) ?_
    refine WL_val (dd := some 34) rfl rfl rfl (r_move (v := .int .i64 _) rfl) ?_
    refine WL_val (dd := some 35) rfl rfl rfl (r_move (v := .int .i64 _) rfl) ?_
    refine WL_val (dd := some 36) rfl rfl rfl (r_addI rfl rfl (by omega) (by omega)) ?_
    refine WL_callG (dd := some 37) rfl rfl rfl (r_call3 tb_c101 (v0 := .pointer (some ⟨bw, 0, none⟩)) rfl (v1 := .int .i64 _) rfl (v2 := .int .i64 _) rfl) (ih N ba bm bz bw bd R ns3_3 e3_3 dl f03_3 (i + 1) _ (Nat.le_trans hN0 (Below.size hB)) hz hD hw low hdn lod hdm hv0 (by omega) (fun z => lev_lvl hw1 hv0 h24 (hlo z).1) (by omega)) (fun v4_4 W19 hP4_4 => ?_)
    obtain ⟨ns4_4, e4_4, id4_4, rfl, hx4_4, hz4_4, hD4_4, hw4_4, hdn4_4, hp4_4⟩ := hP4_4
    replace hX := Dw.trans hX hx4_4
    replace hB := Below.dx hB (Nat.le_refl _) hN0 hx4_4.dx
    replace hz := hz4_4
    replace hD := hD4_4
    replace hw := hw4_4
    replace hdn := hdn4_4
    clear hx4_4
    have hw2 := hD.wf
    have hl2 := pre_len hp4_4.pre
    refine WL_val (dd := some 38) rfl rfl rfl (r_move (v := .pointer (some ⟨bw, 0, none⟩)) rfl) ?_
    refine WL_val (dd := some 39) rfl rfl rfl (r_move (v := .int .i64 _) rfl) ?_
    refine WL_val (dd := some 40) rfl rfl rfl (r_move (v := .int .i64 _) rfl) ?_
    refine WL_val (dd := some 41) rfl rfl rfl (r_addI rfl rfl (by omega) (by omega)) ?_
    refine WL_callG (dd := some 42) rfl rfl rfl (r_call3 tb_c101 (v0 := .pointer (some ⟨bw, 0, none⟩)) rfl (v1 := .int .i64 _) rfl (v2 := .int .i64 _) rfl) (ih N ba bm bz bw bd R ns4_4 e4_4 dl f13_3 (i + 1) _ (Nat.le_trans hN0 (Below.size hB)) hz hD hw low hdn lod hdm (by omega) (by omega) (fun z => lev_lvl hw2 (by omega) h24 (by rw [M_pre hp4_4.pre hv1]; exact (hlo (back_0 hp4_4.err z)).2)) (by omega)) (fun v4_9 W21 hP4_9 => ?_)
    obtain ⟨ns4_9, e4_9, id4_9, rfl, hx4_9, hz4_9, hD4_9, hw4_9, hdn4_9, hp4_9⟩ := hP4_9
    replace hX := Dw.trans hX hx4_9
    replace hB := Below.dx hB (Nat.le_refl _) hN0 hx4_9.dx
    replace hz := hz4_9
    replace hD := hD4_9
    replace hw := hw4_9
    replace hdn := hdn4_9
    clear hx4_9
    refine WL_val (dd := some 9) rfl rfl rfl (r_assign (v := .int .i64 _) rfl) ?_
    refine WL_val (dd := some 10) rfl rfl rfl (r_assign (v := .int .i64 _) rfl) ?_
    refine WL_nil ?_
    refine hK18 _ _ ?_
    clear hK18 K17
    refine WC_seq (fun K23 hK24 => ?_)
    have hw3 := hD.wf
    have hva := hp4_4.v
    have hvb := hp4_9.v
    have hl3 := pre_len hp4_9.pre
    refine WC_region ?_
    refine WL_val (dd := some 43) rfl rfl rfl (r_move (v := .pointer (some ⟨bw, 0, none⟩)) rfl) ?_
    refine WL_val (dd := some 44) rfl rfl rfl (r_move (v := .pointer (some ⟨bw, 0, none⟩)) rfl) ?_
    refine WL_val (dd := some 45) rfl rfl rfl (r_nilCheck_ptr rfl) ?_
    refine WL_val (dd := some 46) rfl rfl rfl (r_fieldAddr (b := _) (o := _) rfl tb_fo114_0) ?_
    refine WL_val (dd := some 47) rfl rfl rfl (r_load1 (v := .pointer (some ⟨bz, 0, none⟩)) rfl tb_sc24 (At.cell hw rfl)) ?_
    refine WL_val (dd := some 48) rfl rfl rfl (r_move (v := .int .i64 _) rfl) ?_
    refine WL_val (dd := some 49) rfl rfl rfl (r_move (v := .int .i64 _) rfl) ?_
    refine WL_callG (dd := some 50) rfl rfl rfl (r_call3 tb_c56 (v0 := .pointer (some ⟨bz, 0, none⟩)) rfl (v1 := .int .i64 _) rfl (v2 := .int .i64 _) rfl) (C_family_Below N ba bm bz R ns4_9 id4_4 id4_9 _ (Nat.le_trans hN0 (Below.size hB)) hz hD (by omega) hvb) (fun v5_7 W25 hP5_7 => ?_)
    obtain ⟨ns5_7, id5_7, er5_7, rfl, hx5_7, hDn5_7, hg5_7⟩ := hP5_7
    replace hz := At.dx hD hx5_7 hz (by decide) (by decide)
    replace hw := At.dx hD hx5_7 hw (by decide) (by decide)
    replace hdn := MapT.dx hD hx5_7 hdn hdm
    replace hX := Dw.trans hX (Dw.zdd hD hx5_7 (by decide) (by decide))
    replace hB := Below.dx hB (Nat.le_refl _) hN0 hx5_7
    replace hD := hDn5_7
    refine WL_val (dd := some 51) rfl rfl rfl (r_ext2_0 (h := rfl)) ?_
    refine WL_val (dd := some 52) rfl rfl rfl (r_ext2_1 (h := rfl)) ?_
    refine WL_callG (dd := some 53) rfl rfl rfl (r_call3 tb_c91 (v0 := .pointer (some ⟨bw, 0, none⟩)) rfl (v1 := .int .i64 _) rfl (v2 := .int .i64 _) rfl) (C___family_work__did N bw bz bd _ _ _ _ (Nat.le_trans hN0 (Below.size hB)) hw low) (fun v5_10 W27 hP5_10 => ?_)
    obtain ⟨hG5_10, hw5_10, rfl⟩ := hP5_10
    replace hX := Dw.trans hX (Dw.did hG5_10 low hw5_10)
    replace hz := At.grownAt hz hw hG5_10 (by decide)
    replace hD := Dia.grownAt hD hw hG5_10 (by decide) (by decide)
    replace hdn := MapT.grownAt hdn hw hG5_10
    replace hB := below_grown hB hG5_10 hN0 (fun j hj => by cases hj; exact low)
    replace hw := hw5_10
    clear hG5_10
    refine WL_val (dd := some 11) rfl rfl rfl (r_assign (v := .int .i64 _) rfl) ?_
    refine WL_nil ?_
    refine hK24 _ _ ?_
    clear hK24 K23
    refine WC_seq (fun K29 hK30 => ?_)
    have hw4 := hD.wf
    have hl4 := pre_len hg5_7.1.pre
    have hvh := hg5_7.1.v
    refine WC_draw (fun a b => Dw 150 114 N bw bz bd ba bm a b) tb_mix (fun W31 hE32 => ?_)
    replace hz := hE32.at hz
    replace hw := hE32.at hw
    replace hD := Dia.ext hE32 hD
    replace hdn := hE32.mapT hdn
    replace hB := below_ext hB hE32 hN0
    replace hX := Dw.trans hX (Dw.ext hE32)
    have hwk0 : Wk 114 bw bz bd W31 := ⟨_, hw⟩
    have hS : Dw 150 114 N bw bz bd ba bm W31 W31 := Dw.refl
    refine WT_take (dd := some 54) 0 rfl (by kernel_rfl) (by kernel_rfl) (by kernel_rfl) rfl rfl rfl (fun _wq _hq => r_move (v := .pointer (some ⟨bw, 0, none⟩)) rfl) hS ?_
    refine WT_take (dd := some 55) 1 rfl (by kernel_rfl) (by kernel_rfl) (by kernel_rfl) rfl rfl rfl (fun _wq _hq => r_move (v := .pointer (some ⟨bw, 0, none⟩)) rfl) hS ?_
    refine WT_take (dd := some 56) 2 rfl (by kernel_rfl) (by kernel_rfl) (by kernel_rfl) rfl rfl rfl (fun _wq _hq => r_nilCheck_ptr rfl) hS ?_
    refine WT_take (dd := some 57) 3 rfl (by kernel_rfl) (by kernel_rfl) (by kernel_rfl) rfl rfl rfl (fun _wq _hq => r_fieldAddr (b := _) (o := _) rfl tb_fo114_0) hS ?_
    refine WT_take (dd := some 58) 4 rfl (by kernel_rfl) (by kernel_rfl) (by kernel_rfl) rfl rfl rfl (fun _wq hq => r_load1 (v := .pointer (some ⟨bz, 0, none⟩)) rfl tb_sc24 (Wk.c0 (Dw.wk hq hwk0))) hS ?_
    refine WT_take (dd := some 59) 5 rfl (by kernel_rfl) (by kernel_rfl) (by kernel_rfl) rfl rfl rfl (fun _wq _hq => r_move (v := .pointer (some ⟨bw, 0, none⟩)) rfl) hS ?_
    refine WT_take (dd := some 60) 6 rfl (by kernel_rfl) (by kernel_rfl) (by kernel_rfl) rfl rfl rfl (fun _wq _hq => r_move (v := .pointer (some ⟨bw, 0, none⟩)) rfl) hS ?_
    refine WT_take (dd := some 61) 7 rfl (by kernel_rfl) (by kernel_rfl) (by kernel_rfl) rfl rfl rfl (fun _wq _hq => r_nilCheck_ptr rfl) hS ?_
    refine WT_take (dd := some 62) 8 rfl (by kernel_rfl) (by kernel_rfl) (by kernel_rfl) rfl rfl rfl (fun _wq _hq => r_fieldAddr (b := _) (o := _) rfl tb_fo114_0) hS ?_
    refine WT_take (dd := some 63) 9 rfl (by kernel_rfl) (by kernel_rfl) (by kernel_rfl) rfl rfl rfl (fun _wq hq => r_load1 (v := .pointer (some ⟨bz, 0, none⟩)) rfl tb_sc24 (Wk.c0 (Dw.wk hq hwk0))) hS ?_
    refine WT_take (dd := some 64) 10 rfl (by kernel_rfl) (by kernel_rfl) (by kernel_rfl) rfl rfl rfl (fun _wq _hq => r_move (v := .int .i64 _) rfl) hS ?_
    refine WT_take (dd := some 65) 11 rfl (by kernel_rfl) (by kernel_rfl) (by kernel_rfl) rfl rfl rfl (fun _wq _hq => r_move (v := .int .i64 _) rfl) hS ?_
    refine WT_take (dd := some 70) 16 rfl (by kernel_rfl) (by kernel_rfl) (by kernel_rfl) rfl rfl rfl (fun _wq _hq => r_move (v := .pointer (some ⟨bw, 0, none⟩)) rfl) hS ?_
    refine WT_take (dd := some 71) 17 rfl (by kernel_rfl) (by kernel_rfl) (by kernel_rfl) rfl rfl rfl (fun _wq _hq => r_move (v := .int .i64 _) rfl) hS ?_
    refine WT_take (dd := some 72) 18 rfl (by kernel_rfl) (by kernel_rfl) (by kernel_rfl) rfl rfl rfl (fun _wq _hq => r_move (v := .int .i64 _) rfl) hS ?_
    refine WT_one (dd := some 66) 12 (by kernel_rfl) rfl rfl rfl rfl (Yd.callG (r_call3 tb_c35 (v0 := .pointer (some ⟨bz, 0, none⟩)) rfl (v1 := .int .i64 _) rfl (v2 := .int .i64 _) rfl) (C___zdd_Zdd__Less N ba bm bz R ns5_7 id4_4 (didV e4_9 er5_7 id5_7) _ (Nat.le_trans hN0 (Below.size hB)) hz hD (by omega) (didV_v hvh)) (fun v6_12 W33 hP6_12 => ⟨.inl (Dw.trans hS (Dw.zdd hD (PO.dx hP6_12) (by decide) (by decide))), ?_⟩))
    replace hS := Dw.trans hS (Dw.zdd hD (PO.dx hP6_12) (by decide) (by decide))
    obtain ⟨ns6_12, id6_12, er6_12, rfl, hx6_12, hDn6_12, hg6_12⟩ := hP6_12
    replace hz := At.dx hD hx6_12 hz (by decide) (by decide)
    replace hw := At.dx hD hx6_12 hw (by decide) (by decide)
    replace hdn := MapT.dx hD hx6_12 hdn hdm
    replace hB := Below.dx hB (Nat.le_refl _) hN0 hx6_12
    replace hX := Dw.trans hX (Dw.zdd hD hx6_12 (by decide) (by decide))
    replace hD := hDn6_12
    have hw5 := hD.wf
    have hl5 := pre_len hg6_12.pre
    have hv5 := hg6_12.valid
    refine WT_take (dd := some 67) 13 rfl (by kernel_rfl) (by kernel_rfl) (by kernel_rfl) rfl rfl rfl (fun _wq _hq => r_ext2_0 (h := rfl)) hS ?_
    refine WT_take (dd := some 68) 14 rfl (by kernel_rfl) (by kernel_rfl) (by kernel_rfl) rfl rfl rfl (fun _wq _hq => r_ext2_1 (h := rfl)) hS ?_
    refine WT_one (dd := some 69) 15 (by kernel_rfl) rfl rfl rfl rfl (Yd.callG (r_call3 tb_c91 (v0 := .pointer (some ⟨bw, 0, none⟩)) rfl (v1 := .int .i64 _) rfl (v2 := .int .i64 _) rfl) (C___family_work__did N bw bz bd _ _ _ _ (Nat.le_trans hN0 (Below.size hB)) hw low) (fun v6_15 W35 hP6_15 => ⟨.inl (Dw.trans hS (Dw.did hP6_15.1 low hP6_15.2.1)), ?_⟩))
    replace hS := Dw.trans hS (Dw.did hP6_15.1 low hP6_15.2.1)
    obtain ⟨hG6_15, hw6_15, rfl⟩ := hP6_15
    replace hX := Dw.trans hX (Dw.did hG6_15 low hw6_15)
    have sv37_hz := hz
    have sv37_hw := hw
    have sv37_hdn := hdn
    have sv37_hB := hB
    replace hz := At.grownAt hz hw hG6_15 (by decide)
    replace hD := Dia.grownAt hD hw hG6_15 (by decide) (by decide)
    replace hdn := MapT.grownAt hdn hw hG6_15
    replace hB := below_grown hB hG6_15 hN0 (fun j hj => by cases hj; exact low)
    replace hw := hw6_15
    clear hG6_15
    refine WT_one (dd := some 73) 19 (by kernel_rfl) rfl rfl rfl rfl (Yd.callG (r_call3 tb_c127 (v0 := .pointer (some ⟨bw, 0, none⟩)) rfl (v1 := .int .i64 _) rfl (v2 := .int .i64 _) rfl) (C___family_work__put N ba bm bz bw bd R ns6_12 (didE (didE e4_9 er5_7) er6_12) dl id4_9 i _ (Nat.le_trans hN0 (Below.size hB)) hz hD hw low hdn lod hdm (by omega) h24) (fun v6_19 W38 hP6_19 => ⟨.inl (Dw.trans hS ((by obtain ⟨_, _, _, _, h, _⟩ := hP6_19; exact h))), ?_⟩))
    replace hS := Dw.trans hS ((by obtain ⟨_, _, _, _, h, _⟩ := hP6_19; exact h))
    obtain ⟨ns6_19, e6_19, id6_19, rfl, hx6_19, hz6_19, hD6_19, hw6_19, hdn6_19, hp6_19⟩ := hP6_19
    replace hB := Below.dx hB (Nat.le_refl _) hN0 hx6_19.dx
    replace hX := Dw.trans hX hx6_19
    replace hz := hz6_19
    replace hD := hD6_19
    replace hw := hw6_19
    replace hdn := hdn6_19
    clear hx6_19
    have hw6 := hD.wf
    have hl6 := pre_len hp6_19.pre
    refine WT_one (dd := some 74) 20 (by kernel_rfl) rfl rfl rfl rfl (Yd.callG (r_call3 tb_c33 (v0 := .pointer (some ⟨bz, 0, none⟩)) rfl (v1 := .int .i64 _) rfl (v2 := .int .i64 _) rfl) (C___zdd_Zdd__Union N ba bm bz R ns6_19 (didV (didE e4_9 er5_7) er6_12 id6_12) id6_19 _ (Nat.le_trans hN0 (Below.size hB)) hz hD (didV_v (by omega)) hp6_19.v) (fun v6_20 W40 hP6_20 => ⟨.inl (Dw.trans hS (Dw.zdd hD (PO.dx hP6_20) (by decide) (by decide))), ?_⟩))
    replace hS := Dw.trans hS (Dw.zdd hD (PO.dx hP6_20) (by decide) (by decide))
    obtain ⟨ns6_20, id6_20, er6_20, rfl, hx6_20, hDn6_20, hg6_20⟩ := hP6_20
    replace hz := At.dx hD hx6_20 hz (by decide) (by decide)
    replace hw := At.dx hD hx6_20 hw (by decide) (by decide)
    replace hdn := MapT.dx hD hx6_20 hdn hdm
    replace hB := Below.dx hB (Nat.le_refl _) hN0 hx6_20
    replace hX := Dw.trans hX (Dw.zdd hD hx6_20 (by decide) (by decide))
    replace hD := hDn6_20
    refine WT_take (dd := some 75) 21 rfl (by kernel_rfl) (by kernel_rfl) (by kernel_rfl) rfl rfl rfl (fun _wq _hq => r_ext2_0 (h := rfl)) hS ?_
    refine WT_take (dd := some 76) 22 rfl (by kernel_rfl) (by kernel_rfl) (by kernel_rfl) rfl rfl rfl (fun _wq _hq => r_ext2_1 (h := rfl)) hS ?_
    refine WT_one (dd := some 77) 23 (by kernel_rfl) rfl rfl rfl rfl (Yd.callG (r_call3 tb_c91 (v0 := .pointer (some ⟨bw, 0, none⟩)) rfl (v1 := .int .i64 _) rfl (v2 := .int .i64 _) rfl) (C___family_work__did N bw bz bd _ _ _ _ (Nat.le_trans hN0 (Below.size hB)) hw low) (fun v6_23 W42 hP6_23 => ⟨.inl (Dw.trans hS (Dw.did hP6_23.1 low hP6_23.2.1)), ?_⟩))
    replace hS := Dw.trans hS (Dw.did hP6_23.1 low hP6_23.2.1)
    obtain ⟨hG6_23, hw6_23, rfl⟩ := hP6_23
    replace hX := Dw.trans hX (Dw.did hG6_23 low hw6_23)
    replace hz := At.grownAt hz hw hG6_23 (by decide)
    replace hD := Dia.grownAt hD hw hG6_23 (by decide) (by decide)
    replace hdn := MapT.grownAt hdn hw hG6_23
    replace hB := below_grown hB hG6_23 hN0 (fun j hj => by cases hj; exact low)
    replace hw := hw6_23
    clear hG6_23
    refine WT_take (dd := some 6) 24 rfl (by kernel_rfl) (by kernel_rfl) (by kernel_rfl) rfl rfl rfl (fun _wq _hq => r_assign (v := .int .i64 _) rfl) hS ?_
    refine WT_done (by kernel_rfl) ?_
    try clear sv37_hz sv37_hdn sv37_hB
    refine hK30 _ _ ?_
    clear hK30 K29
    refine WC_ret ?_
    repeat (first | refine thenQ_ret ?_ | refine blockQ_ret ?_)
    refine ret_t (v := .int .i64 _) rfl ?_
    exact ⟨_, _, _, rfl, hX, hz, hD, hw, hdn, most_all hwf hw1 hw2 hw3 hw4 hw5 hw6 hf f2 h24 lf0 hp3_3 hp4_4 hp4_9 hg5_7 hg6_12 hp6_19 hg6_20⟩

theorem MostAll : ∀ n, MostAt n
  | 0 => fun N ba bm bz bw bd R ns e dl f i w _ _ _ _ _ _ _ _ _ _ _ hn => by omega
  | n + 1 => fun N ba bm bz bw bd R ns e dl f i w => C_most n N ba bm bz bw bd R ns e dl f i w (MostAll n)

set_option maxRecDepth 10000 in
theorem C_family_Most (N ba bm bz R : Nat) (ns : List Nd) (f : Nat) (w : World) (hN0 : N ≤ w.heap.size) (hz : At w bz #[.pointer (some ⟨ba, 0, none⟩)] 100) (hD : Dia 147 150 N ba bm R w ns) (hf : f < ns.length + 2) :
    FnG Try.prog 57 #[.pointer (some ⟨bz, 0, none⟩), .int .i64 (f : Int)] w fun v w' => PW 147 150 N ba bm R w ns (MoA R ns f) v w' := by
 refine FnG_intro (n := 21) Try.func57 rfl rfl (Nat.le_of_ble_eq_true rfl) ?_
 have hB : Below N w w := Below.refl _ _
 have hX : Dx 150 N [ba, bm] w w := Dx.refl
 have hwf := hD.wf
 have hroom := hD.room
 have htop := hD.top
 have hbmlt := hD.hm.lt
 refine WC_seq (fun K1 hK2 => ?_)
 refine WC_region ?_
 refine WL_val (dd := some 4) rfl rfl rfl (r_assign (v := .int .i64 0) rfl) ?_
 refine WL_val (dd := some 5) rfl rfl rfl (r_assign (v := .int .i64 0) rfl) ?_
 refine WL_nil ?_
 refine hK2 _ _ ?_
 clear hK2 K1
 refine WC_seq (fun K3 hK4 => ?_)
 refine WC_seq (fun K5 hK6 => ?_)
 refine WC_region ?_
 refine WL_val (dd := some 7) rfl rfl rfl (r_move (v := .pointer (some ⟨bz, 0, none⟩)) rfl) ?_
 refine WL_val (dd := some 8) rfl rfl rfl (r_move (v := .int .i64 _) rfl) ?_
 refine WL_step (dd := some 9) rfl rfl rfl (Y_lit1 (u := .int .i64 _) rfl tb_el22 tb_zs3 rfl (by decide) (by decide) (fun b1_2 W7 hb8 hE9 hm1_2 => ?_))
 have lo_b1_2 : N ≤ b1_2 := hb8 ▸ (Nat.le_trans hN0 (Below.size hB))
 clear hb8
 replace hz := hE9.at hz
 replace hD := Dia.ext hE9 hD
 replace hX := Dx.trans hX (Dx.ext hE9)
 replace hB := below_ext hB hE9 hN0
 clear hE9
 have ho10 := own_lit1 (enc := encI) (a := _) hm1_2 rfl rfl lo_b1_2
 clear hm1_2
 refine WL_call (dd := some 10) rfl rfl rfl (r_call2 tb_c89 (v0 := .pointer (some ⟨bz, 0, none⟩)) rfl (v1 := .slice (some ⟨b1_2, 0, none⟩) 1 1) rfl) (C_family_there N ba bm bz R ns _ [(f : Int)] _ hz hD ho10.sl (by simp) (by simp; omega)) (fun v1_3 W11 hE12 hP1_3 => ?_)
 have hsz13 := (Nat.le_trans hN0 (Below.size hB))
 replace hz := hE12.at hz
 replace hD := Dia.ext hE12 hD
 replace hX := Dx.trans hX (Dx.ext hE12)
 replace hB := below_ext hB hE12 hN0
 replace ho10 := hE12.ow ho10
 clear hE12
 clear hsz13
 obtain rfl := hP1_3
 refine WL_val (dd := some 11) rfl rfl rfl (r_not rfl) ?_
 refine WL_nil ?_
 refine hK6 _ _ ?_
 clear hK6 K5
 refine WC_cond (b := _) rfl (fun hc0 => ?_) (fun hc0 => ?_)
 ·
  try with_reducible replace hc0 := of_decide_eq_true hc0
  exact absurd (not_t' hc0) (by rw [one_there hf]; decide)
 ·
  try with_reducible replace hc0 := of_decide_eq_false hc0
  refine WC_skip ?_
  refine hK4 _ _ ?_
  clear hK4 K3
  refine WC_seq (fun K14 hK15 => ?_)
  have hszX := hX.size
  refine WC_region ?_
  refine WL_val (dd := some 12) rfl rfl rfl (r_move (v := .pointer (some ⟨bz, 0, none⟩)) rfl) ?_
  refine WL_call (dd := some 13) rfl rfl rfl (r_call1 tb_c90 (v0 := .pointer (some ⟨bz, 0, none⟩)) rfl) (C_family_begin _ _) (fun v3_1 W16 hE17 hP3_1 => ?_)
  have hsz18 := (Nat.le_trans hN0 (Below.size hB))
  replace hz := hE17.at hz
  replace hD := Dia.ext hE17 hD
  replace hX := Dx.trans hX (Dx.ext hE17)
  replace hB := below_ext hB hE17 hN0
  replace ho10 := hE17.ow ho10
  clear hE17
  obtain ⟨bw, bd, rfl, hw, hdn, lbw, lbd⟩ := hP3_1
  have low : N ≤ bw := Nat.le_trans hsz18 lbw
  have lod : N ≤ bd := Nat.le_trans hsz18 lbd
  have hdm : bd ≠ bm := fun e => Nat.lt_irrefl _ (Nat.lt_of_lt_of_le hbmlt (Nat.le_trans hszX (e ▸ lbd)))
  have hnw := Nat.le_trans hszX lbw
  have hnd := Nat.le_trans hszX lbd
  clear hsz18
  refine WL_val (dd := some 6) rfl rfl rfl (r_assign (v := .pointer (some ⟨bw, 0, none⟩)) rfl) ?_
  refine WL_nil ?_
  refine hK15 _ _ ?_
  clear hK15 K14
  refine WC_seq (fun K19 hK20 => ?_)
  refine WC_region ?_
  refine WL_val (dd := some 14) rfl rfl rfl (r_move (v := .pointer (some ⟨bw, 0, none⟩)) rfl) ?_
  refine WL_val (dd := some 15) rfl rfl rfl (r_move (v := .pointer (some ⟨bw, 0, none⟩)) rfl) ?_
  refine WL_val (dd := some 16) rfl rfl rfl (r_move (v := .int .i64 _) rfl) ?_
  refine WL_callG (dd := some 17) rfl rfl rfl (r_call3 tb_c101 (v0 := .pointer (some ⟨bw, 0, none⟩)) rfl (v1 := .int .i64 _) rfl (v2 := .int .i64 0) rfl) (MostAll 25 N ba bm bz bw bd R ns 0 [] f 0 _ (Nat.le_trans hN0 (Below.size hB)) hz hD hw low hdn lod hdm hf (by omega) (fun _ => Nat.zero_le _) (by omega)) (fun v4_3 W21 hP4_3 => ?_)
  obtain ⟨ns4_3, e4_3, id4_3, rfl, hx4_3, hz4_3, hD4_3, hw4_3, hdn4_3, hp4_3⟩ := hP4_3
  replace hX := Dx.new2 hX hnw hnd hx4_3.dx
  replace hB := Below.dx hB (Nat.le_refl _) hN0 hx4_3.dx
  try clear ho10
  replace hz := hz4_3
  replace hD := hD4_3
  replace hw := hw4_3
  replace hdn := hdn4_3
  refine WL_call (dd := some 18) rfl rfl rfl (r_call2 tb_c99 (v0 := .pointer (some ⟨bw, 0, none⟩)) rfl (v1 := .int .i64 _) rfl) (C___family_work__end bw bz bd e4_3 id4_3 _ hw) (fun v4_4 W23 hE24 hP4_4 => ?_)
  have hsz25 := (Nat.le_trans hN0 (Below.size hB))
  replace hz := hE24.at hz
  replace hD := Dia.ext hE24 hD
  replace hX := Dx.trans hX (Dx.ext hE24)
  replace hB := below_ext hB hE24 hN0
  replace hw := hE24.at hw
  replace hdn := hE24.mapT hdn
  clear hE24
  obtain rfl := hP4_4
  clear hsz25
  refine WL_val (dd := some 19) rfl rfl rfl (r_ext2_0 (h := rfl)) ?_
  refine WL_val (dd := some 20) rfl rfl rfl (r_ext2_1 (h := rfl)) ?_
  refine WL_val (dd := some 4) rfl rfl rfl (r_assign (v := .int .i64 _) rfl) ?_
  refine WL_val (dd := some 5) rfl rfl rfl (r_assign (v := .int .i64 _) rfl) ?_
  refine WL_nil ?_
  refine hK20 _ _ ?_
  clear hK20 K19
  refine WC_ret ?_
  repeat (first | refine thenQ_ret ?_ | refine blockQ_ret ?_)
  refine ret_tt (v := .int .i64 _) rfl (v1 := .int .i64 _) rfl ?_
  exact ⟨_, _, _, rfl, hX, hD, moa_end hp4_3⟩

set_option maxRecDepth 20000 in
theorem C_family_Divide (N ba bm bz R : Nat) (ns : List Nd) (f g : Nat) (w : World) (hN0 : N ≤ w.heap.size) (hz : At w bz #[.pointer (some ⟨ba, 0, none⟩)] 100) (hD : Dia 147 150 N ba bm R w ns) (hf : f < ns.length + 2) (hg : g < ns.length + 2) (hg0 : ¬ g = 0) (hgc : (mems ns g).length ≤ 1000) :
    FnG Try.prog 45 #[.pointer (some ⟨bz, 0, none⟩), .int .i64 (f : Int), .int .i64 (g : Int)] w fun v w' => PV 147 150 N ba bm R w ns f g v w' := by
 refine FnG_intro (n := 145) Try.func45 rfl rfl (Nat.le_of_ble_eq_true rfl) ?_
 have hB : Below N w w := Below.refl _ _
 have hX : Dx 150 N [ba, bm] w w := Dx.refl
 have hwf := hD.wf
 have hroom := hD.room
 have htop := hD.top
 have hbmlt := hD.hm.lt
 have hll := srtM_len hwf hg
 have hit := srt_itOk hwf hg
 refine WC_seq (fun K1 hK2 => ?_)
 refine WC_region ?_
 refine WL_val (dd := some 6) rfl rfl rfl (r_assign (v := .int .i64 0) rfl) ?_
 refine WL_val (dd := some 7) rfl rfl rfl (r_assign (v := .int .i64 0) rfl) ?_
 refine WL_val (dd := some 8) rfl rfl rfl (r_assign (v := .int .i64 0) rfl) ?_
 refine WL_nil ?_
 refine hK2 _ _ ?_
 clear hK2 K1
 refine WC_seq (fun K3 hK4 => ?_)
 refine WC_seq (fun K5 hK6 => ?_)
 refine WC_region ?_
 refine WL_val (dd := some 18) rfl rfl rfl (r_move (v := .pointer (some ⟨bz, 0, none⟩)) rfl) ?_
 refine WL_val (dd := some 19) rfl rfl rfl (r_move (v := .int .i64 _) rfl) ?_
 refine WL_val (dd := some 20) rfl rfl rfl (r_move (v := .int .i64 _) rfl) ?_
 refine WL_step (dd := some 21) rfl rfl rfl (Y_lit2 (u0 := .int .i64 _) (u1 := .int .i64 _) rfl rfl tb_el22 tb_zs3 rfl rfl (by decide) (by decide) (fun b1_3 W7 hb8 hE9 hm1_3 => ?_))
 have lo_b1_3 : N ≤ b1_3 := hb8 ▸ (Nat.le_trans hN0 (Below.size hB))
 clear hb8
 replace hz := hE9.at hz
 replace hD := Dia.ext hE9 hD
 replace hX := Dx.trans hX (Dx.ext hE9)
 replace hB := below_ext hB hE9 hN0
 clear hE9
 have ho1_3 := own_lit2 (enc := encI) (sz := 1) (a0 := _) (a1 := _) hm1_3 rfl rfl rfl rfl lo_b1_3
 clear hm1_3
 refine WL_call (dd := some 22) rfl rfl rfl (r_call2 tb_c89 (v0 := .pointer (some ⟨bz, 0, none⟩)) rfl (v1 := .slice (some ⟨b1_3, 0, none⟩) 2 2) rfl) (C_family_there N ba bm bz R ns _ [(f : Int), (g : Int)] _ hz hD ho1_3.sl (by simp) (by simp; omega)) (fun v1_4 W10 hE11 hP1_4 => ?_)
 have hsz12 := (Nat.le_trans hN0 (Below.size hB))
 replace hz := hE11.at hz
 replace hD := Dia.ext hE11 hD
 replace hX := Dx.trans hX (Dx.ext hE11)
 replace hB := below_ext hB hE11 hN0
 replace ho1_3 := hE11.ow ho1_3
 clear hE11
 clear hsz12
 obtain rfl := hP1_4
 refine WL_val (dd := some 23) rfl rfl rfl (r_not rfl) ?_
 refine WL_split (dd := some 24) rfl rfl rfl (r_move (v := .bool _) rfl) (fun hs1_6 => ?_) (fun hs1_6 => ?_)
 ·
  try with_reducible replace hs1_6 := of_decide_eq_true hs1_6
  exact absurd (not_t' hs1_6) (by rw [two_there hf hg]; decide)
 ·
  try with_reducible replace hs1_6 := of_decide_eq_false hs1_6
  refine WL_val (dd := some 25) rfl rfl rfl (r_move (v := .int .i64 _) rfl) ?_
  refine WL_val (dd := some 26) rfl rfl rfl (r_eql rfl rfl) ?_
  refine WL_val (dd := some 27) rfl rfl rfl (r_pick_f rfl (v := .bool _) rfl) ?_
  refine WL_nil ?_
  refine hK6 _ _ ?_
  clear hK6 K5
  refine WC_cond (b := _) rfl (fun hc0 => ?_) (fun hc0 => ?_)
  ·
   try with_reducible replace hc0 := of_decide_eq_true hc0
   omega
  ·
   try with_reducible replace hc0 := of_decide_eq_false hc0
   refine WC_skip ?_
   refine hK4 _ _ ?_
   clear hK4 K3
   refine WC_seq (fun K13 hK14 => ?_)
   have hszX := hX.size
   refine WC_region ?_
   refine WL_val (dd := some 28) rfl rfl rfl (r_move (v := .pointer (some ⟨bz, 0, none⟩)) rfl) ?_
   refine WL_call (dd := some 29) rfl rfl rfl (r_call1 tb_c90 (v0 := .pointer (some ⟨bz, 0, none⟩)) rfl) (C_family_begin _ _) (fun v3_1 W15 hE16 hP3_1 => ?_)
   have hsz17 := (Nat.le_trans hN0 (Below.size hB))
   replace hz := hE16.at hz
   replace hD := Dia.ext hE16 hD
   replace hX := Dx.trans hX (Dx.ext hE16)
   replace hB := below_ext hB hE16 hN0
   replace ho1_3 := hE16.ow ho1_3
   clear hE16
   obtain ⟨bw, bd, rfl, hw, hdn, lbw, lbd⟩ := hP3_1
   have low : N ≤ bw := Nat.le_trans hsz17 lbw
   have lod : N ≤ bd := Nat.le_trans hsz17 lbd
   have hdm : bd ≠ bm := fun e => Nat.lt_irrefl _ (Nat.lt_of_lt_of_le hbmlt (Nat.le_trans hszX (e ▸ lbd)))
   have hnw := Nat.le_trans hszX lbw
   have hnd := Nat.le_trans hszX lbd
   clear hsz17
   refine WL_val (dd := some 9) rfl rfl rfl (r_assign (v := .pointer (some ⟨bw, 0, none⟩)) rfl) ?_
   refine WL_nil ?_
   refine hK14 _ _ ?_
   clear hK14 K13
   refine WC_seq (fun K18 hK19 => ?_)
   refine WC_region ?_
   refine WL_val (dd := some 31) rfl rfl rfl (r_move (v := .pointer (some ⟨bw, 0, none⟩)) rfl) ?_
   refine WL_val (dd := some 32) rfl rfl rfl (r_nilCheck_ptr rfl) ?_
   refine WL_val (dd := some 33) rfl rfl rfl (r_fieldAddr (b := _) (o := _) rfl tb_fo114_0) ?_
   refine WL_val (dd := some 34) rfl rfl rfl (r_load1 (v := .pointer (some ⟨bz, 0, none⟩)) rfl tb_sc24 (At.cell hw rfl)) ?_
   refine WL_val (dd := some 35) rfl rfl rfl (r_move (v := .int .i64 _) rfl) ?_
   refine WL_call (dd := some 36) rfl rfl rfl (r_call2 tb_c37 (v0 := .pointer (some ⟨bz, 0, none⟩)) rfl (v1 := .int .i64 _) rfl) (C___zdd_Zdd__List N ba bm bz R ns (g : Int) _ hz hD (by omega)) (fun v4_5 W20 hE21 hP4_5 => ?_)
   have hlt22 := OwT.lt2 ho1_3
   have hsz23 := (Nat.le_trans hN0 (Below.size hB))
   replace hz := hE21.at hz
   replace hD := Dia.ext hE21 hD
   replace hX := Dx.trans hX (Dx.ext hE21)
   replace hB := below_ext hB hE21 hN0
   replace ho1_3 := hE21.ow ho1_3
   replace hw := hE21.at hw
   replace hdn := hE21.mapT hdn
   clear hE21
   obtain ⟨xl, rfl, hsl, hty⟩ := lpost_ok hwf hg hgc hP4_5
   clear hsz23
   refine WL_val (dd := some 30) rfl rfl rfl (r_move (v := .tuple #[xl, .int .i64 0]) rfl) ?_
   refine WL_val (dd := some 37) rfl rfl rfl (r_ext2_0 (h := rfl)) ?_
   refine WL_val (dd := some 38) rfl rfl rfl (r_ext2_1 (h := rfl)) ?_
   refine WL_val (dd := some 10) rfl rfl rfl (r_assign (v := xl) rfl) ?_
   refine WL_val (dd := some 8) rfl rfl rfl (r_assign (v := .int .i64 0) rfl) ?_
   refine WL_nil ?_
   refine hK19 _ _ ?_
   clear hK19 K18
   refine WC_seq (fun K24 hK25 => ?_)
   refine WC_seq (fun K26 hK27 => ?_)
   refine WC_region ?_
   refine WL_val (dd := some 39) rfl rfl rfl (r_move (v := .int .i64 0) rfl) ?_
   refine WL_val (dd := some 40) rfl rfl rfl (r_neq rfl rfl) ?_
   refine WL_nil ?_
   refine hK27 _ _ ?_
   clear hK27 K26
   refine WC_cond (b := _) rfl (fun hc1 => ?_) (fun hc1 => ?_)
   ·
    try with_reducible replace hc1 := of_decide_eq_true hc1
    exact absurd rfl hc1
   ·
    try with_reducible replace hc1 := of_decide_eq_false hc1
    refine WC_skip ?_
    refine hK25 _ _ ?_
    clear hK25 K24
    refine WC_seq (fun K28 hK29 => ?_)
    refine WC_region ?_
    refine WL_val (dd := some 11) rfl rfl rfl (r_assign (v := .int .i64 0) rfl) ?_
    refine WL_nil ?_
    refine hK29 _ _ ?_
    clear hK29 K28
    refine WC_seq (fun K30 hK31 => ?_)
    refine WC_seq (fun K32 hK33 => ?_)
    refine WC_region ?_
    refine WL_val (dd := some 42) rfl rfl rfl (r_move (v := xl) rfl) ?_
    refine WL_val (dd := some 43) rfl rfl rfl (r_lenS (v := xl) rfl hsl tb_el22) ?_
    refine WL_val (dd := some 44) rfl rfl rfl (r_move (v := .int .i64 0) rfl) ?_
    refine WL_nil ?_
    refine hK33 _ _ ?_
    clear hK33 K32
    refine WC_block ?_
    refine WC_loop (σ := (Nat)) [11, 13, 44, 45, 46, 47, 48, 49, 50, 51] (fun k => [(44, .int .i64 (k : Int)), (11, .int .i64 ((orT (srtM ns g) k : Nat) : Int))]) (fun k W => (At W bz _ 100) ∧ (Dia 147 150 N ba bm R W ns) ∧ (Dx 150 N [ba, bm] w W) ∧ (Below N w W) ∧ (OwT encI 1 3 W N (.slice (some ⟨b1_3, 0, none⟩) 2 2) _) ∧ (At W bw _ 114) ∧ (MapT keyN keyI W bd _) ∧ (SlT encI 1 W xl _) ∧ (TyS 3 W xl (srtM ns g)) ∧ (k ≤ (srtM ns g).length) ∧ (True)) (fun k => (srtM ns g).length - k) (0) ⟨rfl, rfl, trivial⟩ ⟨hz, hD, hX, hB, ho1_3, hw, hdn, hsl, hty, (Nat.zero_le _), trivial⟩ ?_
    clear hz hD hX hB ho1_3 hw hdn hsl hty
    rintro k g35 W34 ⟨hz, hD, hX, hB, ho1_3, hw, hdn, hsl, hty, hk, _⟩ J36 hJ37
    refine WC_seq (fun K38 hK39 => ?_)
    refine WC_region ?_
    refine WL_val (dd := some 45) rfl rfl rfl (r_lss rfl rfl) ?_
    refine WL_nil ?_
    refine hK39 _ _ ?_
    clear hK39 K38
    refine WC_seq (fun K40 hK41 => ?_)
    refine WC_cond (b := _) rfl (fun hc2 => ?_) (fun hc2 => ?_)
    ·
     try with_reducible replace hc2 := of_decide_eq_true hc2
     refine WC_skip ?_
     refine hK41 _ _ ?_
     clear hK41 K40
     refine WC_seq (fun K42 hK43 => ?_)
     refine WC_block ?_
     refine WC_seq (fun K44 hK45 => ?_)
     refine WC_region ?_
     refine WL_val (dd := some 46) rfl rfl rfl (r_idxS (v := xl) rfl hsl rfl tb_el22 (by omega) (by omega)) ?_
     refine WL_val (dd := some 47) rfl rfl rfl (r_load1 (v := .int .i64 _) rfl tb_sc3 (SlT.cell hsl encI_len 0 (by omega) (by omega) 0 rfl)) ?_
     refine WL_val (dd := some 13) rfl rfl rfl (r_assign (v := .int .i64 _) rfl) ?_
     refine WL_nil ?_
     refine hK45 _ _ ?_
     clear hK45 K44
     have hmr := srt_rng hwf hg (k := k) (by omega)
     have hir := srt_orT hwf hg k (by omega)
     refine WC_region ?_
     refine WL_val (dd := some 48) rfl rfl rfl (r_move (v := .int .i64 _) rfl) ?_
     refine WL_val (dd := some 49) rfl rfl rfl (r_move (v := .int .i64 _) rfl) ?_
     refine WL_val (dd := some 50) rfl rfl rfl (r_or (n := ((srtM ns g).getD k 0).toNat) rfl rfl (Int.toNat_of_nonneg hmr.1).symm (by simp only [topN]; omega) (by simp only [topN]; omega)) ?_
     refine WL_val (dd := some 11) rfl rfl rfl (r_assign (v := .int .i64 _) rfl) ?_
     refine WL_nil ?_
     refine hK43 _ _ ?_
     clear hK43 K42
     refine WC_region ?_
     refine WL_val (dd := some 51) rfl rfl rfl (r_addI rfl rfl (by omega) (by omega)) ?_
     refine WL_val (dd := some 44) rfl rfl rfl (r_move (v := .int .i64 _) rfl) ?_
     refine WL_nil ?_
     refine hJ37 _ _ (k + 1) ?_ ?_ ?_ ?_
     · repeat (first | exact agree.mask _ _ _ | refine agree.updo ?_ rfl _ | refine agree.updL ?_ _ rfl | refine agree.maskS rfl ?_)
     · exact ⟨rfl, (congrArg (fun x : Nat => Value.int .i64 (x : Int)) (orT_s (by omega))), trivial⟩
     · exact ⟨hz, hD, hX, hB, ho1_3, hw, hdn, hsl, hty, (by omega), trivial⟩
     · show (srtM ns g).length - (k + 1) < (srtM ns g).length - k; omega
    ·
     try with_reducible replace hc2 := of_decide_eq_false hc2
     refine WC_exit ?_
     refine hK31 _ _ ?_
     clear hK41 K40
     clear hJ37 J36
     clear hK31 K30
     refine WC_seq (fun K46 hK47 => ?_)
     refine WC_seq (fun K48 hK49 => ?_)
     obtain rfl : k = (srtM ns g).length := by omega
     have hir := srt_orT hwf hg _ (Nat.le_refl _)
     refine WC_region ?_
     refine WL_val (dd := some 52) rfl rfl rfl (r_move (v := xl) rfl) ?_
     refine WL_val (dd := some 53) rfl rfl rfl (r_lenS (v := xl) rfl hsl tb_el22) ?_
     refine WL_val (dd := some 54) rfl rfl rfl (r_move (v := .int .i64 0) rfl) ?_
     refine WL_nil ?_
     refine hK49 _ _ ?_
     clear hK49 K48
     refine WC_block ?_
     refine WC_loop (σ := (Nat) × (Nat) × (List Nd) × (Int)) [6, 14, 15, 16, 17, 54, 55, 56, 57, 58, 59, 60, 61, 62, 63, 64, 65, 66, 67, 68, 69, 70, 71, 72, 73, 74, 75, 76, 77, 78, 79, 80, 81, 82, 83, 84, 85, 86, 87, 88, 89, 90, 91, 92, 93, 94, 95, 96, 97, 98, 99, 100, 101, 102, 103, 104, 105, 106, 107, 108, 109, 110, 111, 112] (fun (k, qid, nsc, ec) => [(54, .int .i64 (k : Int)), (6, .int .i64 (qid : Int))]) (fun sg W => match sg with | (k, qid, nsc, ec) => (At W bz _ 100) ∧ (Dx 150 N [ba, bm] w W) ∧ (Below N w W) ∧ (OwT encI 1 3 W N (.slice (some ⟨b1_3, 0, none⟩) 2 2) _) ∧ (MapT keyN keyI W bd _) ∧ (SlT encI 1 W xl _) ∧ (TyS 3 W xl (srtM ns g)) ∧ (Dia 147 150 N ba bm R W nsc) ∧ (At W bw #[.pointer (some ⟨bz, 0, none⟩), .map (some bd), .int .i64 ec] 114) ∧ (k ≤ (srtM ns g).length) ∧ (OutD ns nsc R f g (orT (srtM ns g) (srtM ns g).length) (srtM ns g) k ec qid) ∧ (True)) (fun (k, qid, nsc, ec) => (srtM ns g).length - k) ((0, 0, ns, 0)) ⟨rfl, rfl, trivial⟩ ⟨hz, hX, hB, ho1_3, hdn, hsl, hty, hD, hw, (Nat.zero_le _), (out_start hwf), trivial⟩ ?_
     clear hz hD hX hB ho1_3 hw hdn hsl hty
     rintro ⟨k, qid, nsc, ec⟩ g51 W50 ⟨hz, hX, hB, ho1_3, hdn, hsl, hty, hD, hw, hk, ho, _⟩ J52 hJ53
     refine WC_seq (fun K54 hK55 => ?_)
     refine WC_region ?_
     refine WL_val (dd := some 55) rfl rfl rfl (r_lss rfl rfl) ?_
     refine WL_nil ?_
     refine hK55 _ _ ?_
     clear hK55 K54
     refine WC_seq (fun K56 hK57 => ?_)
     refine WC_cond (b := _) rfl (fun hc3 => ?_) (fun hc3 => ?_)
     ·
      try with_reducible replace hc3 := of_decide_eq_true hc3
      refine WC_skip ?_
      refine hK57 _ _ ?_
      clear hK57 K56
      refine WC_seq (fun K58 hK59 => ?_)
      refine WC_block ?_
      refine WC_seq (fun K60 hK61 => ?_)
      have hmr := srt_rng hwf hg (k := k) (by omega)
      have hmb : ((srtM ns g).getD k 0).toNat < topN .i64 := by simp only [topN]; omega
      have hm0 := hmr.1
      refine WC_region ?_
      refine WL_val (dd := some 56) rfl rfl rfl (r_move (v := .int .i64 _) rfl) ?_
      refine WL_val (dd := some 57) rfl rfl rfl (r_idxS (v := xl) rfl hsl rfl tb_el22 (by omega) (by omega)) ?_
      refine WL_val (dd := some 58) rfl rfl rfl (r_load1 (v := .int .i64 _) rfl tb_sc3 (SlT.cell hsl encI_len 0 (by omega) (by omega) 0 rfl)) ?_
      refine WL_val (dd := some 14) rfl rfl rfl (r_assign (v := .int .i64 _) rfl) ?_
      refine WL_val (dd := some 15) rfl rfl rfl (r_assign (v := .int .i64 _) rfl) ?_
      refine WL_nil ?_
      refine hK61 _ _ ?_
      clear hK61 K60
      refine WC_seq (fun K62 hK63 => ?_)
      refine WC_region ?_
      refine WL_val (dd := some 59) rfl rfl rfl (r_move (v := .int .i64 _) rfl) ?_
      refine WL_val (dd := some 16) rfl rfl rfl (r_assign (v := .int .i64 _) rfl) ?_
      refine WL_nil ?_
      refine hK63 _ _ ?_
      clear hK63 K62
      refine WC_seq (fun K64 hK65 => ?_)
      refine WC_seq (fun K66 hK67 => ?_)
      refine WC_region ?_
      refine WL_val (dd := some 60) rfl rfl rfl (r_move (v := .int .i64 0) rfl) ?_
      refine WL_nil ?_
      refine hK67 _ _ ?_
      clear hK67 K66
      refine WC_block ?_
      refine WC_loop (σ := (Nat) × (Nat) × (List Nd) × (Int)) [16, 17, 60, 61, 62, 63, 64, 65, 66, 67, 68, 69, 70, 71, 72, 73, 74, 75, 76, 77, 78, 79, 80, 81, 82, 83, 84, 85, 86, 87, 88, 89, 90, 91, 92, 93, 94, 95, 96, 97] (fun (j, q2, nsi, ei) => [(60, .int .i64 (j : Int)), (16, .int .i64 (q2 : Int))]) (fun sg W => match sg with | (j, q2, nsi, ei) => (At W bz _ 100) ∧ (Dx 150 N [ba, bm] w W) ∧ (Below N w W) ∧ (OwT encI 1 3 W N (.slice (some ⟨b1_3, 0, none⟩) 2 2) _) ∧ (MapT keyN keyI W bd _) ∧ (SlT encI 1 W xl _) ∧ (TyS 3 W xl (srtM ns g)) ∧ (Dia 147 150 N ba bm R W nsi) ∧ (At W bw #[.pointer (some ⟨bz, 0, none⟩), .map (some bd), .int .i64 ei] 114) ∧ (j ≤ 24) ∧ (InD ns nsc nsi R f g (orT (srtM ns g) (srtM ns g).length) k ((srtM ns g).getD k 0).toNat j ec ei q2) ∧ (True)) (fun (j, q2, nsi, ei) => 24 - j) ((0, f, nsc, ec)) ⟨rfl, rfl, trivial⟩ ⟨hz, hX, hB, ho1_3, hdn, hsl, hty, hD, hw, (Nat.zero_le _), (in_start ho hf _), trivial⟩ ?_
      clear hz hX hB ho1_3 hdn hsl hty hD hw
      rintro ⟨j, q2, nsi, ei⟩ g69 W68 ⟨hz, hX, hB, ho1_3, hdn, hsl, hty, hD, hw, hj, hi, _⟩ J70 hJ71
      refine WC_seq (fun K72 hK73 => ?_)
      refine WC_region ?_
      refine WL_val (dd := some 61) rfl rfl rfl (r_lss rfl rfl) ?_
      refine WL_nil ?_
      refine hK73 _ _ ?_
      clear hK73 K72
      refine WC_seq (fun K74 hK75 => ?_)
      refine WC_cond (b := _) rfl (fun hc4 => ?_) (fun hc4 => ?_)
      ·
       try with_reducible replace hc4 := of_decide_eq_true hc4
       refine WC_skip ?_
       refine hK75 _ _ ?_
       clear hK75 K74
       refine WC_seq (fun K76 hK77 => ?_)
       refine WC_block ?_
       refine WC_seq (fun K78 hK79 => ?_)
       refine WC_region ?_
       refine WL_val (dd := some 62) rfl rfl rfl (r_move (v := .int .i64 _) rfl) ?_
       refine WL_val (dd := some 17) rfl rfl rfl (r_assign (v := .int .i64 _) rfl) ?_
       refine WL_nil ?_
       refine hK79 _ _ ?_
       clear hK79 K78
       refine WC_block ?_
       refine WC_seq (fun K80 hK81 => ?_)
       refine WC_region ?_
       refine WL_val (dd := some 64) rfl rfl rfl (r_move (v := .int .i64 _) rfl) ?_
       refine WL_val (dd := some 65) rfl rfl rfl (r_move (v := .int .i64 _) rfl) ?_
       refine WL_val (dd := some 66) rfl rfl rfl (r_shrI rfl rfl hm0 (by omega) (by omega)) ?_
       refine WL_val (dd := some 67) rfl rfl rfl (r_and (n := 1) rfl rfl rfl (by exact Nat.lt_of_le_of_lt (Nat.div_le_self _ _) hmb) (by decide)) ?_
       refine WL_val (dd := some 68) rfl rfl rfl (r_eql rfl rfl) ?_
       refine WL_val (dd := some 63) rfl rfl rfl (r_assign (v := .bool _) rfl) ?_
       refine WL_nil ?_
       refine hK81 _ _ ?_
       clear hK81 K80
       refine WC_cond (b := _) rfl (fun hc5 => ?_) (fun hc5 => ?_)
       ·
        try with_reducible replace hc5 := of_decide_eq_true hc5
        have hbm := and1_bit.1 hc5
        have hbi := orT_in (show k < (srtM ns g).length by omega) hbm
        have hwi := hD.wf
        refine WC_region ?_
        refine WL_val (dd := some 69) rfl rfl rfl (r_move (v := .pointer (some ⟨bw, 0, none⟩)) rfl) ?_
        refine WL_val (dd := some 70) rfl rfl rfl (r_move (v := .pointer (some ⟨bw, 0, none⟩)) rfl) ?_
        refine WL_val (dd := some 71) rfl rfl rfl (r_nilCheck_ptr rfl) ?_
        refine WL_val (dd := some 72) rfl rfl rfl (r_fieldAddr (b := _) (o := _) rfl tb_fo114_0) ?_
        refine WL_val (dd := some 73) rfl rfl rfl (r_load1 (v := .pointer (some ⟨bz, 0, none⟩)) rfl tb_sc24 (At.cell hw rfl)) ?_
        refine WL_val (dd := some 74) rfl rfl rfl (r_move (v := .int .i64 _) rfl) ?_
        refine WL_val (dd := some 75) rfl rfl rfl (r_move (v := .int .i64 _) rfl) ?_
        refine WL_callG (dd := some 76) rfl rfl rfl (r_call3 tb_c40 (v0 := .pointer (some ⟨bz, 0, none⟩)) rfl (v1 := .int .i64 _) rfl (v2 := .int .i64 _) rfl) (C___zdd_Zdd__With N ba bm bz R nsi q2 (j : Int) _ (Nat.le_trans hN0 (Below.size hB)) hz hD hi.v) (fun v21_7 W82 hP21_7 => ?_)
        obtain ⟨ns21_7, id21_7, er21_7, rfl, hx21_7, hDn21_7, hg21_7⟩ := hP21_7
        replace hz := At.dx hD hx21_7 hz (by decide) (by decide)
        replace hX := Dx.trans hX (hx21_7)
        replace hB := Below.dx hB (Nat.le_refl _) hN0 hx21_7
        replace ho1_3 := OwT.dx hD hx21_7 ho1_3 (by decide) (by decide)
        replace hdn := MapT.dx hD hx21_7 hdn hdm
        replace hsl := SlT.dx hD hx21_7 hty hsl (by decide) (by decide)
        replace hty := TyS.dx hD hx21_7 hty (by decide) (by decide)
        replace hw := At.dx hD hx21_7 hw (by decide) (by decide)
        replace hD := hDn21_7
        have hgp := pe_ok hg21_7 (decide_eq_true (by omega))
        refine WL_val (dd := some 77) rfl rfl rfl (r_ext2_0 (h := rfl)) ?_
        refine WL_val (dd := some 78) rfl rfl rfl (r_ext2_1 (h := rfl)) ?_
        refine WL_callG (dd := some 79) rfl rfl rfl (r_call3 tb_c91 (v0 := .pointer (some ⟨bw, 0, none⟩)) rfl (v1 := .int .i64 _) rfl (v2 := .int .i64 _) rfl) (C___family_work__did N bw bz bd _ _ _ _ (Nat.le_trans hN0 (Below.size hB)) hw low) (fun v21_10 W84 hP21_10 => ?_)
        obtain ⟨hG21_10, hw21_10, rfl⟩ := hP21_10
        replace hX := Dx.new hX hnw (Dx.grown hG21_10 (List.mem_cons_self ..) low)
        replace hz := At.grownAt hz hw hG21_10 (by decide)
        replace hB := below_grown hB hG21_10 hN0 (fun j hj => by cases hj; exact low)
        replace ho1_3 := OwT.grownAt ho1_3 hw hG21_10 (by decide)
        replace hdn := MapT.grownAt hdn hw hG21_10
        replace hsl := SlT.grownTy hty hsl hw hG21_10 (by decide)
        replace hty := TyS.grownAt hty hw hG21_10 (by decide)
        replace hD := Dia.grownAt hD hw hG21_10 (by decide) (by decide)
        replace hw := hw21_10
        clear hG21_10
        refine WL_val (dd := some 16) rfl rfl rfl (r_assign (v := .int .i64 _) rfl) ?_
        refine WL_nil ?_
        refine hK77 _ _ ?_
        clear hK77 K76
        refine WC_region ?_
        refine WL_val (dd := some 97) rfl rfl rfl (r_addI rfl rfl (by omega) (by omega)) ?_
        refine WL_val (dd := some 60) rfl rfl rfl (r_move (v := .int .i64 _) rfl) ?_
        refine WL_nil ?_
        refine hJ71 _ _ ((j + 1, didV ei er21_7 id21_7, ns21_7, didE ei er21_7)) ?_ ?_ ?_ ?_
        · repeat (first | exact agree.mask _ _ _ | refine agree.updo ?_ rfl _ | refine agree.updL ?_ _ rfl | refine agree.maskS rfl ?_)
        · exact ⟨rfl, rfl, trivial⟩
        · exact ⟨hz, hX, hB, ho1_3, hdn, hsl, hty, hD, (by exact hw), (by omega), (in_step hwf hwi hi hit hbi hbm hgp), trivial⟩
        · show 24 - (j + 1) < 24 - j; omega
       ·
        try with_reducible replace hc5 := of_decide_eq_false hc5
        refine WC_seq (fun K86 hK87 => ?_)
        have hbm := Bool.eq_false_iff.2 fun h => hc5 (and1_bit.2 h)
        refine WC_region ?_
        refine WL_val (dd := some 81) rfl rfl rfl (r_move (v := .int .i64 _) rfl) ?_
        refine WL_val (dd := some 82) rfl rfl rfl (r_move (v := .int .i64 _) rfl) ?_
        refine WL_val (dd := some 83) rfl rfl rfl (r_shr rfl rfl (by omega) (by simp only [IntKind.bits]; omega)) ?_
        refine WL_val (dd := some 84) rfl rfl rfl (r_and (n := 1) rfl rfl rfl (by exact Nat.lt_of_le_of_lt (Nat.div_le_self _ _) (by simp only [topN]; omega)) (by decide)) ?_
        refine WL_val (dd := some 85) rfl rfl rfl (r_eql rfl rfl) ?_
        refine WL_val (dd := some 80) rfl rfl rfl (r_assign (v := .bool _) rfl) ?_
        refine WL_nil ?_
        refine hK87 _ _ ?_
        clear hK87 K86
        refine WC_cond (b := _) rfl (fun hc6 => ?_) (fun hc6 => ?_)
        ·
         try with_reducible replace hc6 := of_decide_eq_true hc6
         have hbi := and1_bit.1 hc6
         have hwi := hD.wf
         refine WC_region ?_
         refine WL_val (dd := some 86) rfl rfl rfl (r_move (v := .pointer (some ⟨bw, 0, none⟩)) rfl) ?_
         refine WL_val (dd := some 87) rfl rfl rfl (r_move (v := .pointer (some ⟨bw, 0, none⟩)) rfl) ?_
         refine WL_val (dd := some 88) rfl rfl rfl (r_nilCheck_ptr rfl) ?_
         refine WL_val (dd := some 89) rfl rfl rfl (r_fieldAddr (b := _) (o := _) rfl tb_fo114_0) ?_
         refine WL_val (dd := some 90) rfl rfl rfl (r_load1 (v := .pointer (some ⟨bz, 0, none⟩)) rfl tb_sc24 (At.cell hw rfl)) ?_
         refine WL_val (dd := some 91) rfl rfl rfl (r_move (v := .int .i64 _) rfl) ?_
         refine WL_val (dd := some 92) rfl rfl rfl (r_move (v := .int .i64 _) rfl) ?_
         refine WL_callG (dd := some 93) rfl rfl rfl (r_call3 tb_c41 (v0 := .pointer (some ⟨bz, 0, none⟩)) rfl (v1 := .int .i64 _) rfl (v2 := .int .i64 _) rfl) (C___zdd_Zdd__Without N ba bm bz R nsi q2 (j : Int) _ (Nat.le_trans hN0 (Below.size hB)) hz hD hi.v) (fun v23_7 W88 hP23_7 => ?_)
         obtain ⟨ns23_7, id23_7, er23_7, rfl, hx23_7, hDn23_7, hg23_7⟩ := hP23_7
         replace hz := At.dx hD hx23_7 hz (by decide) (by decide)
         replace hX := Dx.trans hX (hx23_7)
         replace hB := Below.dx hB (Nat.le_refl _) hN0 hx23_7
         replace ho1_3 := OwT.dx hD hx23_7 ho1_3 (by decide) (by decide)
         replace hdn := MapT.dx hD hx23_7 hdn hdm
         replace hsl := SlT.dx hD hx23_7 hty hsl (by decide) (by decide)
         replace hty := TyS.dx hD hx23_7 hty (by decide) (by decide)
         replace hw := At.dx hD hx23_7 hw (by decide) (by decide)
         replace hD := hDn23_7
         have hgp := pe_ok hg23_7 (decide_eq_true (by omega))
         refine WL_val (dd := some 94) rfl rfl rfl (r_ext2_0 (h := rfl)) ?_
         refine WL_val (dd := some 95) rfl rfl rfl (r_ext2_1 (h := rfl)) ?_
         refine WL_callG (dd := some 96) rfl rfl rfl (r_call3 tb_c91 (v0 := .pointer (some ⟨bw, 0, none⟩)) rfl (v1 := .int .i64 _) rfl (v2 := .int .i64 _) rfl) (C___family_work__did N bw bz bd _ _ _ _ (Nat.le_trans hN0 (Below.size hB)) hw low) (fun v23_10 W90 hP23_10 => ?_)
         obtain ⟨hG23_10, hw23_10, rfl⟩ := hP23_10
         replace hX := Dx.new hX hnw (Dx.grown hG23_10 (List.mem_cons_self ..) low)
         replace hz := At.grownAt hz hw hG23_10 (by decide)
         replace hB := below_grown hB hG23_10 hN0 (fun j hj => by cases hj; exact low)
         replace ho1_3 := OwT.grownAt ho1_3 hw hG23_10 (by decide)
         replace hdn := MapT.grownAt hdn hw hG23_10
         replace hsl := SlT.grownTy hty hsl hw hG23_10 (by decide)
         replace hty := TyS.grownAt hty hw hG23_10 (by decide)
         replace hD := Dia.grownAt hD hw hG23_10 (by decide) (by decide)
         replace hw := hw23_10
         clear hG23_10
         refine WL_val (dd := some 16) rfl rfl rfl (r_assign (v := .int .i64 _) rfl) ?_
         refine WL_nil ?_
         refine hK77 _ _ ?_
         clear hK77 K76
         refine WC_region ?_
         refine WL_val (dd := some 97) rfl rfl rfl (r_addI rfl rfl (by omega) (by omega)) ?_
         refine WL_val (dd := some 60) rfl rfl rfl (r_move (v := .int .i64 _) rfl) ?_
         refine WL_nil ?_
         refine hJ71 _ _ ((j + 1, didV ei er23_7 id23_7, ns23_7, didE ei er23_7)) ?_ ?_ ?_ ?_
         · repeat (first | exact agree.mask _ _ _ | refine agree.updo ?_ rfl _ | refine agree.updL ?_ _ rfl | refine agree.maskS rfl ?_)
         · exact ⟨rfl, rfl, trivial⟩
         · exact ⟨hz, hX, hB, ho1_3, hdn, hsl, hty, hD, (by exact hw), (by omega), (in_step hwf hwi hi hit hbi hbm hgp), trivial⟩
         · show 24 - (j + 1) < 24 - j; omega
        ·
         try with_reducible replace hc6 := of_decide_eq_false hc6
         refine WC_skip ?_
         refine hK77 _ _ ?_
         clear hK77 K76
         have hbi := Bool.eq_false_iff.2 fun h => hc6 (and1_bit.2 h)
         refine WC_region ?_
         refine WL_val (dd := some 97) rfl rfl rfl (r_addI rfl rfl (by omega) (by omega)) ?_
         refine WL_val (dd := some 60) rfl rfl rfl (r_move (v := .int .i64 _) rfl) ?_
         refine WL_nil ?_
         refine hJ71 _ _ ((j + 1, q2, nsi, ei)) ?_ ?_ ?_ ?_
         · repeat (first | exact agree.mask _ _ _ | refine agree.updo ?_ rfl _ | refine agree.updL ?_ _ rfl | refine agree.maskS rfl ?_)
         · exact ⟨rfl, rfl, trivial⟩
         · exact ⟨hz, hX, hB, ho1_3, hdn, hsl, hty, hD, (by exact hw), (by omega), (in_skip hi hbm hbi), trivial⟩
         · show 24 - (j + 1) < 24 - j; omega
      ·
       try with_reducible replace hc4 := of_decide_eq_false hc4
       refine WC_exit ?_
       refine hK65 _ _ ?_
       clear hK75 K74
       clear hJ71 J70
       clear hK65 K64
       refine WC_seq (fun K92 hK93 => ?_)
       refine WC_seq (fun K94 hK95 => ?_)
       obtain rfl : j = 24 := by omega
       have hwi := hD.wf
       have hlc := pre_len hi.pre
       have hvo := ho.v
       have hvi := hi.v
       refine WC_region ?_
       refine WL_val (dd := some 98) rfl rfl rfl (r_move (v := .int .i64 _) rfl) ?_
       refine WL_val (dd := some 99) rfl rfl rfl (r_eql rfl rfl) ?_
       refine WL_nil ?_
       refine hK95 _ _ ?_
       clear hK95 K94
       refine WC_cond (b := _) rfl (fun hc7 => ?_) (fun hc7 => ?_)
       ·
        try with_reducible replace hc7 := of_decide_eq_true hc7
        refine WC_region ?_
        refine WL_val (dd := some 100) rfl rfl rfl (r_move (v := .int .i64 _) rfl) ?_
        refine WL_val (dd := some 6) rfl rfl rfl (r_assign (v := .int .i64 _) rfl) ?_
        refine WL_nil ?_
        refine hK93 _ _ ?_
        clear hK93 K92
        refine WC_region ?_
        refine WL_val (dd := some 101) rfl rfl rfl (r_move (v := .pointer (some ⟨bw, 0, none⟩)) rfl) ?_
        refine WL_val (dd := some 102) rfl rfl rfl (r_move (v := .pointer (some ⟨bw, 0, none⟩)) rfl) ?_
        refine WL_val (dd := some 103) rfl rfl rfl (r_nilCheck_ptr rfl) ?_
        refine WL_val (dd := some 104) rfl rfl rfl (r_fieldAddr (b := _) (o := _) rfl tb_fo114_0) ?_
        refine WL_val (dd := some 105) rfl rfl rfl (r_load1 (v := .pointer (some ⟨bz, 0, none⟩)) rfl tb_sc24 (At.cell hw rfl)) ?_
        refine WL_val (dd := some 106) rfl rfl rfl (r_move (v := .int .i64 _) rfl) ?_
        refine WL_val (dd := some 107) rfl rfl rfl (r_move (v := .int .i64 _) rfl) ?_
        refine WL_callG (dd := some 108) rfl rfl rfl (r_call3 tb_c34 (v0 := .pointer (some ⟨bz, 0, none⟩)) rfl (v1 := .int .i64 _) rfl (v2 := .int .i64 _) rfl) (C___zdd_Zdd__Meet N ba bm bz R nsi q2 q2 _ (Nat.le_trans hN0 (Below.size hB)) hz hD (by omega) hvi) (fun v27_7 W96 hP27_7 => ?_)
        obtain ⟨ns27_7, id27_7, er27_7, rfl, hx27_7, hDn27_7, hg27_7⟩ := hP27_7
        replace hz := At.dx hD hx27_7 hz (by decide) (by decide)
        replace hX := Dx.trans hX (hx27_7)
        replace hB := Below.dx hB (Nat.le_refl _) hN0 hx27_7
        replace ho1_3 := OwT.dx hD hx27_7 ho1_3 (by decide) (by decide)
        replace hdn := MapT.dx hD hx27_7 hdn hdm
        replace hsl := SlT.dx hD hx27_7 hty hsl (by decide) (by decide)
        replace hty := TyS.dx hD hx27_7 hty (by decide) (by decide)
        replace hw := At.dx hD hx27_7 hw (by decide) (by decide)
        replace hD := hDn27_7
        refine WL_val (dd := some 109) rfl rfl rfl (r_ext2_0 (h := rfl)) ?_
        refine WL_val (dd := some 110) rfl rfl rfl (r_ext2_1 (h := rfl)) ?_
        refine WL_callG (dd := some 111) rfl rfl rfl (r_call3 tb_c91 (v0 := .pointer (some ⟨bw, 0, none⟩)) rfl (v1 := .int .i64 _) rfl (v2 := .int .i64 _) rfl) (C___family_work__did N bw bz bd _ _ _ _ (Nat.le_trans hN0 (Below.size hB)) hw low) (fun v27_10 W98 hP27_10 => ?_)
        obtain ⟨hG27_10, hw27_10, rfl⟩ := hP27_10
        replace hX := Dx.new hX hnw (Dx.grown hG27_10 (List.mem_cons_self ..) low)
        replace hz := At.grownAt hz hw hG27_10 (by decide)
        replace hB := below_grown hB hG27_10 hN0 (fun j hj => by cases hj; exact low)
        replace ho1_3 := OwT.grownAt ho1_3 hw hG27_10 (by decide)
        replace hdn := MapT.grownAt hdn hw hG27_10
        replace hsl := SlT.grownTy hty hsl hw hG27_10 (by decide)
        replace hty := TyS.grownAt hty hw hG27_10 (by decide)
        replace hD := Dia.grownAt hD hw hG27_10 (by decide) (by decide)
        replace hw := hw27_10
        clear hG27_10
        refine WL_val (dd := some 6) rfl rfl rfl (r_assign (v := .int .i64 _) rfl) ?_
        refine WL_nil ?_
        refine hK59 _ _ ?_
        clear hK59 K58
        refine WC_region ?_
        refine WL_val (dd := some 112) rfl rfl rfl (r_addI rfl rfl (by omega) (by omega)) ?_
        refine WL_val (dd := some 54) rfl rfl rfl (r_move (v := .int .i64 _) rfl) ?_
        refine WL_nil ?_
        refine hJ53 _ _ ((k + 1, didV ei er27_7 id27_7, ns27_7, didE ei er27_7)) ?_ ?_ ?_ ?_
        · repeat (first | exact agree.mask _ _ _ | refine agree.updo ?_ rfl _ | refine agree.updL ?_ _ rfl | refine agree.maskS rfl ?_)
        · exact ⟨rfl, rfl, trivial⟩
        · exact ⟨hz, hX, hB, ho1_3, hdn, hsl, hty, hD, (by exact hw), (by omega), (outD_step (quo := q2) hwf hwi ho hi (by rw [if_pos (by omega)]) hg27_7), trivial⟩
        · show (srtM ns g).length - (k + 1) < (srtM ns g).length - k; omega
       ·
        try with_reducible replace hc7 := of_decide_eq_false hc7
        refine WC_skip ?_
        refine hK93 _ _ ?_
        clear hK93 K92
        refine WC_region ?_
        refine WL_val (dd := some 101) rfl rfl rfl (r_move (v := .pointer (some ⟨bw, 0, none⟩)) rfl) ?_
        refine WL_val (dd := some 102) rfl rfl rfl (r_move (v := .pointer (some ⟨bw, 0, none⟩)) rfl) ?_
        refine WL_val (dd := some 103) rfl rfl rfl (r_nilCheck_ptr rfl) ?_
        refine WL_val (dd := some 104) rfl rfl rfl (r_fieldAddr (b := _) (o := _) rfl tb_fo114_0) ?_
        refine WL_val (dd := some 105) rfl rfl rfl (r_load1 (v := .pointer (some ⟨bz, 0, none⟩)) rfl tb_sc24 (At.cell hw rfl)) ?_
        refine WL_val (dd := some 106) rfl rfl rfl (r_move (v := .int .i64 _) rfl) ?_
        refine WL_val (dd := some 107) rfl rfl rfl (r_move (v := .int .i64 _) rfl) ?_
        refine WL_callG (dd := some 108) rfl rfl rfl (r_call3 tb_c34 (v0 := .pointer (some ⟨bz, 0, none⟩)) rfl (v1 := .int .i64 _) rfl (v2 := .int .i64 _) rfl) (C___zdd_Zdd__Meet N ba bm bz R nsi qid q2 _ (Nat.le_trans hN0 (Below.size hB)) hz hD (by omega) hvi) (fun v27_7 W100 hP27_7 => ?_)
        obtain ⟨ns27_7, id27_7, er27_7, rfl, hx27_7, hDn27_7, hg27_7⟩ := hP27_7
        replace hz := At.dx hD hx27_7 hz (by decide) (by decide)
        replace hX := Dx.trans hX (hx27_7)
        replace hB := Below.dx hB (Nat.le_refl _) hN0 hx27_7
        replace ho1_3 := OwT.dx hD hx27_7 ho1_3 (by decide) (by decide)
        replace hdn := MapT.dx hD hx27_7 hdn hdm
        replace hsl := SlT.dx hD hx27_7 hty hsl (by decide) (by decide)
        replace hty := TyS.dx hD hx27_7 hty (by decide) (by decide)
        replace hw := At.dx hD hx27_7 hw (by decide) (by decide)
        replace hD := hDn27_7
        refine WL_val (dd := some 109) rfl rfl rfl (r_ext2_0 (h := rfl)) ?_
        refine WL_val (dd := some 110) rfl rfl rfl (r_ext2_1 (h := rfl)) ?_
        refine WL_callG (dd := some 111) rfl rfl rfl (r_call3 tb_c91 (v0 := .pointer (some ⟨bw, 0, none⟩)) rfl (v1 := .int .i64 _) rfl (v2 := .int .i64 _) rfl) (C___family_work__did N bw bz bd _ _ _ _ (Nat.le_trans hN0 (Below.size hB)) hw low) (fun v27_10 W102 hP27_10 => ?_)
        obtain ⟨hG27_10, hw27_10, rfl⟩ := hP27_10
        replace hX := Dx.new hX hnw (Dx.grown hG27_10 (List.mem_cons_self ..) low)
        replace hz := At.grownAt hz hw hG27_10 (by decide)
        replace hB := below_grown hB hG27_10 hN0 (fun j hj => by cases hj; exact low)
        replace ho1_3 := OwT.grownAt ho1_3 hw hG27_10 (by decide)
        replace hdn := MapT.grownAt hdn hw hG27_10
        replace hsl := SlT.grownTy hty hsl hw hG27_10 (by decide)
        replace hty := TyS.grownAt hty hw hG27_10 (by decide)
        replace hD := Dia.grownAt hD hw hG27_10 (by decide) (by decide)
        replace hw := hw27_10
        clear hG27_10
        refine WL_val (dd := some 6) rfl rfl rfl (r_assign (v := .int .i64 _) rfl) ?_
        refine WL_nil ?_
        refine hK59 _ _ ?_
        clear hK59 K58
        refine WC_region ?_
        refine WL_val (dd := some 112) rfl rfl rfl (r_addI rfl rfl (by omega) (by omega)) ?_
        refine WL_val (dd := some 54) rfl rfl rfl (r_move (v := .int .i64 _) rfl) ?_
        refine WL_nil ?_
        refine hJ53 _ _ ((k + 1, didV ei er27_7 id27_7, ns27_7, didE ei er27_7)) ?_ ?_ ?_ ?_
        · repeat (first | exact agree.mask _ _ _ | refine agree.updo ?_ rfl _ | refine agree.updL ?_ _ rfl | refine agree.maskS rfl ?_)
        · exact ⟨rfl, rfl, trivial⟩
        · exact ⟨hz, hX, hB, ho1_3, hdn, hsl, hty, hD, (by exact hw), (by omega), (outD_step (quo := qid) hwf hwi ho hi (by rw [if_neg (by omega)]) hg27_7), trivial⟩
        · show (srtM ns g).length - (k + 1) < (srtM ns g).length - k; omega
     ·
      try with_reducible replace hc3 := of_decide_eq_false hc3
      refine WC_exit ?_
      refine hK47 _ _ ?_
      clear hK57 K56
      clear hJ53 J52
      clear hK47 K46
      refine WC_seq (fun K104 hK105 => ?_)
      obtain rfl : k = (srtM ns g).length := by omega
      have hwc := hD.wf
      have hlc := pre_len ho.pre
      refine WC_draw (fun a b => Dw 150 114 N bw bz bd ba bm a b) tb_mix (fun W106 hE107 => ?_)
      replace hz := hE107.at hz
      replace hX := Dx.trans hX (Dx.ext hE107)
      replace hB := below_ext hB hE107 hN0
      replace ho1_3 := hE107.ow ho1_3
      replace hdn := hE107.mapT hdn
      replace hsl := hE107.slT hsl
      replace hty := TyS.ext hE107 hty
      replace hD := Dia.ext hE107 hD
      replace hw := hE107.at hw
      have hwk0 : Wk 114 bw bz bd W106 := ⟨_, hw⟩
      have hS : Dw 150 114 N bw bz bd ba bm W106 W106 := Dw.refl
      refine WT_take (dd := some 113) 0 rfl (by kernel_rfl) (by kernel_rfl) (by kernel_rfl) rfl rfl rfl (fun _wq _hq => r_move (v := .pointer (some ⟨bw, 0, none⟩)) rfl) hS ?_
      refine WT_take (dd := some 114) 1 rfl (by kernel_rfl) (by kernel_rfl) (by kernel_rfl) rfl rfl rfl (fun _wq _hq => r_move (v := .pointer (some ⟨bw, 0, none⟩)) rfl) hS ?_
      refine WT_take (dd := some 115) 2 rfl (by kernel_rfl) (by kernel_rfl) (by kernel_rfl) rfl rfl rfl (fun _wq _hq => r_nilCheck_ptr rfl) hS ?_
      refine WT_take (dd := some 116) 3 rfl (by kernel_rfl) (by kernel_rfl) (by kernel_rfl) rfl rfl rfl (fun _wq _hq => r_fieldAddr (b := _) (o := _) rfl tb_fo114_0) hS ?_
      refine WT_take (dd := some 117) 4 rfl (by kernel_rfl) (by kernel_rfl) (by kernel_rfl) rfl rfl rfl (fun _wq hq => r_load1 (v := .pointer (some ⟨bz, 0, none⟩)) rfl tb_sc24 (Wk.c0 (Dw.wk hq hwk0))) hS ?_
      refine WT_take (dd := some 118) 5 rfl (by kernel_rfl) (by kernel_rfl) (by kernel_rfl) rfl rfl rfl (fun _wq _hq => r_move (v := .int .i64 _) rfl) hS ?_
      refine WT_take (dd := some 119) 6 rfl (by kernel_rfl) (by kernel_rfl) (by kernel_rfl) rfl rfl rfl (fun _wq _hq => r_move (v := .pointer (some ⟨bw, 0, none⟩)) rfl) hS ?_
      refine WT_take (dd := some 120) 7 rfl (by kernel_rfl) (by kernel_rfl) (by kernel_rfl) rfl rfl rfl (fun _wq _hq => r_move (v := .pointer (some ⟨bw, 0, none⟩)) rfl) hS ?_
      refine WT_take (dd := some 121) 8 rfl (by kernel_rfl) (by kernel_rfl) (by kernel_rfl) rfl rfl rfl (fun _wq _hq => r_nilCheck_ptr rfl) hS ?_
      refine WT_take (dd := some 122) 9 rfl (by kernel_rfl) (by kernel_rfl) (by kernel_rfl) rfl rfl rfl (fun _wq _hq => r_fieldAddr (b := _) (o := _) rfl tb_fo114_0) hS ?_
      refine WT_take (dd := some 123) 10 rfl (by kernel_rfl) (by kernel_rfl) (by kernel_rfl) rfl rfl rfl (fun _wq hq => r_load1 (v := .pointer (some ⟨bz, 0, none⟩)) rfl tb_sc24 (Wk.c0 (Dw.wk hq hwk0))) hS ?_
      refine WT_take (dd := some 124) 11 rfl (by kernel_rfl) (by kernel_rfl) (by kernel_rfl) rfl rfl rfl (fun _wq _hq => r_move (v := .int .i64 _) rfl) hS ?_
      refine WT_take (dd := some 125) 12 rfl (by kernel_rfl) (by kernel_rfl) (by kernel_rfl) rfl rfl rfl (fun _wq _hq => r_move (v := .int .i64 _) rfl) hS ?_
      refine WT_one (dd := some 126) 13 (by kernel_rfl) rfl rfl rfl rfl (Yd.callG (r_call3 tb_c23 (v0 := .pointer (some ⟨bz, 0, none⟩)) rfl (v1 := .int .i64 _) rfl (v2 := .int .i64 _) rfl) (C___zdd_Zdd__Join N ba bm bz R nsc qid g _ (Nat.le_trans hN0 (Below.size hB)) hz hD ho.v (by omega)) (fun v29_13 W108 hP29_13 => ⟨.inl (Dw.trans hS (Dw.zdd hD (PO.dx hP29_13) (by decide) (by decide))), ?_⟩))
      replace hS := Dw.trans hS (Dw.zdd hD (PO.dx hP29_13) (by decide) (by decide))
      obtain ⟨ns29_13, id29_13, er29_13, rfl, hx29_13, hDn29_13, hg29_13⟩ := hP29_13
      replace hz := At.dx hD hx29_13 hz (by decide) (by decide)
      replace hX := Dx.trans hX (hx29_13)
      replace hB := Below.dx hB (Nat.le_refl _) hN0 hx29_13
      replace ho1_3 := OwT.dx hD hx29_13 ho1_3 (by decide) (by decide)
      replace hdn := MapT.dx hD hx29_13 hdn hdm
      replace hsl := SlT.dx hD hx29_13 hty hsl (by decide) (by decide)
      replace hty := TyS.dx hD hx29_13 hty (by decide) (by decide)
      replace hw := At.dx hD hx29_13 hw (by decide) (by decide)
      replace hD := hDn29_13
      have hwj := hD.wf
      have hlj := pre_len hg29_13.pre
      refine WT_take (dd := some 127) 14 rfl (by kernel_rfl) (by kernel_rfl) (by kernel_rfl) rfl rfl rfl (fun _wq _hq => r_ext2_0 (h := rfl)) hS ?_
      refine WT_take (dd := some 128) 15 rfl (by kernel_rfl) (by kernel_rfl) (by kernel_rfl) rfl rfl rfl (fun _wq _hq => r_ext2_1 (h := rfl)) hS ?_
      refine WT_one (dd := some 129) 16 (by kernel_rfl) rfl rfl rfl rfl (Yd.callG (r_call3 tb_c91 (v0 := .pointer (some ⟨bw, 0, none⟩)) rfl (v1 := .int .i64 _) rfl (v2 := .int .i64 _) rfl) (C___family_work__did N bw bz bd _ _ _ _ (Nat.le_trans hN0 (Below.size hB)) hw low) (fun v29_16 W110 hP29_16 => ⟨.inl (Dw.trans hS (Dw.did hP29_16.1 low hP29_16.2.1)), ?_⟩))
      replace hS := Dw.trans hS (Dw.did hP29_16.1 low hP29_16.2.1)
      obtain ⟨hG29_16, hw29_16, rfl⟩ := hP29_16
      replace hX := Dx.new hX hnw (Dx.grown hG29_16 (List.mem_cons_self ..) low)
      have sv112_hz := hz
      have sv112_hB := hB
      have sv112_ho1_3 := ho1_3
      have sv112_hdn := hdn
      have sv112_hsl := hsl
      have sv112_hw := hw
      replace hz := At.grownAt hz hw hG29_16 (by decide)
      replace hB := below_grown hB hG29_16 hN0 (fun j hj => by cases hj; exact low)
      replace ho1_3 := OwT.grownAt ho1_3 hw hG29_16 (by decide)
      replace hdn := MapT.grownAt hdn hw hG29_16
      replace hsl := SlT.grownTy hty hsl hw hG29_16 (by decide)
      replace hty := TyS.grownAt hty hw hG29_16 (by decide)
      replace hD := Dia.grownAt hD hw hG29_16 (by decide) (by decide)
      replace hw := hw29_16
      clear hG29_16
      refine WT_one (dd := some 130) 17 (by kernel_rfl) rfl rfl rfl rfl (Yd.callG (r_call3 tb_c35 (v0 := .pointer (some ⟨bz, 0, none⟩)) rfl (v1 := .int .i64 _) rfl (v2 := .int .i64 _) rfl) (C___zdd_Zdd__Less N ba bm bz R ns29_13 f (didV ec er29_13 id29_13) _ (Nat.le_trans hN0 (Below.size hB)) hz hD (by omega) (didV_v hg29_13.valid)) (fun v29_17 W113 hP29_17 => ⟨.inl (Dw.trans hS (Dw.zdd hD (PO.dx hP29_17) (by decide) (by decide))), ?_⟩))
      replace hS := Dw.trans hS (Dw.zdd hD (PO.dx hP29_17) (by decide) (by decide))
      obtain ⟨ns29_17, id29_17, er29_17, rfl, hx29_17, hDn29_17, hg29_17⟩ := hP29_17
      replace hz := At.dx hD hx29_17 hz (by decide) (by decide)
      replace hB := Below.dx hB (Nat.le_refl _) hN0 hx29_17
      replace ho1_3 := OwT.dx hD hx29_17 ho1_3 (by decide) (by decide)
      replace hdn := MapT.dx hD hx29_17 hdn hdm
      replace hsl := SlT.dx hD hx29_17 hty hsl (by decide) (by decide)
      replace hty := TyS.dx hD hx29_17 hty (by decide) (by decide)
      replace hw := At.dx hD hx29_17 hw (by decide) (by decide)
      replace hX := Dx.trans hX (hx29_17)
      replace hD := hDn29_17
      refine WT_take (dd := some 131) 18 rfl (by kernel_rfl) (by kernel_rfl) (by kernel_rfl) rfl rfl rfl (fun _wq _hq => r_ext2_0 (h := rfl)) hS ?_
      refine WT_take (dd := some 132) 19 rfl (by kernel_rfl) (by kernel_rfl) (by kernel_rfl) rfl rfl rfl (fun _wq _hq => r_ext2_1 (h := rfl)) hS ?_
      refine WT_one (dd := some 133) 20 (by kernel_rfl) rfl rfl rfl rfl (Yd.callG (r_call3 tb_c91 (v0 := .pointer (some ⟨bw, 0, none⟩)) rfl (v1 := .int .i64 _) rfl (v2 := .int .i64 _) rfl) (C___family_work__did N bw bz bd _ _ _ _ (Nat.le_trans hN0 (Below.size hB)) hw low) (fun v29_20 W115 hP29_20 => ⟨.inl (Dw.trans hS (Dw.did hP29_20.1 low hP29_20.2.1)), ?_⟩))
      replace hS := Dw.trans hS (Dw.did hP29_20.1 low hP29_20.2.1)
      obtain ⟨hG29_20, hw29_20, rfl⟩ := hP29_20
      replace hX := Dx.new hX hnw (Dx.grown hG29_20 (List.mem_cons_self ..) low)
      replace hz := At.grownAt hz hw hG29_20 (by decide)
      replace hB := below_grown hB hG29_20 hN0 (fun j hj => by cases hj; exact low)
      replace ho1_3 := OwT.grownAt ho1_3 hw hG29_20 (by decide)
      replace hdn := MapT.grownAt hdn hw hG29_20
      replace hsl := SlT.grownTy hty hsl hw hG29_20 (by decide)
      replace hty := TyS.grownAt hty hw hG29_20 (by decide)
      replace hD := Dia.grownAt hD hw hG29_20 (by decide) (by decide)
      replace hw := hw29_20
      clear hG29_20
      refine WT_take (dd := some 7) 21 rfl (by kernel_rfl) (by kernel_rfl) (by kernel_rfl) rfl rfl rfl (fun _wq _hq => r_assign (v := .int .i64 _) rfl) hS ?_
      refine WT_done (by kernel_rfl) ?_
      try clear sv112_hz sv112_hB sv112_ho1_3 sv112_hdn sv112_hsl
      refine hK105 _ _ ?_
      clear hK105 K104
      refine WC_seq (fun K117 hK118 => ?_)
      refine WC_seq (fun K119 hK120 => ?_)
      have hdv := div_all hwf hwc hwj hf hg hg0 hit ho hg29_13 hg29_17
      refine WC_region ?_
      refine WL_val (dd := some 134) rfl rfl rfl (r_move (v := .pointer (some ⟨bw, 0, none⟩)) rfl) ?_
      refine WL_val (dd := some 135) rfl rfl rfl (r_nilCheck_ptr rfl) ?_
      refine WL_val (dd := some 136) rfl rfl rfl (r_fieldAddr (b := _) (o := _) rfl tb_fo114_2) ?_
      refine WL_val (dd := some 137) rfl rfl rfl (r_load1 (v := .int .i64 _) rfl tb_sc29 (At.cell hw rfl)) ?_
      refine WL_val (dd := some 138) rfl rfl rfl (r_neq rfl rfl) ?_
      refine WL_nil ?_
      refine hK120 _ _ ?_
      clear hK120 K119
      refine WC_cond (b := _) rfl (fun hc8 => ?_) (fun hc8 => ?_)
      ·
       try with_reducible replace hc8 := of_decide_eq_true hc8
       refine WC_seq (fun K121 hK122 => ?_)
       refine WC_draw Ext tb_mix (fun W123 hE124 => ?_)
       replace hz := hE124.at hz
       replace hB := below_ext hB hE124 hN0
       replace ho1_3 := hE124.ow ho1_3
       replace hdn := hE124.mapT hdn
       replace hsl := hE124.slT hsl
       replace hty := TyS.ext hE124 hty
       replace hD := Dia.ext hE124 hD
       replace hw := hE124.at hw
       replace hX := Dx.trans hX (Dx.ext hE124)
       have hS := Ext.refl W123
       refine WT_take (dd := some 139) 0 rfl (by kernel_rfl) (by kernel_rfl) (by kernel_rfl) rfl rfl rfl (fun _wq _hq => r_move (v := .pointer (some ⟨bw, 0, none⟩)) rfl) hS ?_
       refine WT_take (dd := some 140) 1 rfl (by kernel_rfl) (by kernel_rfl) (by kernel_rfl) rfl rfl rfl (fun _wq _hq => r_nilCheck_ptr rfl) hS ?_
       refine WT_take (dd := some 141) 2 rfl (by kernel_rfl) (by kernel_rfl) (by kernel_rfl) rfl rfl rfl (fun _wq _hq => r_fieldAddr (b := _) (o := _) rfl tb_fo114_2) hS ?_
       refine WT_take (dd := some 142) 3 rfl (by kernel_rfl) (by kernel_rfl) (by kernel_rfl) rfl rfl rfl (fun _wq hq => r_load1 (v := .int .i64 _) rfl tb_sc29 (At.cell (hq.at hw) rfl)) hS ?_
       refine WT_take (dd := some 6) 4 rfl (by kernel_rfl) (by kernel_rfl) (by kernel_rfl) rfl rfl rfl (fun _wq _hq => r_assign (v := .int .i64 0) rfl) hS ?_
       refine WT_take (dd := some 7) 5 rfl (by kernel_rfl) (by kernel_rfl) (by kernel_rfl) rfl rfl rfl (fun _wq _hq => r_assign (v := .int .i64 0) rfl) hS ?_
       refine WT_take (dd := some 8) 6 rfl (by kernel_rfl) (by kernel_rfl) (by kernel_rfl) rfl rfl rfl (fun _wq _hq => r_assign (v := .int .i64 _) rfl) hS ?_
       refine WT_done (by kernel_rfl) ?_
       refine hK122 _ _ ?_
       clear hK122 K121
       refine WC_ret ?_
       repeat (first | refine thenQ_ret ?_ | refine blockQ_ret ?_)
       try clear hK118 K117
       refine ret_ttt (v := .int .i64 0) rfl (v1 := .int .i64 0) rfl (v2 := .int .i64 _) rfl ?_
       exact ⟨_, 0, 0, _, rfl, hX, hD, div_full hc8 hdv⟩
      ·
       try with_reducible replace hc8 := of_decide_eq_false hc8
       refine WC_skip ?_
       refine hK118 _ _ ?_
       clear hK118 K117
       refine WC_seq (fun K125 hK126 => ?_)
       refine WC_region ?_
       refine WL_val (dd := some 143) rfl rfl rfl (r_move (v := .int .i64 _) rfl) ?_
       refine WL_val (dd := some 144) rfl rfl rfl (r_move (v := .int .i64 _) rfl) ?_
       refine WL_val (dd := some 6) rfl rfl rfl (r_assign (v := .int .i64 _) rfl) ?_
       refine WL_val (dd := some 7) rfl rfl rfl (r_assign (v := .int .i64 _) rfl) ?_
       refine WL_val (dd := some 8) rfl rfl rfl (r_assign (v := .int .i64 0) rfl) ?_
       refine WL_nil ?_
       refine hK126 _ _ ?_
       clear hK126 K125
       refine WC_ret ?_
       repeat (first | refine thenQ_ret ?_ | refine blockQ_ret ?_)
       refine ret_ttt (v := .int .i64 _) rfl (v1 := .int .i64 _) rfl (v2 := .int .i64 0) rfl ?_
       exact ⟨_, _, _, 0, rfl, hX, hD, div_ok (Decidable.of_not_not hc8) hdv⟩

end Go.Proofs.Ytpamgfbecgjjeaa
