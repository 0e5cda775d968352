/-
  The walk through two families, item by item.
-/
import Derived.Test.YtpamgfbecgjjeaaProg
import Derived.Test.YtpamgfbecgjjeaaWFam
import Derived.Test.YtpamgfbecgjjeaaZ11
namespace Go.Proofs.Ytpamgfbecgjjeaa
set_option linter.unusedVariables false
set_option linter.unusedSimpArgs false
open Go Go.RowKit

theorem tb_z153 : zeroI Try.prog 153 = some (.agg #[.int .i64 0, .int .i64 0, .int .i64 0]) := by kernel_rfl
theorem tb_build153_0_1_2 {f : Nat → Value} {w : World} {d : Option Nat} {ty : TypeId} {ps : String} {af : Array Edge} {g : Option (Nat × Bool)} {x0 x1 x2 : Operand} {c0_0 c1_0 c2_0 : Value} (h0 : evF f x0 = c0_0) (k0 : c0_0.cells = #[c0_0]) (h1 : evF f x1 = c1_0) (k1 : c1_0.cells = #[c1_0]) (h2 : evF f x2 = c2_0) (k2 : c2_0.cells = #[c2_0]) :
    (execOp (evF f) ⟨d, .build 153 #[(0, x0), (1, x1), (2, x2)], ty, ps, af, g⟩).run Try.prog w = .ok (.value (.agg #[c0_0, c1_0, c2_0])) w := by
  obtain ⟨i0, hi0, hz0⟩ := Option.bind_eq_some_iff.1 (show (Try.prog.info? 153).bind (·.zero) = _ from tb_z153)
  obtain ⟨j3, hj3, hs3⟩ := Option.map_eq_some_iff.1 tb_size3
  simp [execOp, h0, k0, h1, k1, h2, k2, Instr.build, zeroValue, typeInfo, sizeOf, hi0, hz0, run_underlying Try.underlying153, Instr.fill, cells_agg, hj3, hs3]
theorem tb_ag153 : aggN Try.prog 153 = some 3 := by kernel_rfl
theorem tb_fo114_1 : fieldO Try.prog 114 1 = some 1 := by kernel_rfl
theorem tb_sc112 : scalarB Try.prog 112 = true := by kernel_rfl
theorem tb_mp112 : isMap Try.prog 112 = some (153, 3) := by kernel_rfl
theorem tb_eq153 {f : Nat → Value} {w : World} {d : Option Nat} {ty t2 : TypeId} {ps : String} {af : Array Edge} {g : Option (Nat × Bool)} {x y : Operand} {a0 a1 a2 b0 b1 b2 : Int} (hx : evF f x = .agg #[.int .i64 a0, .int .i64 a1, .int .i64 a2]) (hy : evF f y = .agg #[.int .i64 b0, .int .i64 b1, .int .i64 b2]) :
    (execOp (evF f) ⟨d, .binOp .eql 153 x y t2, ty, ps, af, g⟩).run Try.prog w = .ok (.value (.bool (decide ((a0 = b0 ∧ a1 = b1 ∧ a2 = b2))))) w := by
  have hg : Try.prog.eqGuardType Try.prog.depth 153 = false := by kernel_rfl
  have hp153 : Try.prog.stoodInHeld 153 = false := by kernel_rfl
  have hu153 : Try.prog.underlying 153 = some (.struct (Try.prog.fieldsOf 153)) := by kernel_rfl
  simp only [execOp, hx, hy, Sem.run_bind, run_eqGuard_agg _ _ _ _ _ _ _ hg, Result.andThen_ok, run_eql_struct, run_equalIn_agg _ 9999 153 _ _ hu153 hp153]
  simp only [Program.fieldsOf, Try.underlying153]
  simp [Op.eqFields, part, isAgg, run_equalIn_int _ 9998 3 _ _ _ _ Try.underlying3, run_underlying Try.underlying3]
  by_cases q0 : a0 = b0 <;> by_cases q1 : a1 = b1 <;> by_cases q2 : a2 = b2 <;> simp [q0, q1, q2]
theorem tb_key153 : KeyOk Try.prog 153 (fun v => ∃ a : Nd, v = keyN a) := by
  refine keyOk_of Try.underlying153 ?_ ?_ ?_ ?_
  · rintro w _ _ ⟨a, rfl⟩ ⟨c, rfl⟩
    have hg : Try.prog.eqGuardType Try.prog.depth 153 = false := by kernel_rfl
    exact ⟨_, equal_agg hg (tb_eq153 rfl rfl), by rw [decide_eq_true_eq]; constructor <;> intro h <;> simpa [keyN] using h⟩
  · rintro _ _ ⟨a, rfl⟩ ⟨c, rfl⟩
    exact .inl rfl
  · rintro w em _ ⟨a, rfl⟩
    have h2 : ∀ k, (Instr.checkKey em (k + 1 + 1 + 1) 153 (keyN a)).run Try.prog w = .ok () w := fun k => by
      simp [keyN, Instr.checkKey, part, isAgg, run_underlying Try.underlying153, run_underlying Try.underlying3]
    exact h2 9997
  · rintro _ ⟨a, rfl⟩
    simp [keyN, Instr.sameBits]
theorem tb_c126 : callB Try.prog 126 = true := by kernel_rfl
theorem tb_c100 : callB Try.prog 100 = true := by kernel_rfl
theorem tb_c127 : callB Try.prog 127 = true := by kernel_rfl

def WalkAt (n : Nat) : Prop := ∀ (ab : Bool) (N ba bm bz bw bd R : Nat) (ns : List Nd) (e : Int) (dl : List (Nd × Int)) (f g i : Nat) (w : World), (N ≤ w.heap.size) → (At w bz #[.pointer (some ⟨ba, 0, none⟩)] 100) → (Dia 147 150 N ba bm R w ns) → (At w bw #[.pointer (some ⟨bz, 0, none⟩), .map (some bd), .int .i64 e] 114) → (N ≤ bw) → (MapT keyN keyI w bd dl) → (N ≤ bd) → (bd ≠ bm) → (f < ns.length + 2) → (g < ns.length + 2) → (i ≤ 24) → (e = 0 → i ≤ lvl ns f) → (e = 0 → i ≤ lvl ns g) → (e = 0 → DoneW ab ns dl) → 25 - i ≤ n →
  FnG Try.prog 100 #[.pointer (some ⟨bw, 0, none⟩), .int .i64 (f : Int), .int .i64 (g : Int), .int .i64 (i : Int), .bool ab] w fun v w' => ∃ (ns' : List Nd) (e' : Int) (id : Nat) (dl' : List (Nd × Int)), v = .int .i64 (id : Int) ∧ Dw 150 114 N bw bz bd ba bm w w' ∧ At w' bz #[.pointer (some ⟨ba, 0, none⟩)] 100 ∧ Dia 147 150 N ba bm R w' ns' ∧ At w' bw #[.pointer (some ⟨bz, 0, none⟩), .map (some bd), .int .i64 e'] 114 ∧ MapT keyN keyI w' bd dl' ∧ WalkW ab ns ns' R e e' f g i id ∧ (e' = 0 → DoneW ab ns' dl')

set_option maxRecDepth 10000 in
theorem C_walk (n : Nat) (ab : Bool) (N ba bm bz bw bd R : Nat) (ns : List Nd) (e : Int) (dl : List (Nd × Int)) (f g i : Nat) (w : World) (ih : WalkAt n) (hN0 : N ≤ w.heap.size) (hz : At w bz #[.pointer (some ⟨ba, 0, none⟩)] 100) (hD : Dia 147 150 N ba bm R w ns) (hw : At w bw #[.pointer (some ⟨bz, 0, none⟩), .map (some bd), .int .i64 e] 114) (low : N ≤ bw) (hdn : MapT keyN keyI w bd dl) (lod : N ≤ bd) (hdm : bd ≠ bm) (hf : f < ns.length + 2) (hg : g < ns.length + 2) (hi : i ≤ 24) (lf : e = 0 → i ≤ lvl ns f) (lg : e = 0 → i ≤ lvl ns g) (hdone : e = 0 → DoneW ab ns dl) (hn : 25 - i ≤ n + 1) :
    FnG Try.prog 100 #[.pointer (some ⟨bw, 0, none⟩), .int .i64 (f : Int), .int .i64 (g : Int), .int .i64 (i : Int), .bool ab] w fun v w' => ∃ (ns' : List Nd) (e' : Int) (id : Nat) (dl' : List (Nd × Int)), v = .int .i64 (id : Int) ∧ Dw 150 114 N bw bz bd ba bm w w' ∧ At w' bz #[.pointer (some ⟨ba, 0, none⟩)] 100 ∧ Dia 147 150 N ba bm R w' ns' ∧ At w' bw #[.pointer (some ⟨bz, 0, none⟩), .map (some bd), .int .i64 e'] 114 ∧ MapT keyN keyI w' bd dl' ∧ WalkW ab ns ns' R e e' f g i id ∧ (e' = 0 → DoneW ab ns' dl') := by
 refine FnG_intro (n := 124) Try.func100 rfl rfl (Nat.le_of_ble_eq_true rfl) ?_
 have hB : Below N w w := Below.refl _ _
 have hX : Dw 150 114 N bw bz bd ba bm w w := Dw.refl
 have hwf := hD.wf
 have hroom := hD.room
 have htop := hD.top
 refine WC_seq (fun K1 hK2 => ?_)
 refine WC_region ?_
 refine WL_val (dd := some 10) rfl rfl rfl (r_assign (v := .int .i64 0) rfl) ?_
 refine WL_nil ?_
 refine hK2 _ _ ?_
 clear hK2 K1
 refine WC_seq (fun K3 hK4 => ?_)
 refine WC_block ?_
 refine WC_seq (fun K5 hK6 => ?_)
 refine WC_region ?_
 refine WL_val (dd := some 24) rfl rfl rfl (r_move (v := .pointer (some ⟨bw, 0, none⟩)) rfl) ?_
 refine WL_val (dd := some 25) rfl rfl rfl (r_nilCheck_ptr rfl) ?_
 refine WL_val (dd := some 26) rfl rfl rfl (r_fieldAddr (b := _) (o := _) rfl tb_fo114_2) ?_
 refine WL_val (dd := some 27) rfl rfl rfl (r_load1 (v := .int .i64 _) rfl tb_sc29 (At.cell hw rfl)) ?_
 refine WL_val (dd := some 28) rfl rfl rfl (r_neq rfl rfl) ?_
 refine WL_split (dd := some 29) rfl rfl rfl (r_move (v := .bool _) rfl) (fun hs1_5 => ?_) (fun hs1_5 => ?_)
 ·
  try with_reducible replace hs1_5 := of_decide_eq_true hs1_5
  refine WL_skip (dd := some 30) rfl rfl rfl ?_
  refine WL_skip (dd := some 31) rfl rfl rfl ?_
  refine WL_val (dd := some 32) rfl rfl rfl (r_pick_t rfl (v := .bool true) rfl) ?_
  refine WL_val (dd := some 33) rfl rfl rfl (r_move (v := .bool true) rfl) ?_
  refine WL_skip (dd := some 34) rfl rfl rfl ?_
  refine WL_skip (dd := some 35) rfl rfl rfl ?_
  refine WL_val (dd := some 36) rfl rfl rfl (r_pick_t rfl (v := .bool true) rfl) ?_
  refine WL_val (dd := some 23) rfl rfl rfl (r_assign (v := .bool true) rfl) ?_
  refine WL_nil ?_
  refine hK6 _ _ ?_
  clear hK6 K5
  refine WC_cond_true rfl ?_
  refine WC_seq (fun K7 hK8 => ?_)
  refine WC_region ?_
  refine WL_val (dd := some 10) rfl rfl rfl (r_assign (v := .int .i64 0) rfl) ?_
  refine WL_nil ?_
  refine hK8 _ _ ?_
  clear hK8 K7
  refine WC_ret ?_
  repeat (first | refine thenQ_ret ?_ | refine blockQ_ret ?_)
  try clear hK4 K3
  refine ret_t (v := .int .i64 0) rfl ?_
  exact ⟨ns, e, 0, dl, rfl, hX, hz, hD, hw, hdn, walk_0 (.inl hs1_5), fun z => absurd z hs1_5⟩
 ·
  try with_reducible replace hs1_5 := of_decide_eq_false hs1_5
  refine WL_val (dd := some 30) rfl rfl rfl (r_move (v := .int .i64 _) rfl) ?_
  refine WL_val (dd := some 31) rfl rfl rfl (r_eql rfl rfl) ?_
  refine WL_val (dd := some 32) rfl rfl rfl (r_pick_f rfl (v := .bool _) rfl) ?_
  refine WL_split (dd := some 33) rfl rfl rfl (r_move (v := .bool _) rfl) (fun hs1_9 => ?_) (fun hs1_9 => ?_)
  ·
   try with_reducible replace hs1_9 := of_decide_eq_true hs1_9
   refine WL_skip (dd := some 34) rfl rfl rfl ?_
   refine WL_skip (dd := some 35) rfl rfl rfl ?_
   refine WL_val (dd := some 36) rfl rfl rfl (r_pick_t rfl (v := .bool true) rfl) ?_
   refine WL_val (dd := some 23) rfl rfl rfl (r_assign (v := .bool true) rfl) ?_
   refine WL_nil ?_
   refine hK6 _ _ ?_
   clear hK6 K5
   refine WC_cond_true rfl ?_
   refine WC_seq (fun K9 hK10 => ?_)
   refine WC_region ?_
   refine WL_val (dd := some 10) rfl rfl rfl (r_assign (v := .int .i64 0) rfl) ?_
   refine WL_nil ?_
   refine hK10 _ _ ?_
   clear hK10 K9
   refine WC_ret ?_
   repeat (first | refine thenQ_ret ?_ | refine blockQ_ret ?_)
   try clear hK4 K3
   refine ret_t (v := .int .i64 0) rfl ?_
   exact ⟨ns, e, 0, dl, rfl, hX, hz, hD, hw, hdn, walk_0 (.inr (.inl (by omega))), hdone⟩
  ·
   try with_reducible replace hs1_9 := of_decide_eq_false hs1_9
   refine WL_val (dd := some 34) rfl rfl rfl (r_move (v := .int .i64 _) rfl) ?_
   refine WL_val (dd := some 35) rfl rfl rfl (r_eql rfl rfl) ?_
   refine WL_val (dd := some 36) rfl rfl rfl (r_pick_f rfl (v := .bool _) rfl) ?_
   refine WL_val (dd := some 23) rfl rfl rfl (r_assign (v := .bool _) rfl) ?_
   refine WL_nil ?_
   refine hK6 _ _ ?_
   clear hK6 K5
   refine WC_cond (b := _) rfl (fun hc0 => ?_) (fun hc0 => ?_)
   ·
    try with_reducible replace hc0 := of_decide_eq_true hc0
    refine WC_seq (fun K11 hK12 => ?_)
    refine WC_region ?_
    refine WL_val (dd := some 10) rfl rfl rfl (r_assign (v := .int .i64 0) rfl) ?_
    refine WL_nil ?_
    refine hK12 _ _ ?_
    clear hK12 K11
    refine WC_ret ?_
    repeat (first | refine thenQ_ret ?_ | refine blockQ_ret ?_)
    try clear hK4 K3
    refine ret_t (v := .int .i64 0) rfl ?_
    exact ⟨ns, e, 0, dl, rfl, hX, hz, hD, hw, hdn, walk_0 (.inr (.inr (by omega))), hdone⟩
   ·
    try with_reducible replace hc0 := of_decide_eq_false hc0
    refine WC_seq (fun K13 hK14 => ?_)
    refine WC_region ?_
    refine WL_val (dd := some 38) rfl rfl rfl (r_move (v := .int .i64 _) rfl) ?_
    refine WL_val (dd := some 39) rfl rfl rfl (r_eql rfl rfl) ?_
    refine WL_val (dd := some 37) rfl rfl rfl (r_assign (v := .bool _) rfl) ?_
    refine WL_nil ?_
    refine hK14 _ _ ?_
    clear hK14 K13
    refine WC_cond (b := _) rfl (fun hc1 => ?_) (fun hc1 => ?_)
    ·
     try with_reducible replace hc1 := of_decide_eq_true hc1
     refine WC_seq (fun K15 hK16 => ?_)
     refine WC_region ?_
     refine WL_val (dd := some 10) rfl rfl rfl (r_assign (v := .int .i64 1) rfl) ?_
     refine WL_nil ?_
     refine hK16 _ _ ?_
     clear hK16 K15
     refine WC_ret ?_
     repeat (first | refine thenQ_ret ?_ | refine blockQ_ret ?_)
     try clear hK4 K3
     refine ret_t (v := .int .i64 1) rfl ?_
     have he : e = 0 := Decidable.of_not_not hs1_5
     have h24 : i = 24 := by omega
     exact ⟨ns, e, 1, dl, rfl, hX, hz, hD, hw, hdn, walk_1 hwf hf hg (by omega) (by omega) (h24 ▸ lf he) (h24 ▸ lg he), hdone⟩
    ·
     try with_reducible replace hc1 := of_decide_eq_false hc1
     refine WC_skip ?_
     refine hK4 _ _ ?_
     clear hK4 K3
     refine WC_seq (fun K17 hK18 => ?_)
     have he : e = 0 := Decidable.of_not_not hs1_5
     subst he
     have h24 : i < 24 := by omega
     have lf0 := lf rfl
     have lg0 := lg rfl
     have f0 : ¬ f = 0 := by omega
     have g0 : ¬ g = 0 := by omega
     refine WC_region ?_
     refine WL_val (dd := some 40) rfl rfl rfl (r_move (v := .int .i64 _) rfl) ?_
     refine WL_val (dd := some 41) rfl rfl rfl (r_move (v := .int .i64 _) rfl) ?_
     refine WL_val (dd := some 42) rfl rfl rfl (r_move (v := .int .i64 _) rfl) ?_
     refine WL_val (dd := some 43) rfl rfl rfl (tb_build153_0_1_2 (h0 := rfl) (k0 := rfl) (h1 := rfl) (k1 := rfl) (h2 := rfl) (k2 := rfl) (c0_0 := .int .i64 _) (c1_0 := .int .i64 _) (c2_0 := .int .i64 _)) ?_
     refine WL_step (dd := some 11) rfl rfl rfl (Y_alloc tb_z153 rfl (fun b5_4 W19 hb20 hE21 hm5_4 => ?_))
     have lo_b5_4 : N ≤ b5_4 := hb20 ▸ (Nat.le_trans hN0 (Below.size hB))
     have lz_b5_4 : w.heap.size ≤ b5_4 := hb20 ▸ hX.dx.size
     clear hb20
     replace hz := hE21.at hz
     replace hw := hE21.at hw
     replace hD := Dia.ext hE21 hD
     replace hdn := hE21.mapT hdn
     replace hX := Dw.trans hX (Dw.ext hE21)
     replace hB := below_ext hB hE21 hN0
     clear hE21
     refine WL_step (dd := none) rfl rfl rfl (Y_storeW rfl rfl tb_ag153 rfl hm5_4 rfl (by rfl) (fun W22 hG23 hm24 => ?_))
     replace hz := At.grownAt hz hm5_4 hG23 (by decide)
     replace hw := At.grownAt hw hm5_4 hG23 (by decide)
     replace hD := Dia.grownAt hD hm5_4 hG23 (by decide) (by decide)
     replace hdn := MapT.grownAt hdn hm5_4 hG23
     replace hX := Dw.new hX lz_b5_4 lo_b5_4 hG23 hm5_4 (by decide)
     replace hB := below_grown hB hG23 hN0 (fun j hj => by cases hj; exact lo_b5_4)
     clear hG23 hm5_4
     have hm5_4 := hm24
     clear hm24
     refine WL_nil ?_
     refine hK18 _ _ ?_
     clear hK18 K17
     refine WC_seq (fun K25 hK26 => ?_)
     refine WC_seq (fun K27 hK28 => ?_)
     refine WC_draw Ext tb_mix (fun W29 hE30 => ?_)
     replace hz := hE30.at hz
     replace hw := hE30.at hw
     replace hD := Dia.ext hE30 hD
     replace hdn := hE30.mapT hdn
     replace hX := Dw.trans hX (Dw.ext hE30)
     replace hB := below_ext hB hE30 hN0
     replace hm5_4 := hE30.at hm5_4
     have hS := Ext.refl W29
     refine WT_take (dd := some 45) 0 rfl (by kernel_rfl) (by kernel_rfl) (by kernel_rfl) rfl rfl rfl (fun _wq _hq => r_move (v := .pointer (some ⟨bw, 0, none⟩)) rfl) hS ?_
     refine WT_take (dd := some 46) 1 rfl (by kernel_rfl) (by kernel_rfl) (by kernel_rfl) rfl rfl rfl (fun _wq _hq => r_nilCheck_ptr rfl) hS ?_
     refine WT_take (dd := some 47) 2 rfl (by kernel_rfl) (by kernel_rfl) (by kernel_rfl) rfl rfl rfl (fun _wq _hq => r_fieldAddr (b := _) (o := _) rfl tb_fo114_1) hS ?_
     refine WT_take (dd := some 48) 3 rfl (by kernel_rfl) (by kernel_rfl) (by kernel_rfl) rfl rfl rfl (fun _wq hq => r_load1 (v := .map (some bd)) rfl tb_sc112 (At.cell (hq.at hw) rfl)) hS ?_
     refine WT_take (dd := some 49) 4 rfl (by kernel_rfl) (by kernel_rfl) (by kernel_rfl) rfl rfl rfl (fun _wq hq => r_loadW rfl tb_ag153 rfl (hq.at hm5_4)) hS ?_
     refine WT_take (dd := some 50) 5 rfl (by kernel_rfl) (by kernel_rfl) (by kernel_rfl) rfl rfl rfl (fun _wq hq => r_lookup2 (enc := keyN) (encV := keyI) (v0 := 0) (k := ⟨f, g, i⟩) rfl rfl tb_mp112 tb_key153 (fun a => ⟨a, rfl⟩) keyN_inj tb_z3 rfl (hq.mapT hdn)) hS ?_
     refine WT_take (dd := some 44) 6 rfl (by kernel_rfl) (by kernel_rfl) (by kernel_rfl) rfl rfl rfl (fun _wq _hq => r_move (v := .tuple #[.int .i64 _, .bool _]) rfl) hS ?_
     refine WT_take (dd := some 51) 7 rfl (by kernel_rfl) (by kernel_rfl) (by kernel_rfl) rfl rfl rfl (fun _wq _hq => r_ext2_0 (h := rfl)) hS ?_
     refine WT_take (dd := some 52) 8 rfl (by kernel_rfl) (by kernel_rfl) (by kernel_rfl) rfl rfl rfl (fun _wq _hq => r_ext2_1 (h := rfl)) hS ?_
     refine WT_take (dd := some 12) 9 rfl (by kernel_rfl) (by kernel_rfl) (by kernel_rfl) rfl rfl rfl (fun _wq _hq => r_assign (v := .int .i64 _) rfl) hS ?_
     refine WT_take (dd := some 13) 10 rfl (by kernel_rfl) (by kernel_rfl) (by kernel_rfl) rfl rfl rfl (fun _wq _hq => r_assign (v := .bool _) rfl) hS ?_
     refine WT_done (by kernel_rfl) ?_
     refine hK28 _ _ ?_
     clear hK28 K27
     refine WC_seq (fun K31 hK32 => ?_)
     refine WC_region ?_
     refine WL_val (dd := some 53) rfl rfl rfl (r_move (v := .bool _) rfl) ?_
     refine WL_nil ?_
     refine hK32 _ _ ?_
     clear hK32 K31
     refine WC_cond (b := _) rfl (fun hc2 => ?_) (fun hc2 => ?_)
     ·
      try with_reducible replace hc2 := of_decide_eq_true hc2
      refine WC_seq (fun K33 hK34 => ?_)
      refine WC_region ?_
      refine WL_val (dd := some 54) rfl rfl rfl (r_move (v := .int .i64 _) rfl) ?_
      refine WL_val (dd := some 10) rfl rfl rfl (r_assign (v := .int .i64 _) rfl) ?_
      refine WL_nil ?_
      refine hK34 _ _ ?_
      clear hK34 K33
      refine WC_ret ?_
      repeat (first | refine thenQ_ret ?_ | refine blockQ_ret ?_)
      try clear hK26 K25
      refine ret_t (v := .int .i64 _) rfl ?_
      obtain ⟨id, he, i1, i2⟩ := walk_got (hdone rfl) hc2
      rw [he]
      exact ⟨ns, 0, id, dl, rfl, hX, hz, hD, hw, hdn, walk_met rfl i1 i2, hdone⟩
     ·
      try with_reducible replace hc2 := of_decide_eq_false hc2
      refine WC_skip ?_
      refine hK26 _ _ ?_
      clear hK26 K25
      refine WC_seq (fun K35 hK36 => ?_)
      have hwf1 := hD.wf
      clear hc2
      refine WC_region ?_
      refine WL_val (dd := some 56) rfl rfl rfl (r_move (v := .pointer (some ⟨bw, 0, none⟩)) rfl) ?_
      refine WL_val (dd := some 57) rfl rfl rfl (r_move (v := .int .i64 _) rfl) ?_
      refine WL_val (dd := some 58) rfl rfl rfl (r_move (v := .int .i64 _) rfl) ?_
      refine WL_callG (dd := some 59) rfl rfl rfl (r_call3 tb_c126 (v0 := .pointer (some ⟨bw, 0, none⟩)) rfl (v1 := .int .i64 _) rfl (v2 := .int .i64 _) rfl) (C___family_work__parts N ba bm bz bw bd R ns 0 dl f i _ (Nat.le_trans hN0 (Below.size hB)) hz hD hw low hdn lod hdm hf h24) (fun v9_3 W37 hP9_3 => ?_)
      obtain ⟨ns9_3, e9_3, f09_3, f19_3, rfl, hx9_3, hz9_3, hD9_3, hw9_3, hdn9_3, hp9_3⟩ := hP9_3
      replace hX := Dw.trans hX hx9_3
      replace hB := Below.dx hB (Nat.le_refl _) hN0 hx9_3.dx
      replace hm5_4 := At.dw hD hw hdn hx9_3 hm5_4 (by decide) (by decide) (by decide)
      replace hz := hz9_3
      replace hD := hD9_3
      replace hw := hw9_3
      replace hdn := hdn9_3
      clear hx9_3
      refine WL_val (dd := some 55) rfl rfl rfl (r_move (v := .tuple #[.int .i64 _, .int .i64 _]) rfl) ?_
      refine WL_val (dd := some 60) rfl rfl rfl (r_ext2_0 (h := rfl)) ?_
      refine WL_val (dd := some 61) rfl rfl rfl (r_ext2_1 (h := rfl)) ?_
      refine WL_val (dd := some 14) rfl rfl rfl (r_assign (v := .int .i64 _) rfl) ?_
      refine WL_val (dd := some 15) rfl rfl rfl (r_assign (v := .int .i64 _) rfl) ?_
      refine WL_nil ?_
      refine hK36 _ _ ?_
      clear hK36 K35
      refine WC_seq (fun K39 hK40 => ?_)
      have hw1 := hD.wf
      have hvg : g < ns9_3.length + 2 := by have := pre_len hp9_3.pre; omega
      refine WC_region ?_
      refine WL_val (dd := some 63) rfl rfl rfl (r_move (v := .pointer (some ⟨bw, 0, none⟩)) rfl) ?_
      refine WL_val (dd := some 64) rfl rfl rfl (r_move (v := .int .i64 _) rfl) ?_
      refine WL_val (dd := some 65) rfl rfl rfl (r_move (v := .int .i64 _) rfl) ?_
      refine WL_callG (dd := some 66) rfl rfl rfl (r_call3 tb_c126 (v0 := .pointer (some ⟨bw, 0, none⟩)) rfl (v1 := .int .i64 _) rfl (v2 := .int .i64 _) rfl) (C___family_work__parts N ba bm bz bw bd R ns9_3 e9_3 dl g i _ (Nat.le_trans hN0 (Below.size hB)) hz hD hw low hdn lod hdm hvg h24) (fun v10_3 W41 hP10_3 => ?_)
      obtain ⟨ns10_3, e10_3, f010_3, f110_3, rfl, hx10_3, hz10_3, hD10_3, hw10_3, hdn10_3, hp10_3⟩ := hP10_3
      replace hX := Dw.trans hX hx10_3
      replace hB := Below.dx hB (Nat.le_refl _) hN0 hx10_3.dx
      replace hm5_4 := At.dw hD hw hdn hx10_3 hm5_4 (by decide) (by decide) (by decide)
      replace hz := hz10_3
      replace hD := hD10_3
      replace hw := hw10_3
      replace hdn := hdn10_3
      clear hx10_3
      refine WL_val (dd := some 62) rfl rfl rfl (r_move (v := .tuple #[.int .i64 _, .int .i64 _]) rfl) ?_
      refine WL_val (dd := some 67) rfl rfl rfl (r_ext2_0 (h := rfl)) ?_
      refine WL_val (dd := some 68) rfl rfl rfl (r_ext2_1 (h := rfl)) ?_
      refine WL_val (dd := some 16) rfl rfl rfl (r_assign (v := .int .i64 _) rfl) ?_
      refine WL_val (dd := some 17) rfl rfl rfl (r_assign (v := .int .i64 _) rfl) ?_
      refine WL_nil ?_
      refine hK40 _ _ ?_
      clear hK40 K39
      refine WC_seq (fun K43 hK44 => ?_)
      have hw2 := hD.wf
      refine WC_region ?_
      refine WL_val (dd := some 69) rfl rfl rfl (r_move (v := .pointer (some ⟨bw, 0, none⟩)) rfl) ?_
      refine WL_val (dd := some 70) rfl rfl rfl (r_move (v := .pointer (some ⟨bw, 0, none⟩)) rfl) ?_
      refine WL_val (dd := some 71) rfl rfl rfl (r_nilCheck_ptr rfl) ?_
      refine WL_val (dd := some 72) rfl rfl rfl (r_fieldAddr (b := _) (o := _) rfl tb_fo114_0) ?_
      refine WL_val (dd := some 73) rfl rfl rfl (r_load1 (v := .pointer (some ⟨bz, 0, none⟩)) rfl tb_sc24 (At.cell hw rfl)) ?_
      refine WL_val (dd := some 74) rfl rfl rfl (r_move (v := .int .i64 _) rfl) ?_
      refine WL_val (dd := some 75) rfl rfl rfl (r_move (v := .int .i64 _) rfl) ?_
      refine WL_callG (dd := some 76) rfl rfl rfl (r_call3 tb_c33 (v0 := .pointer (some ⟨bz, 0, none⟩)) rfl (v1 := .int .i64 _) rfl (v2 := .int .i64 _) rfl) (C___zdd_Zdd__Union N ba bm bz R ns10_3 f010_3 f110_3 _ (Nat.le_trans hN0 (Below.size hB)) hz hD hp10_3.v0 hp10_3.v1) (fun v11_7 W45 hP11_7 => ?_)
      obtain ⟨ns11_7, id11_7, er11_7, rfl, hx11_7, hDn11_7, hg11_7⟩ := hP11_7
      replace hz := At.dx hD hx11_7 hz (by decide) (by decide)
      replace hw := At.dx hD hx11_7 hw (by decide) (by decide)
      replace hdn := MapT.dx hD hx11_7 hdn hdm
      replace hX := Dw.trans hX (Dw.zdd hD hx11_7 (by decide) (by decide))
      replace hB := Below.dx hB (Nat.le_refl _) hN0 hx11_7
      replace hm5_4 := At.dx hD hx11_7 hm5_4 (by decide) (by decide)
      replace hD := hDn11_7
      refine WL_val (dd := some 77) rfl rfl rfl (r_ext2_0 (h := rfl)) ?_
      refine WL_val (dd := some 78) rfl rfl rfl (r_ext2_1 (h := rfl)) ?_
      refine WL_callG (dd := some 79) rfl rfl rfl (r_call3 tb_c91 (v0 := .pointer (some ⟨bw, 0, none⟩)) rfl (v1 := .int .i64 _) rfl (v2 := .int .i64 _) rfl) (C___family_work__did N bw bz bd _ _ _ _ (Nat.le_trans hN0 (Below.size hB)) hw low) (fun v11_10 W47 hP11_10 => ?_)
      obtain ⟨hG11_10, hw11_10, rfl⟩ := hP11_10
      replace hX := Dw.trans hX (Dw.did hG11_10 low hw11_10)
      replace hz := At.grownAt hz hw hG11_10 (by decide)
      replace hD := Dia.grownAt hD hw hG11_10 (by decide) (by decide)
      replace hdn := MapT.grownAt hdn hw hG11_10
      replace hB := below_grown hB hG11_10 hN0 (fun j hj => by cases hj; exact low)
      replace hm5_4 := At.grownAt hm5_4 hw hG11_10 (by decide)
      replace hw := hw11_10
      clear hG11_10
      refine WL_val (dd := some 18) rfl rfl rfl (r_assign (v := .int .i64 _) rfl) ?_
      refine WL_nil ?_
      refine hK44 _ _ ?_
      clear hK44 K43
      refine WC_seq (fun K49 hK50 => ?_)
      have hw3 := hD.wf
      have hl1 := pre_len hp9_3.pre
      have hl2 := pre_len hp10_3.pre
      have hl3 := pre_len hg11_7.pre
      have va0 := hp9_3.v0
      have va1 := hp9_3.v1
      have vb0 := hp10_3.v0
      have vb1 := hp10_3.v1
      have vU : didV e10_3 er11_7 id11_7 < ns11_7.length + 2 := didV_v hg11_7.valid
      have hlo := walk_lo (i := i) hwf hw1 hw3 hf hg h24 lf0 lg0 hp9_3 hp10_3 hg11_7
      refine WC_region ?_
      refine WL_val (dd := some 80) rfl rfl rfl (r_move (v := .int .i64 _) rfl) ?_
      refine WL_val (dd := some 81) rfl rfl rfl (r_move (v := .int .i64 _) rfl) ?_
      refine WL_val (dd := some 19) rfl rfl rfl (r_assign (v := .int .i64 _) rfl) ?_
      refine WL_val (dd := some 20) rfl rfl rfl (r_assign (v := .int .i64 _) rfl) ?_
      refine WL_nil ?_
      refine hK50 _ _ ?_
      clear hK50 K49
      refine WC_seq (fun K51 hK52 => ?_)
      refine WC_seq (fun K53 hK54 => ?_)
      refine WC_region ?_
      refine WL_val (dd := some 82) rfl rfl rfl (r_move (v := .bool _) rfl) ?_
      refine WL_nil ?_
      refine hK54 _ _ ?_
      clear hK54 K53
      refine WC_cond (b := _) rfl (fun hc3 => ?_) (fun hc3 => ?_)
      ·
       try with_reducible replace hc3 := of_decide_eq_true hc3
       refine WC_region ?_
       refine WL_val (dd := some 83) rfl rfl rfl (r_move (v := .int .i64 _) rfl) ?_
       refine WL_val (dd := some 84) rfl rfl rfl (r_move (v := .int .i64 _) rfl) ?_
       refine WL_val (dd := some 19) rfl rfl rfl (r_assign (v := .int .i64 _) rfl) ?_
       refine WL_val (dd := some 20) rfl rfl rfl (r_assign (v := .int .i64 _) rfl) ?_
       refine WL_nil ?_
       refine hK52 _ _ ?_
       clear hK52 K51
       refine WC_seq (fun K55 hK56 => ?_)
       subst hc3
       refine WC_region ?_
       refine WL_val (dd := some 85) rfl rfl rfl (r_move (v := .pointer (some ⟨bw, 0, none⟩)) rfl) ?_
       refine WL_val (dd := some 86) rfl rfl rfl (r_move (v := .int .i64 _) rfl) ?_
       refine WL_val (dd := some 87) rfl rfl rfl (r_move (v := .int .i64 _) rfl) ?_
       refine WL_val (dd := some 88) rfl rfl rfl (r_move (v := .int .i64 _) rfl) ?_
       refine WL_val (dd := some 89) rfl rfl rfl (r_addI rfl rfl (by omega) (by omega)) ?_
       refine WL_val (dd := some 90) rfl rfl rfl (r_move (v := .bool _) rfl) ?_
       refine WL_callG (dd := some 91) rfl rfl rfl (r_call5 tb_c100 (v0 := .pointer (some ⟨bw, 0, none⟩)) rfl (v1 := .int .i64 _) rfl (v2 := .int .i64 _) rfl (v3 := .int .i64 _) rfl (v4 := .bool _) rfl) (ih true N ba bm bz bw bd R ns11_7 (didE e10_3 er11_7) dl f09_3 f010_3 (i + 1) _ (Nat.le_trans hN0 (Below.size hB)) hz hD hw low hdn lod hdm (by omega) (by omega) (by omega) (fun z => lev_lvl hw3 (by omega) h24 (hlo z).1) (fun z => lev_lvl hw3 (by omega) h24 (hlo z).2.2.1) (fun z => (hdone rfl).pre ((hp9_3.pre.trans hp10_3.pre).trans hg11_7.pre)) (by omega)) (fun v15_6 W57 hP15_6 => ?_)
       obtain ⟨ns15_6, e15_6, id15_6, dl15_6, rfl, hx15_6, hz15_6, hD15_6, hw15_6, hdn15_6, hp15_6, hdone15_6⟩ := hP15_6
       replace hB := Below.dx hB (Nat.le_refl _) hN0 hx15_6.dx
       replace hm5_4 := At.dw hD hw hdn hx15_6 hm5_4 (by decide) (by decide) (by decide)
       replace hX := Dw.trans hX hx15_6
       replace hz := hz15_6
       replace hD := hD15_6
       replace hw := hw15_6
       replace hdn := hdn15_6
       clear hx15_6
       refine WL_val (dd := some 21) rfl rfl rfl (r_assign (v := .int .i64 _) rfl) ?_
       refine WL_nil ?_
       refine hK56 _ _ ?_
       clear hK56 K55
       refine WC_seq (fun K59 hK60 => ?_)
       have hw4 := hD.wf
       have hl4 := pre_len hp15_6.pre
       have vid := hp15_6.v
       refine WC_region ?_
       refine WL_val (dd := some 92) rfl rfl rfl (r_move (v := .pointer (some ⟨bw, 0, none⟩)) rfl) ?_
       refine WL_val (dd := some 93) rfl rfl rfl (r_move (v := .pointer (some ⟨bw, 0, none⟩)) rfl) ?_
       refine WL_val (dd := some 94) rfl rfl rfl (r_move (v := .int .i64 _) rfl) ?_
       refine WL_val (dd := some 95) rfl rfl rfl (r_move (v := .int .i64 _) rfl) ?_
       refine WL_val (dd := some 96) rfl rfl rfl (r_move (v := .int .i64 _) rfl) ?_
       refine WL_val (dd := some 97) rfl rfl rfl (r_addI rfl rfl (by omega) (by omega)) ?_
       refine WL_val (dd := some 98) rfl rfl rfl (r_move (v := .bool _) rfl) ?_
       refine WL_callG (dd := some 99) rfl rfl rfl (r_call5 tb_c100 (v0 := .pointer (some ⟨bw, 0, none⟩)) rfl (v1 := .int .i64 _) rfl (v2 := .int .i64 _) rfl (v3 := .int .i64 _) rfl (v4 := .bool _) rfl) (ih true N ba bm bz bw bd R ns15_6 e15_6 dl15_6 f19_3 (didV e10_3 er11_7 id11_7) (i + 1) _ (Nat.le_trans hN0 (Below.size hB)) hz hD hw low hdn lod hdm (by omega) (by omega) (by omega) (fun z => lev_lvl hw4 (by omega) h24 (by rw [M_pre hp15_6.pre (by omega)]; exact (hlo (back_0 hp15_6.err z)).2.1)) (fun z => lev_lvl hw4 (by omega) h24 (by rw [M_pre hp15_6.pre (by omega)]; exact (hlo (back_0 hp15_6.err z)).2.2.2.2)) hdone15_6 (by omega)) (fun v16_7 W61 hP16_7 => ?_)
       obtain ⟨ns16_7, e16_7, id16_7, dl16_7, rfl, hx16_7, hz16_7, hD16_7, hw16_7, hdn16_7, hp16_7, hdone16_7⟩ := hP16_7
       replace hB := Below.dx hB (Nat.le_refl _) hN0 hx16_7.dx
       replace hm5_4 := At.dw hD hw hdn hx16_7 hm5_4 (by decide) (by decide) (by decide)
       replace hX := Dw.trans hX hx16_7
       replace hz := hz16_7
       replace hD := hD16_7
       replace hw := hw16_7
       replace hdn := hdn16_7
       clear hx16_7
       have hw5 := hD.wf
       refine WL_val (dd := some 100) rfl rfl rfl (r_move (v := .int .i64 _) rfl) ?_
       refine WL_callG (dd := some 101) rfl rfl rfl (r_call3 tb_c127 (v0 := .pointer (some ⟨bw, 0, none⟩)) rfl (v1 := .int .i64 _) rfl (v2 := .int .i64 _) rfl) (C___family_work__put N ba bm bz bw bd R ns16_7 e16_7 dl16_7 id16_7 i _ (Nat.le_trans hN0 (Below.size hB)) hz hD hw low hdn lod hdm hp16_7.v h24) (fun v16_9 W63 hP16_9 => ?_)
       obtain ⟨ns16_9, e16_9, id16_9, rfl, hx16_9, hz16_9, hD16_9, hw16_9, hdn16_9, hp16_9⟩ := hP16_9
       replace hB := Below.dx hB (Nat.le_refl _) hN0 hx16_9.dx
       replace hm5_4 := At.dw hD hw hdn hx16_9 hm5_4 (by decide) (by decide) (by decide)
       replace hX := Dw.trans hX hx16_9
       replace hz := hz16_9
       replace hD := hD16_9
       replace hw := hw16_9
       replace hdn := hdn16_9
       clear hx16_9
       refine WL_val (dd := some 22) rfl rfl rfl (r_assign (v := .int .i64 _) rfl) ?_
       refine WL_nil ?_
       refine hK60 _ _ ?_
       clear hK60 K59
       refine WC_seq (fun K65 hK66 => ?_)
       have hw6 := hD.wf
       have hl5 := pre_len hp16_7.pre
       have hl6 := pre_len hp16_9.pre
       have vib := hp16_9.v
       have hnd0 := hdn.nodup
       refine WC_draw (fun a b => Dw 150 114 N bw bz bd ba bm a b) tb_mix (fun W67 hE68 => ?_)
       replace hz := hE68.at hz
       replace hw := hE68.at hw
       replace hD := Dia.ext hE68 hD
       replace hdn := hE68.mapT hdn
       replace hB := below_ext hB hE68 hN0
       replace hm5_4 := hE68.at hm5_4
       replace hX := Dw.trans hX (Dw.ext hE68)
       have hwk0 : Wk 114 bw bz bd W67 := ⟨_, hw⟩
       have hS : Dw 150 114 N bw bz bd ba bm W67 W67 := Dw.refl
       refine WT_take (dd := some 102) 0 rfl (by kernel_rfl) (by kernel_rfl) (by kernel_rfl) rfl rfl rfl (fun _wq _hq => r_move (v := .pointer (some ⟨bw, 0, none⟩)) rfl) hS ?_
       refine WT_take (dd := some 103) 1 rfl (by kernel_rfl) (by kernel_rfl) (by kernel_rfl) rfl rfl rfl (fun _wq _hq => r_nilCheck_ptr rfl) hS ?_
       refine WT_take (dd := some 104) 2 rfl (by kernel_rfl) (by kernel_rfl) (by kernel_rfl) rfl rfl rfl (fun _wq _hq => r_fieldAddr (b := _) (o := _) rfl tb_fo114_1) hS ?_
       refine WT_take (dd := some 105) 3 rfl (by kernel_rfl) (by kernel_rfl) (by kernel_rfl) rfl rfl rfl (fun _wq hq => r_load1 (v := .map (some bd)) rfl tb_sc112 (Wk.c1 (Dw.wk hq hwk0))) hS ?_
       refine WT_take (dd := some 106) 4 rfl (by kernel_rfl) (by kernel_rfl) (by kernel_rfl) rfl rfl rfl (fun _wq hq => r_loadW rfl tb_ag153 rfl (At.dw hD hw hdn hq hm5_4 (by decide) (by decide) (by decide))) hS ?_
       refine WT_take (dd := some 107) 5 rfl (by kernel_rfl) (by kernel_rfl) (by kernel_rfl) rfl rfl rfl (fun _wq _hq => r_move (v := .pointer (some ⟨bw, 0, none⟩)) rfl) hS ?_
       refine WT_take (dd := some 108) 6 rfl (by kernel_rfl) (by kernel_rfl) (by kernel_rfl) rfl rfl rfl (fun _wq _hq => r_move (v := .pointer (some ⟨bw, 0, none⟩)) rfl) hS ?_
       refine WT_take (dd := some 109) 7 rfl (by kernel_rfl) (by kernel_rfl) (by kernel_rfl) rfl rfl rfl (fun _wq _hq => r_nilCheck_ptr rfl) hS ?_
       refine WT_take (dd := some 110) 8 rfl (by kernel_rfl) (by kernel_rfl) (by kernel_rfl) rfl rfl rfl (fun _wq _hq => r_fieldAddr (b := _) (o := _) rfl tb_fo114_0) hS ?_
       refine WT_take (dd := some 111) 9 rfl (by kernel_rfl) (by kernel_rfl) (by kernel_rfl) rfl rfl rfl (fun _wq hq => r_load1 (v := .pointer (some ⟨bz, 0, none⟩)) rfl tb_sc24 (Wk.c0 (Dw.wk hq hwk0))) hS ?_
       refine WT_take (dd := some 112) 10 rfl (by kernel_rfl) (by kernel_rfl) (by kernel_rfl) rfl rfl rfl (fun _wq _hq => r_move (v := .int .i64 _) rfl) hS ?_
       refine WT_take (dd := some 113) 11 rfl (by kernel_rfl) (by kernel_rfl) (by kernel_rfl) rfl rfl rfl (fun _wq _hq => r_move (v := .int .i64 _) rfl) hS ?_
       refine WT_one (dd := some 114) 12 (by kernel_rfl) rfl rfl rfl rfl (Yd.callG (r_call3 tb_c33 (v0 := .pointer (some ⟨bz, 0, none⟩)) rfl (v1 := .int .i64 _) rfl (v2 := .int .i64 _) rfl) (C___zdd_Zdd__Union N ba bm bz R ns16_9 id15_6 id16_9 _ (Nat.le_trans hN0 (Below.size hB)) hz hD (by omega) (by omega)) (fun v17_12 W69 hP17_12 => ⟨.inl (Dw.trans hS (Dw.zdd hD (PO.dx hP17_12) (by decide) (by decide))), ?_⟩))
       replace hS := Dw.trans hS (Dw.zdd hD (PO.dx hP17_12) (by decide) (by decide))
       obtain ⟨ns17_12, id17_12, er17_12, rfl, hx17_12, hDn17_12, hg17_12⟩ := hP17_12
       replace hz := At.dx hD hx17_12 hz (by decide) (by decide)
       replace hw := At.dx hD hx17_12 hw (by decide) (by decide)
       replace hdn := MapT.dx hD hx17_12 hdn hdm
       replace hB := Below.dx hB (Nat.le_refl _) hN0 hx17_12
       replace hm5_4 := At.dx hD hx17_12 hm5_4 (by decide) (by decide)
       replace hX := Dw.trans hX (Dw.zdd hD hx17_12 (by decide) (by decide))
       replace hD := hDn17_12
       refine WT_take (dd := some 115) 13 rfl (by kernel_rfl) (by kernel_rfl) (by kernel_rfl) rfl rfl rfl (fun _wq _hq => r_ext2_0 (h := rfl)) hS ?_
       refine WT_take (dd := some 116) 14 rfl (by kernel_rfl) (by kernel_rfl) (by kernel_rfl) rfl rfl rfl (fun _wq _hq => r_ext2_1 (h := rfl)) hS ?_
       refine WT_one (dd := some 117) 15 (by kernel_rfl) rfl rfl rfl rfl (Yd.callG (r_call3 tb_c91 (v0 := .pointer (some ⟨bw, 0, none⟩)) rfl (v1 := .int .i64 _) rfl (v2 := .int .i64 _) rfl) (C___family_work__did N bw bz bd _ _ _ _ (Nat.le_trans hN0 (Below.size hB)) hw low) (fun v17_15 W71 hP17_15 => ⟨.inl (Dw.trans hS (Dw.did hP17_15.1 low hP17_15.2.1)), ?_⟩))
       replace hS := Dw.trans hS (Dw.did hP17_15.1 low hP17_15.2.1)
       obtain ⟨hG17_15, hw17_15, rfl⟩ := hP17_15
       replace hX := Dw.trans hX (Dw.did hG17_15 low hw17_15)
       have sv73_hz := hz
       have sv73_hw := hw
       have sv73_hdn := hdn
       have sv73_hB := hB
       have sv73_hm5_4 := hm5_4
       replace hz := At.grownAt hz hw hG17_15 (by decide)
       replace hD := Dia.grownAt hD hw hG17_15 (by decide) (by decide)
       replace hdn := MapT.grownAt hdn hw hG17_15
       replace hB := below_grown hB hG17_15 hN0 (fun j hj => by cases hj; exact low)
       replace hm5_4 := At.grownAt hm5_4 hw hG17_15 (by decide)
       replace hw := hw17_15
       clear hG17_15
       refine WT_one (dd := none) 16 (by kernel_rfl) rfl rfl rfl rfl (Y_mapUpdate (enc := keyN) (encV := keyI) (k := ⟨f, g, i⟩) (v := ((didV e16_9 er17_12 id17_12 : Nat) : Int)) rfl rfl rfl tb_mp112 tb_key153 (fun a => ⟨a, rfl⟩) keyN_inj hdn (fun W74 hG75 hm76 => ⟨.inr (by kernel_rfl), ?_⟩))
       replace hz := At.grownMap hz hdn hG75
       replace hw := At.grownMap hw hdn hG75
       replace hD := Dia.grownMap hD hdn hdm hG75
       replace hB := below_grown hB hG75 hN0 (fun j hj => by cases hj; exact lod)
       replace hm5_4 := At.grownMap hm5_4 hdn hG75
       replace hX := Dw.trans hX (Dw.map hG75 lod hdn)
       clear hG75 hdn
       have hdn := hm76
       clear hm76
       refine WT_done (by kernel_rfl) ?_
       try clear sv73_hz sv73_hB sv73_hm5_4
       refine hK66 _ _ ?_
       clear hK66 K65
       refine WC_seq (fun K77 hK78 => ?_)
       refine WC_draw Ext tb_mix (fun W79 hE80 => ?_)
       replace hz := hE80.at hz
       replace hw := hE80.at hw
       replace hD := Dia.ext hE80 hD
       replace hdn := hE80.mapT hdn
       replace hB := below_ext hB hE80 hN0
       replace hm5_4 := hE80.at hm5_4
       replace hX := Dw.trans hX (Dw.ext hE80)
       have hS := Ext.refl W79
       refine WT_take (dd := some 118) 0 rfl (by kernel_rfl) (by kernel_rfl) (by kernel_rfl) rfl rfl rfl (fun _wq _hq => r_move (v := .pointer (some ⟨bw, 0, none⟩)) rfl) hS ?_
       refine WT_take (dd := some 119) 1 rfl (by kernel_rfl) (by kernel_rfl) (by kernel_rfl) rfl rfl rfl (fun _wq _hq => r_nilCheck_ptr rfl) hS ?_
       refine WT_take (dd := some 120) 2 rfl (by kernel_rfl) (by kernel_rfl) (by kernel_rfl) rfl rfl rfl (fun _wq _hq => r_fieldAddr (b := _) (o := _) rfl tb_fo114_1) hS ?_
       refine WT_take (dd := some 121) 3 rfl (by kernel_rfl) (by kernel_rfl) (by kernel_rfl) rfl rfl rfl (fun _wq hq => r_load1 (v := .map (some bd)) rfl tb_sc112 (At.cell (hq.at hw) rfl)) hS ?_
       refine WT_take (dd := some 122) 4 rfl (by kernel_rfl) (by kernel_rfl) (by kernel_rfl) rfl rfl rfl (fun _wq hq => r_loadW rfl tb_ag153 rfl (hq.at hm5_4)) hS ?_
       refine WT_take (dd := some 123) 5 rfl (by kernel_rfl) (by kernel_rfl) (by kernel_rfl) rfl rfl rfl (fun _wq hq => r_lookup (enc := keyN) (encV := keyI) (v0 := 0) (k := ⟨f, g, i⟩) rfl rfl tb_mp112 tb_key153 (fun a => ⟨a, rfl⟩) keyN_inj tb_z3 rfl (hq.mapT hdn)) hS ?_
       refine WT_take (dd := some 10) 6 rfl (by kernel_rfl) (by kernel_rfl) (by kernel_rfl) rfl rfl rfl (fun _wq _hq => r_assign (v := .int .i64 _) rfl) hS ?_
       refine WT_done (by kernel_rfl) ?_
       refine hK78 _ _ ?_
       clear hK78 K77
       refine WC_ret ?_
       repeat (first | refine thenQ_ret ?_ | refine blockQ_ret ?_)
       refine ret_t (v := .int .i64 _) rfl ?_
       have hm := walk_m (ab := true) hwf hw1 hf hg h24 lf0 lg0 hp9_3 hp10_3 hg11_7 hp15_6 hp16_7 hp16_9 hg17_12
       have hpre := ((((((hp9_3.pre.trans hp10_3.pre).trans hg11_7.pre).trans hp15_6.pre).trans hp16_7.pre).trans hp16_9.pre).trans hg17_12.pre)
       have hl7 := pre_len hpre
       have vid7 : didV e16_9 er17_12 id17_12 < ns17_12.length + 2 := didV_v hg17_12.valid
       refine ⟨_, _, didV e16_9 er17_12 id17_12, _, by rw [getL_putL hnd0]; rfl, hX, hz, hD, hw, hdn, ⟨vid7, hpre, fun _ T tf tg => walk_sta hwf hw1 hw2 hw3 hw4 hw5 hw6 hf hg f0 g0 h24 lf0 lg0 hp9_3 hp10_3 hg11_7 hp15_6 hp16_7 hp16_9 hg17_12 tf tg, fun z => absurd rfl z, hm⟩, fun z => ?_⟩
       have hdp := (hdone16_7 (back_0 hp16_9.err (didE_0.1 z).1)).pre (hp16_9.pre.trans hg17_12.pre)
       refine hdp.put (by omega) (by omega) vid7 ?_
       rw [M_pre hpre hf, M_pre hpre hg]
       exact hm z
      ·
       try with_reducible replace hc3 := of_decide_eq_false hc3
       refine WC_skip ?_
       refine hK52 _ _ ?_
       clear hK52 K51
       refine WC_seq (fun K81 hK82 => ?_)
       obtain rfl : ab = false := by simpa using hc3
       refine WC_region ?_
       refine WL_val (dd := some 85) rfl rfl rfl (r_move (v := .pointer (some ⟨bw, 0, none⟩)) rfl) ?_
       refine WL_val (dd := some 86) rfl rfl rfl (r_move (v := .int .i64 _) rfl) ?_
       refine WL_val (dd := some 87) rfl rfl rfl (r_move (v := .int .i64 _) rfl) ?_
       refine WL_val (dd := some 88) rfl rfl rfl (r_move (v := .int .i64 _) rfl) ?_
       refine WL_val (dd := some 89) rfl rfl rfl (r_addI rfl rfl (by omega) (by omega)) ?_
       refine WL_val (dd := some 90) rfl rfl rfl (r_move (v := .bool _) rfl) ?_
       refine WL_callG (dd := some 91) rfl rfl rfl (r_call5 tb_c100 (v0 := .pointer (some ⟨bw, 0, none⟩)) rfl (v1 := .int .i64 _) rfl (v2 := .int .i64 _) rfl (v3 := .int .i64 _) rfl (v4 := .bool _) rfl) (ih false N ba bm bz bw bd R ns11_7 (didE e10_3 er11_7) dl f09_3 (didV e10_3 er11_7 id11_7) (i + 1) _ (Nat.le_trans hN0 (Below.size hB)) hz hD hw low hdn lod hdm (by omega) (by omega) (by omega) (fun z => lev_lvl hw3 (by omega) h24 (hlo z).1) (fun z => lev_lvl hw3 (by omega) h24 (hlo z).2.2.2.2) (fun z => (hdone rfl).pre ((hp9_3.pre.trans hp10_3.pre).trans hg11_7.pre)) (by omega)) (fun v15_6 W83 hP15_6 => ?_)
       obtain ⟨ns15_6, e15_6, id15_6, dl15_6, rfl, hx15_6, hz15_6, hD15_6, hw15_6, hdn15_6, hp15_6, hdone15_6⟩ := hP15_6
       replace hB := Below.dx hB (Nat.le_refl _) hN0 hx15_6.dx
       replace hm5_4 := At.dw hD hw hdn hx15_6 hm5_4 (by decide) (by decide) (by decide)
       replace hX := Dw.trans hX hx15_6
       replace hz := hz15_6
       replace hD := hD15_6
       replace hw := hw15_6
       replace hdn := hdn15_6
       clear hx15_6
       refine WL_val (dd := some 21) rfl rfl rfl (r_assign (v := .int .i64 _) rfl) ?_
       refine WL_nil ?_
       refine hK82 _ _ ?_
       clear hK82 K81
       refine WC_seq (fun K85 hK86 => ?_)
       have hw4 := hD.wf
       have hl4 := pre_len hp15_6.pre
       have vid := hp15_6.v
       refine WC_region ?_
       refine WL_val (dd := some 92) rfl rfl rfl (r_move (v := .pointer (some ⟨bw, 0, none⟩)) rfl) ?_
       refine WL_val (dd := some 93) rfl rfl rfl (r_move (v := .pointer (some ⟨bw, 0, none⟩)) rfl) ?_
       refine WL_val (dd := some 94) rfl rfl rfl (r_move (v := .int .i64 _) rfl) ?_
       refine WL_val (dd := some 95) rfl rfl rfl (r_move (v := .int .i64 _) rfl) ?_
       refine WL_val (dd := some 96) rfl rfl rfl (r_move (v := .int .i64 _) rfl) ?_
       refine WL_val (dd := some 97) rfl rfl rfl (r_addI rfl rfl (by omega) (by omega)) ?_
       refine WL_val (dd := some 98) rfl rfl rfl (r_move (v := .bool _) rfl) ?_
       refine WL_callG (dd := some 99) rfl rfl rfl (r_call5 tb_c100 (v0 := .pointer (some ⟨bw, 0, none⟩)) rfl (v1 := .int .i64 _) rfl (v2 := .int .i64 _) rfl (v3 := .int .i64 _) rfl (v4 := .bool _) rfl) (ih false N ba bm bz bw bd R ns15_6 e15_6 dl15_6 f19_3 f110_3 (i + 1) _ (Nat.le_trans hN0 (Below.size hB)) hz hD hw low hdn lod hdm (by omega) (by omega) (by omega) (fun z => lev_lvl hw4 (by omega) h24 (by rw [M_pre hp15_6.pre (by omega)]; exact (hlo (back_0 hp15_6.err z)).2.1)) (fun z => lev_lvl hw4 (by omega) h24 (by rw [M_pre hp15_6.pre (by omega)]; exact (hlo (back_0 hp15_6.err z)).2.2.2.1)) hdone15_6 (by omega)) (fun v16_7 W87 hP16_7 => ?_)
       obtain ⟨ns16_7, e16_7, id16_7, dl16_7, rfl, hx16_7, hz16_7, hD16_7, hw16_7, hdn16_7, hp16_7, hdone16_7⟩ := hP16_7
       replace hB := Below.dx hB (Nat.le_refl _) hN0 hx16_7.dx
       replace hm5_4 := At.dw hD hw hdn hx16_7 hm5_4 (by decide) (by decide) (by decide)
       replace hX := Dw.trans hX hx16_7
       replace hz := hz16_7
       replace hD := hD16_7
       replace hw := hw16_7
       replace hdn := hdn16_7
       clear hx16_7
       have hw5 := hD.wf
       refine WL_val (dd := some 100) rfl rfl rfl (r_move (v := .int .i64 _) rfl) ?_
       refine WL_callG (dd := some 101) rfl rfl rfl (r_call3 tb_c127 (v0 := .pointer (some ⟨bw, 0, none⟩)) rfl (v1 := .int .i64 _) rfl (v2 := .int .i64 _) rfl) (C___family_work__put N ba bm bz bw bd R ns16_7 e16_7 dl16_7 id16_7 i _ (Nat.le_trans hN0 (Below.size hB)) hz hD hw low hdn lod hdm hp16_7.v h24) (fun v16_9 W89 hP16_9 => ?_)
       obtain ⟨ns16_9, e16_9, id16_9, rfl, hx16_9, hz16_9, hD16_9, hw16_9, hdn16_9, hp16_9⟩ := hP16_9
       replace hB := Below.dx hB (Nat.le_refl _) hN0 hx16_9.dx
       replace hm5_4 := At.dw hD hw hdn hx16_9 hm5_4 (by decide) (by decide) (by decide)
       replace hX := Dw.trans hX hx16_9
       replace hz := hz16_9
       replace hD := hD16_9
       replace hw := hw16_9
       replace hdn := hdn16_9
       clear hx16_9
       refine WL_val (dd := some 22) rfl rfl rfl (r_assign (v := .int .i64 _) rfl) ?_
       refine WL_nil ?_
       refine hK86 _ _ ?_
       clear hK86 K85
       refine WC_seq (fun K91 hK92 => ?_)
       have hw6 := hD.wf
       have hl5 := pre_len hp16_7.pre
       have hl6 := pre_len hp16_9.pre
       have vib := hp16_9.v
       have hnd0 := hdn.nodup
       refine WC_draw (fun a b => Dw 150 114 N bw bz bd ba bm a b) tb_mix (fun W93 hE94 => ?_)
       replace hz := hE94.at hz
       replace hw := hE94.at hw
       replace hD := Dia.ext hE94 hD
       replace hdn := hE94.mapT hdn
       replace hB := below_ext hB hE94 hN0
       replace hm5_4 := hE94.at hm5_4
       replace hX := Dw.trans hX (Dw.ext hE94)
       have hwk0 : Wk 114 bw bz bd W93 := ⟨_, hw⟩
       have hS : Dw 150 114 N bw bz bd ba bm W93 W93 := Dw.refl
       refine WT_take (dd := some 102) 0 rfl (by kernel_rfl) (by kernel_rfl) (by kernel_rfl) rfl rfl rfl (fun _wq _hq => r_move (v := .pointer (some ⟨bw, 0, none⟩)) rfl) hS ?_
       refine WT_take (dd := some 103) 1 rfl (by kernel_rfl) (by kernel_rfl) (by kernel_rfl) rfl rfl rfl (fun _wq _hq => r_nilCheck_ptr rfl) hS ?_
       refine WT_take (dd := some 104) 2 rfl (by kernel_rfl) (by kernel_rfl) (by kernel_rfl) rfl rfl rfl (fun _wq _hq => r_fieldAddr (b := _) (o := _) rfl tb_fo114_1) hS ?_
       refine WT_take (dd := some 105) 3 rfl (by kernel_rfl) (by kernel_rfl) (by kernel_rfl) rfl rfl rfl (fun _wq hq => r_load1 (v := .map (some bd)) rfl tb_sc112 (Wk.c1 (Dw.wk hq hwk0))) hS ?_
       refine WT_take (dd := some 106) 4 rfl (by kernel_rfl) (by kernel_rfl) (by kernel_rfl) rfl rfl rfl (fun _wq hq => r_loadW rfl tb_ag153 rfl (At.dw hD hw hdn hq hm5_4 (by decide) (by decide) (by decide))) hS ?_
       refine WT_take (dd := some 107) 5 rfl (by kernel_rfl) (by kernel_rfl) (by kernel_rfl) rfl rfl rfl (fun _wq _hq => r_move (v := .pointer (some ⟨bw, 0, none⟩)) rfl) hS ?_
       refine WT_take (dd := some 108) 6 rfl (by kernel_rfl) (by kernel_rfl) (by kernel_rfl) rfl rfl rfl (fun _wq _hq => r_move (v := .pointer (some ⟨bw, 0, none⟩)) rfl) hS ?_
       refine WT_take (dd := some 109) 7 rfl (by kernel_rfl) (by kernel_rfl) (by kernel_rfl) rfl rfl rfl (fun _wq _hq => r_nilCheck_ptr rfl) hS ?_
       refine WT_take (dd := some 110) 8 rfl (by kernel_rfl) (by kernel_rfl) (by kernel_rfl) rfl rfl rfl (fun _wq _hq => r_fieldAddr (b := _) (o := _) rfl tb_fo114_0) hS ?_
       refine WT_take (dd := some 111) 9 rfl (by kernel_rfl) (by kernel_rfl) (by kernel_rfl) rfl rfl rfl (fun _wq hq => r_load1 (v := .pointer (some ⟨bz, 0, none⟩)) rfl tb_sc24 (Wk.c0 (Dw.wk hq hwk0))) hS ?_
       refine WT_take (dd := some 112) 10 rfl (by kernel_rfl) (by kernel_rfl) (by kernel_rfl) rfl rfl rfl (fun _wq _hq => r_move (v := .int .i64 _) rfl) hS ?_
       refine WT_take (dd := some 113) 11 rfl (by kernel_rfl) (by kernel_rfl) (by kernel_rfl) rfl rfl rfl (fun _wq _hq => r_move (v := .int .i64 _) rfl) hS ?_
       refine WT_one (dd := some 114) 12 (by kernel_rfl) rfl rfl rfl rfl (Yd.callG (r_call3 tb_c33 (v0 := .pointer (some ⟨bz, 0, none⟩)) rfl (v1 := .int .i64 _) rfl (v2 := .int .i64 _) rfl) (C___zdd_Zdd__Union N ba bm bz R ns16_9 id15_6 id16_9 _ (Nat.le_trans hN0 (Below.size hB)) hz hD (by omega) (by omega)) (fun v17_12 W95 hP17_12 => ⟨.inl (Dw.trans hS (Dw.zdd hD (PO.dx hP17_12) (by decide) (by decide))), ?_⟩))
       replace hS := Dw.trans hS (Dw.zdd hD (PO.dx hP17_12) (by decide) (by decide))
       obtain ⟨ns17_12, id17_12, er17_12, rfl, hx17_12, hDn17_12, hg17_12⟩ := hP17_12
       replace hz := At.dx hD hx17_12 hz (by decide) (by decide)
       replace hw := At.dx hD hx17_12 hw (by decide) (by decide)
       replace hdn := MapT.dx hD hx17_12 hdn hdm
       replace hB := Below.dx hB (Nat.le_refl _) hN0 hx17_12
       replace hm5_4 := At.dx hD hx17_12 hm5_4 (by decide) (by decide)
       replace hX := Dw.trans hX (Dw.zdd hD hx17_12 (by decide) (by decide))
       replace hD := hDn17_12
       refine WT_take (dd := some 115) 13 rfl (by kernel_rfl) (by kernel_rfl) (by kernel_rfl) rfl rfl rfl (fun _wq _hq => r_ext2_0 (h := rfl)) hS ?_
       refine WT_take (dd := some 116) 14 rfl (by kernel_rfl) (by kernel_rfl) (by kernel_rfl) rfl rfl rfl (fun _wq _hq => r_ext2_1 (h := rfl)) hS ?_
       refine WT_one (dd := some 117) 15 (by kernel_rfl) rfl rfl rfl rfl (Yd.callG (r_call3 tb_c91 (v0 := .pointer (some ⟨bw, 0, none⟩)) rfl (v1 := .int .i64 _) rfl (v2 := .int .i64 _) rfl) (C___family_work__did N bw bz bd _ _ _ _ (Nat.le_trans hN0 (Below.size hB)) hw low) (fun v17_15 W97 hP17_15 => ⟨.inl (Dw.trans hS (Dw.did hP17_15.1 low hP17_15.2.1)), ?_⟩))
       replace hS := Dw.trans hS (Dw.did hP17_15.1 low hP17_15.2.1)
       obtain ⟨hG17_15, hw17_15, rfl⟩ := hP17_15
       replace hX := Dw.trans hX (Dw.did hG17_15 low hw17_15)
       have sv99_hz := hz
       have sv99_hw := hw
       have sv99_hdn := hdn
       have sv99_hB := hB
       have sv99_hm5_4 := hm5_4
       replace hz := At.grownAt hz hw hG17_15 (by decide)
       replace hD := Dia.grownAt hD hw hG17_15 (by decide) (by decide)
       replace hdn := MapT.grownAt hdn hw hG17_15
       replace hB := below_grown hB hG17_15 hN0 (fun j hj => by cases hj; exact low)
       replace hm5_4 := At.grownAt hm5_4 hw hG17_15 (by decide)
       replace hw := hw17_15
       clear hG17_15
       refine WT_one (dd := none) 16 (by kernel_rfl) rfl rfl rfl rfl (Y_mapUpdate (enc := keyN) (encV := keyI) (k := ⟨f, g, i⟩) (v := ((didV e16_9 er17_12 id17_12 : Nat) : Int)) rfl rfl rfl tb_mp112 tb_key153 (fun a => ⟨a, rfl⟩) keyN_inj hdn (fun W100 hG101 hm102 => ⟨.inr (by kernel_rfl), ?_⟩))
       replace hz := At.grownMap hz hdn hG101
       replace hw := At.grownMap hw hdn hG101
       replace hD := Dia.grownMap hD hdn hdm hG101
       replace hB := below_grown hB hG101 hN0 (fun j hj => by cases hj; exact lod)
       replace hm5_4 := At.grownMap hm5_4 hdn hG101
       replace hX := Dw.trans hX (Dw.map hG101 lod hdn)
       clear hG101 hdn
       have hdn := hm102
       clear hm102
       refine WT_done (by kernel_rfl) ?_
       try clear sv99_hz sv99_hB sv99_hm5_4
       refine hK92 _ _ ?_
       clear hK92 K91
       refine WC_seq (fun K103 hK104 => ?_)
       refine WC_draw Ext tb_mix (fun W105 hE106 => ?_)
       replace hz := hE106.at hz
       replace hw := hE106.at hw
       replace hD := Dia.ext hE106 hD
       replace hdn := hE106.mapT hdn
       replace hB := below_ext hB hE106 hN0
       replace hm5_4 := hE106.at hm5_4
       replace hX := Dw.trans hX (Dw.ext hE106)
       have hS := Ext.refl W105
       refine WT_take (dd := some 118) 0 rfl (by kernel_rfl) (by kernel_rfl) (by kernel_rfl) rfl rfl rfl (fun _wq _hq => r_move (v := .pointer (some ⟨bw, 0, none⟩)) rfl) hS ?_
       refine WT_take (dd := some 119) 1 rfl (by kernel_rfl) (by kernel_rfl) (by kernel_rfl) rfl rfl rfl (fun _wq _hq => r_nilCheck_ptr rfl) hS ?_
       refine WT_take (dd := some 120) 2 rfl (by kernel_rfl) (by kernel_rfl) (by kernel_rfl) rfl rfl rfl (fun _wq _hq => r_fieldAddr (b := _) (o := _) rfl tb_fo114_1) hS ?_
       refine WT_take (dd := some 121) 3 rfl (by kernel_rfl) (by kernel_rfl) (by kernel_rfl) rfl rfl rfl (fun _wq hq => r_load1 (v := .map (some bd)) rfl tb_sc112 (At.cell (hq.at hw) rfl)) hS ?_
       refine WT_take (dd := some 122) 4 rfl (by kernel_rfl) (by kernel_rfl) (by kernel_rfl) rfl rfl rfl (fun _wq hq => r_loadW rfl tb_ag153 rfl (hq.at hm5_4)) hS ?_
       refine WT_take (dd := some 123) 5 rfl (by kernel_rfl) (by kernel_rfl) (by kernel_rfl) rfl rfl rfl (fun _wq hq => r_lookup (enc := keyN) (encV := keyI) (v0 := 0) (k := ⟨f, g, i⟩) rfl rfl tb_mp112 tb_key153 (fun a => ⟨a, rfl⟩) keyN_inj tb_z3 rfl (hq.mapT hdn)) hS ?_
       refine WT_take (dd := some 10) 6 rfl (by kernel_rfl) (by kernel_rfl) (by kernel_rfl) rfl rfl rfl (fun _wq _hq => r_assign (v := .int .i64 _) rfl) hS ?_
       refine WT_done (by kernel_rfl) ?_
       refine hK104 _ _ ?_
       clear hK104 K103
       refine WC_ret ?_
       repeat (first | refine thenQ_ret ?_ | refine blockQ_ret ?_)
       refine ret_t (v := .int .i64 _) rfl ?_
       have hm := walk_m (ab := false) hwf hw1 hf hg h24 lf0 lg0 hp9_3 hp10_3 hg11_7 hp15_6 hp16_7 hp16_9 hg17_12
       have hpre := ((((((hp9_3.pre.trans hp10_3.pre).trans hg11_7.pre).trans hp15_6.pre).trans hp16_7.pre).trans hp16_9.pre).trans hg17_12.pre)
       have hl7 := pre_len hpre
       have vid7 : didV e16_9 er17_12 id17_12 < ns17_12.length + 2 := didV_v hg17_12.valid
       refine ⟨_, _, didV e16_9 er17_12 id17_12, _, by rw [getL_putL hnd0]; rfl, hX, hz, hD, hw, hdn, ⟨vid7, hpre, fun _ T tf tg => walk_sta hwf hw1 hw2 hw3 hw4 hw5 hw6 hf hg f0 g0 h24 lf0 lg0 hp9_3 hp10_3 hg11_7 hp15_6 hp16_7 hp16_9 hg17_12 tf tg, fun z => absurd rfl z, hm⟩, fun z => ?_⟩
       have hdp := (hdone16_7 (back_0 hp16_9.err (didE_0.1 z).1)).pre (hp16_9.pre.trans hg17_12.pre)
       refine hdp.put (by omega) (by omega) vid7 ?_
       rw [M_pre hpre hf, M_pre hpre hg]
       exact hm z

end Go.Proofs.Ytpamgfbecgjjeaa
