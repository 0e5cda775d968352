/-
  The walks of new diagrams, of telling and listing members, and of marking nodes.
-/
import Derived.Test.YtpamgfbecgjjeaaProg
import Derived.Test.YtpamgfbecgjjeaaWZdd4
import Derived.Test.YtpamgfbecgjjeaaZ8
namespace Go.Proofs.Ytpamgfbecgjjeaa
set_option linter.unusedVariables false
set_option linter.unusedSimpArgs false
open Go Go.RowKit

theorem tb_z147 : zeroI Try.prog 147 = some (.agg #[.int .i64 0, .slice none 0 0, .map none]) := by kernel_rfl
theorem tb_size144 : (Try.prog.info? 144).map (·.size) = some 1 := by kernel_rfl
theorem tb_size145 : (Try.prog.info? 145).map (·.size) = some 1 := by kernel_rfl
theorem tb_build147_0_2 {f : Nat → Value} {w : World} {d : Option Nat} {ty : TypeId} {ps : String} {af : Array Edge} {g : Option (Nat × Bool)} {x0 x1 : Operand} {c0_0 c1_0 : Value} (h0 : evF f x0 = c0_0) (k0 : c0_0.cells = #[c0_0]) (h1 : evF f x1 = c1_0) (k1 : c1_0.cells = #[c1_0]) :
    (execOp (evF f) ⟨d, .build 147 #[(0, x0), (2, x1)], ty, ps, af, g⟩).run Try.prog w = .ok (.value (.agg #[c0_0, .slice none 0 0, c1_0])) w := by
  obtain ⟨i0, hi0, hz0⟩ := Option.bind_eq_some_iff.1 (show (Try.prog.info? 147).bind (·.zero) = _ from tb_z147)
  obtain ⟨j3, hj3, hs3⟩ := Option.map_eq_some_iff.1 tb_size3
  obtain ⟨j144, hj144, hs144⟩ := Option.map_eq_some_iff.1 tb_size144
  obtain ⟨j145, hj145, hs145⟩ := Option.map_eq_some_iff.1 tb_size145
  simp [execOp, h0, k0, h1, k1, Instr.build, zeroValue, typeInfo, sizeOf, hi0, hz0, run_underlying Try.underlying147, Instr.fill, cells_agg, hj3, hs3, hj144, hs144, hj145, hs145]
theorem tb_c75 : callB Try.prog 75 = true := by kernel_rfl
theorem tb_z100 : zeroI Try.prog 100 = some (.agg #[.pointer none]) := by kernel_rfl
theorem tb_size96 : (Try.prog.info? 96).map (·.size) = some 1 := by kernel_rfl
theorem tb_build100_0 {f : Nat → Value} {w : World} {d : Option Nat} {ty : TypeId} {ps : String} {af : Array Edge} {g : Option (Nat × Bool)} {x0 : Operand} {c0_0 : Value} (h0 : evF f x0 = c0_0) (k0 : c0_0.cells = #[c0_0]) :
    (execOp (evF f) ⟨d, .build 100 #[(0, x0)], ty, ps, af, g⟩).run Try.prog w = .ok (.value (.agg #[c0_0])) w := by
  obtain ⟨i0, hi0, hz0⟩ := Option.bind_eq_some_iff.1 (show (Try.prog.info? 100).bind (·.zero) = _ from tb_z100)
  obtain ⟨j96, hj96, hs96⟩ := Option.map_eq_some_iff.1 tb_size96
  simp [execOp, h0, k0, Instr.build, zeroValue, typeInfo, sizeOf, hi0, hz0, run_underlying Try.underlying100, Instr.fill, cells_agg, hj96, hs96]
theorem tb_sc102 : scalarB Try.prog 102 = true := by kernel_rfl
theorem tb_mp102 : isMap Try.prog 102 = some (3, 4) := by kernel_rfl
theorem tb_key3 : KeyOk Try.prog 3 (fun v => ∃ a : Int, v = keyI a) := by
  refine keyOk_of Try.underlying3 ?_ ?_ ?_ ?_
  · rintro w _ _ ⟨a, rfl⟩ ⟨c, rfl⟩
    refine ⟨a == c, ?_, by simp [keyI]⟩
    simp [Op.equal, keyI]
    exact run_equalIn_int w 9999 3 .i64 .i64 a c Try.underlying3
  · rintro _ _ ⟨a, rfl⟩ ⟨c, rfl⟩
    exact .inr ⟨a == c, by simp [Instr.sameNow, keyI], by simp [keyI]⟩
  · rintro w em _ ⟨a, rfl⟩
    have h2 : ∀ k, (Instr.checkKey em (k + 1) 3 (keyI a)).run Try.prog w = .ok () w := fun k => by
      simp [keyI, Instr.checkKey, run_underlying Try.underlying3]
    exact h2 9999
  · rintro _ ⟨a, rfl⟩
    simp [keyI, Instr.sameBits]

theorem tb_c83 : callB Try.prog 83 = true := by kernel_rfl
theorem tb_c82 : callB Try.prog 82 = true := by kernel_rfl
theorem tb_c84 : callB Try.prog 84 = true := by kernel_rfl
theorem tb_z102 : zeroI Try.prog 102 = some (.map none) := by kernel_rfl

theorem CountAll : ∀ n, CountAt n
  | 0 => fun N ba bm bz R ns id w _ _ _ hn => absurd hn (Nat.not_lt_zero _)
  | n + 1 => fun N ba bm bz R ns id w => C_count n N ba bm bz R ns id w (CountAll n)

theorem C_arena_New (R : Nat) (w : World) (hR : R ≤ 20000) :
    Fn Try.prog 75 #[.int .i64 (R : Int)] w fun v w' => ∃ ba bm, v = .tuple #[.pointer (some ⟨ba, 0, none⟩), .int .i64 0] ∧ Dia 147 150 w.heap.size ba bm R w' [] := by
 refine Fn_intro (n := 14) Try.func75 rfl rfl (Nat.le_of_ble_eq_true rfl) ?_
 have hB : Below w.heap.size w w := Below.refl _ _
 refine WC_seq (fun K1 hK2 => ?_)
 refine WC_region ?_
 refine WL_val (dd := some 2) rfl rfl rfl (r_assign (v := .pointer none) rfl) ?_
 refine WL_val (dd := some 3) rfl rfl rfl (r_assign (v := .int .i64 0) rfl) ?_
 refine WL_nil ?_
 refine hK2 _ _ ?_
 clear hK2 K1
 refine WC_seq (fun K3 hK4 => ?_)
 refine WC_seq (fun K5 hK6 => ?_)
 refine WC_region ?_
 refine WL_val (dd := some 4) rfl rfl rfl (r_move (v := .int .i64 _) rfl) ?_
 refine WL_val (dd := some 5) rfl rfl rfl (r_lss rfl rfl) ?_
 refine WL_split (dd := some 6) rfl rfl rfl (r_move (v := .bool _) rfl) (fun hs1_2 => ?_) (fun hs1_2 => ?_)
 ·
  try with_reducible replace hs1_2 := of_decide_eq_true hs1_2
  exact absurd hs1_2 (by omega)
 ·
  try with_reducible replace hs1_2 := of_decide_eq_false hs1_2
  refine WL_val (dd := some 7) rfl rfl rfl (r_move (v := .int .i64 _) rfl) ?_
  refine WL_val (dd := some 8) rfl rfl rfl (r_gtr rfl rfl) ?_
  refine WL_val (dd := some 9) rfl rfl rfl (r_pick_f rfl (v := .bool _) rfl) ?_
  refine WL_nil ?_
  refine hK6 _ _ ?_
  clear hK6 K5
  refine WC_cond (b := _) rfl (fun hc0 => ?_) (fun hc0 => ?_)
  ·
   try with_reducible replace hc0 := of_decide_eq_true hc0
   exact absurd hc0 (by omega)
  ·
   try with_reducible replace hc0 := of_decide_eq_false hc0
   refine WC_skip ?_
   refine hK4 _ _ ?_
   clear hK4 K3
   refine WC_seq (fun K7 hK8 => ?_)
   refine WC_region ?_
   refine WL_val (dd := some 10) rfl rfl rfl (r_move (v := .int .i64 _) rfl) ?_
   refine WL_step (dd := some 11) rfl rfl rfl (Y_makeMap (enc := keyN) (encV := keyI) (fun b3_1 W9 hb10 hE11 hm3_1 => ?_))
   have lo_b3_1 : w.heap.size ≤ b3_1 := hb10 ▸ (Below.size hB)
   clear hb10
   replace hB := below_ext hB hE11 (Nat.le_refl _)
   clear hE11
   refine WL_val (dd := some 12) rfl rfl rfl (tb_build147_0_2 (h0 := rfl) (k0 := rfl) (h1 := rfl) (k1 := rfl) (c0_0 := .int .i64 _) (c1_0 := .map (some b3_1))) ?_
   refine WL_step (dd := some 13) rfl rfl rfl (Y_box (c := #[_, _, _]) rfl rfl (fun b3_3 W12 hb13 hE14 hm3_3 => ?_))
   have lo_b3_3 : w.heap.size ≤ b3_3 := hb13 ▸ (Below.size hB)
   clear hb13
   replace hB := below_ext hB hE14 (Nat.le_refl _)
   replace hm3_1 := hE14.mapT hm3_1
   clear hE14
   refine WL_val (dd := some 2) rfl rfl rfl (r_assign (v := .pointer (some ⟨b3_3, 0, none⟩)) rfl) ?_
   refine WL_val (dd := some 3) rfl rfl rfl (r_assign (v := .int .i64 0) rfl) ?_
   refine WL_nil ?_
   refine hK8 _ _ ?_
   clear hK8 K7
   refine WC_ret ?_
   repeat (first | refine thenQ_ret ?_ | refine blockQ_ret ?_)
   refine ret_tt (v := .pointer (some ⟨b3_3, 0, none⟩)) rfl (v1 := .int .i64 0) rfl ?_
   refine ⟨hB, ?_⟩
   exact ⟨_, _, rfl, ⟨⟨_, hm3_3, OwT.nil⟩, hm3_1, lo_b3_3, lo_b3_1, Wf.nil, Nat.zero_le _, hR⟩⟩

theorem C_zdd_New (R : Nat) (w : World) (hR : R ≤ 20000) :
    Fn Try.prog 31 #[.int .i64 (R : Int)] w fun v w' => ∃ bz ba bm, v = .tuple #[.pointer (some ⟨bz, 0, none⟩), .int .i64 0] ∧ At w' bz #[.pointer (some ⟨ba, 0, none⟩)] 100 ∧ Dia 147 150 w.heap.size ba bm R w' [] := by
 refine Fn_intro (n := 17) Try.func31 rfl rfl (Nat.le_of_ble_eq_true rfl) ?_
 have hB : Below w.heap.size w w := Below.refl _ _
 refine WC_seq (fun K1 hK2 => ?_)
 refine WC_region ?_
 refine WL_val (dd := some 2) rfl rfl rfl (r_assign (v := .pointer none) rfl) ?_
 refine WL_val (dd := some 3) rfl rfl rfl (r_assign (v := .int .i64 0) rfl) ?_
 refine WL_nil ?_
 refine hK2 _ _ ?_
 clear hK2 K1
 refine WC_seq (fun K3 hK4 => ?_)
 refine WC_region ?_
 refine WL_val (dd := some 7) rfl rfl rfl (r_move (v := .int .i64 _) rfl) ?_
 refine WL_call (dd := some 8) rfl rfl rfl (r_call1 tb_c75 (v0 := .int .i64 _) rfl) (C_arena_New _ _ (by first | assumption | omega)) (fun v1_1 W5 hE6 hP1_1 => ?_)
 have hsz7 := (Below.size hB)
 replace hB := below_ext hB hE6 (Nat.le_refl _)
 clear hE6
 obtain ⟨ba, bm, rfl, hD⟩ := hP1_1
 replace hD := Dia.mono hD hsz7
 clear hsz7
 refine WL_val (dd := some 6) rfl rfl rfl (r_move (v := .tuple #[.pointer (some ⟨ba, 0, none⟩), .int .i64 0]) rfl) ?_
 refine WL_val (dd := some 9) rfl rfl rfl (r_ext2_0 (h := rfl)) ?_
 refine WL_val (dd := some 10) rfl rfl rfl (r_ext2_1 (h := rfl)) ?_
 refine WL_val (dd := some 4) rfl rfl rfl (r_assign (v := .pointer (some ⟨ba, 0, none⟩)) rfl) ?_
 refine WL_val (dd := some 5) rfl rfl rfl (r_assign (v := .int .i64 0) rfl) ?_
 refine WL_nil ?_
 refine hK4 _ _ ?_
 clear hK4 K3
 refine WC_seq (fun K8 hK9 => ?_)
 refine WC_seq (fun K10 hK11 => ?_)
 refine WC_region ?_
 refine WL_val (dd := some 11) rfl rfl rfl (r_move (v := .int .i64 0) rfl) ?_
 refine WL_val (dd := some 12) rfl rfl rfl (r_neq rfl rfl) ?_
 refine WL_nil ?_
 refine hK11 _ _ ?_
 clear hK11 K10
 refine WC_cond (b := _) rfl (fun hc0 => ?_) (fun hc0 => ?_)
 ·
  try with_reducible replace hc0 := of_decide_eq_true hc0
  exact absurd rfl hc0
 ·
  try with_reducible replace hc0 := of_decide_eq_false hc0
  refine WC_skip ?_
  refine hK9 _ _ ?_
  clear hK9 K8
  refine WC_seq (fun K12 hK13 => ?_)
  refine WC_region ?_
  refine WL_val (dd := some 14) rfl rfl rfl (r_move (v := .pointer (some ⟨ba, 0, none⟩)) rfl) ?_
  refine WL_val (dd := some 15) rfl rfl rfl (tb_build100_0 (h0 := rfl) (k0 := rfl) (c0_0 := .pointer (some ⟨ba, 0, none⟩))) ?_
  refine WL_step (dd := some 16) rfl rfl rfl (Y_box (c := #[_]) rfl rfl (fun b4_2 W14 hb15 hE16 hm4_2 => ?_))
  have lo_b4_2 : w.heap.size ≤ b4_2 := hb15 ▸ (Below.size hB)
  clear hb15
  replace hB := below_ext hB hE16 (Nat.le_refl _)
  replace hD := Dia.ext hE16 hD
  clear hE16
  refine WL_val (dd := some 2) rfl rfl rfl (r_assign (v := .pointer (some ⟨b4_2, 0, none⟩)) rfl) ?_
  refine WL_val (dd := some 3) rfl rfl rfl (r_assign (v := .int .i64 0) rfl) ?_
  refine WL_nil ?_
  refine hK13 _ _ ?_
  clear hK13 K12
  refine WC_ret ?_
  repeat (first | refine thenQ_ret ?_ | refine blockQ_ret ?_)
  refine ret_tt (v := .pointer (some ⟨b4_2, 0, none⟩)) rfl (v1 := .int .i64 0) rfl ?_
  refine ⟨hB, ?_⟩
  exact ⟨_, _, _, rfl, hm4_2, hD⟩

theorem C_tell (B bt bh : Nat) (m : Nat) (ks : List Int) (w : World) (hN0 : B ≤ w.heap.size) (hbt : At w bt #[.map (some bh)] 102) (hh : MapT keyI Value.bool w bh (allT ks)) (loh : B ≤ bh) :
    FnG Try.prog 83 #[.int .i64 (m : Int), .pointer (some ⟨bt, 0, none⟩)] w fun v w' => w.grownBy w' (some bh) ∧ MapT keyI Value.bool w' bh (allT (insK ks (m : Int))) := by
 refine FnG_intro (n := 5) Try.func83 rfl rfl (Nat.le_of_ble_eq_true rfl) ?_
 have hB : Below B w w := Below.refl _ _
 have hg0 : w.grownBy w (some bh) := World.grownBy.refl w (some bh)
 refine WC_region ?_
 refine WL_val (dd := some 3) rfl rfl rfl (r_load1 (v := .map (some bh)) rfl tb_sc102 (At.cell hbt rfl)) ?_
 refine WL_val (dd := some 4) rfl rfl rfl (r_move (v := .int .i64 _) rfl) ?_
 refine WL_step (dd := none) rfl rfl rfl (Y_mapUpdate (enc := keyI) (encV := Value.bool) (k := (m : Int)) (v := true) rfl rfl rfl tb_mp102 tb_key3 (fun a => ⟨a, rfl⟩) keyI_inj hh (fun W1 hG2 hm3 => ?_))
 replace hbt := At.grownMap hbt hh hG2
 replace hg0 := grownBy_trans hg0 hG2
 replace hB := below_grown hB hG2 hN0 (fun j hj => by cases hj; exact loh)
 clear hG2 hh
 have hh := hm3
 clear hm3
 rw [allT_put] at hh
 refine WL_nil ?_
 repeat (first | refine thenQ_exit ?_ | refine blockQ_exit ?_)
 refine norm_of_ret ?_
 repeat (first | refine thenQ_ret ?_ | refine blockQ_ret ?_)
 refine ret_  ?_
 exact ⟨hg0, hh⟩

def EachAt (n : Nat) : Prop := ∀ (B N ba bm bz bt bh R : Nat) (ns : List Nd) (f m : Nat) (ks : List Int) (w : World), (B ≤ w.heap.size) → (At w bz #[.pointer (some ⟨ba, 0, none⟩)] 100) → (Dia 147 150 N ba bm R w ns) → (At w bt #[.map (some bh)] 102) → (MapT keyI Value.bool w bh (allT ks)) → (B ≤ bh) → (bh ≠ bm) → (f < ns.length + 2) → (m < 16777216) → f + 1 ≤ n →
  FnG Try.prog 82 #[.pointer (some ⟨bz, 0, none⟩), .int .i64 (f : Int), .int .i64 (m : Int), .func (.func 83) #[] #[.pointer (some ⟨bt, 0, none⟩)]] w fun v w' => Below B w w' ∧ At w' bz #[.pointer (some ⟨ba, 0, none⟩)] 100 ∧ Dia 147 150 N ba bm R w' ns ∧ At w' bt #[.map (some bh)] 102 ∧ ∃ ks', MapT keyI Value.bool w' bh (allT ks') ∧ Told ns f m ks ks'

set_option maxRecDepth 10000 in
theorem C_each (n : Nat) (B N ba bm bz bt bh R : Nat) (ns : List Nd) (f m : Nat) (ks : List Int) (w : World) (ih : EachAt n) (hN0 : B ≤ w.heap.size) (hz : At w bz #[.pointer (some ⟨ba, 0, none⟩)] 100) (hD : Dia 147 150 N ba bm R w ns) (hbt : At w bt #[.map (some bh)] 102) (hh : MapT keyI Value.bool w bh (allT ks)) (loh : B ≤ bh) (hne : bh ≠ bm) (hf : f < ns.length + 2) (hm : m < 16777216) (hn : f + 1 ≤ n + 1) :
    FnG Try.prog 82 #[.pointer (some ⟨bz, 0, none⟩), .int .i64 (f : Int), .int .i64 (m : Int), .func (.func 83) #[] #[.pointer (some ⟨bt, 0, none⟩)]] w fun v w' => Below B w w' ∧ At w' bz #[.pointer (some ⟨ba, 0, none⟩)] 100 ∧ Dia 147 150 N ba bm R w' ns ∧ At w' bt #[.map (some bh)] 102 ∧ ∃ ks', MapT keyI Value.bool w' bh (allT ks') ∧ Told ns f m ks ks' := by
 refine FnG_intro (n := 42) Try.func82 rfl rfl (Nat.le_of_ble_eq_true rfl) ?_
 have hB : Below B w w := Below.refl _ _
 have hwf := hD.wf
 have hroom := hD.room
 have htop := hD.top
 refine WC_seq (fun K1 hK2 => ?_)
 refine WC_seq (fun K3 hK4 => ?_)
 refine WC_region ?_
 refine WL_val (dd := some 12) rfl rfl rfl (r_move (v := .int .i64 _) rfl) ?_
 refine WL_val (dd := some 13) rfl rfl rfl (r_eql rfl rfl) ?_
 refine WL_nil ?_
 refine hK4 _ _ ?_
 clear hK4 K3
 refine WC_cond (b := _) rfl (fun hc0 => ?_) (fun hc0 => ?_)
 ·
  try with_reducible replace hc0 := of_decide_eq_true hc0
  refine WC_region ?_
  refine WL_val (dd := some 14) rfl rfl rfl (r_move (v := .func (.func 83) #[] #[.pointer (some ⟨bt, 0, none⟩)]) rfl) ?_
  refine WL_val (dd := some 15) rfl rfl rfl (r_move (v := .int .i64 _) rfl) ?_
  refine WL_callG (dd := some 16) rfl rfl rfl (r_call (q := 83) (first := #[]) (cap := #[.pointer (some ⟨bt, 0, none⟩)]) (vs := #[.int .i64 _, .pointer (some ⟨bt, 0, none⟩)]) rfl tb_c83 (by simp only [List.map_toArray, List.map_cons, List.map_nil, List.append_toArray, List.nil_append, List.cons_append]; rfl)) (C_tell B bt bh m ks _ (Nat.le_trans hN0 (Below.size hB)) hbt hh loh) (fun v1_2 W5 hP1_2 => ?_)
  obtain ⟨hG7, hm8⟩ := hP1_2
  replace hz := At.grownMap hz hh hG7
  replace hD := Dia.grownMap hD hh hne hG7
  replace hbt := At.grownMap hbt hh hG7
  replace hB := below_grown hB hG7 hN0 (fun j hj => by cases hj; exact loh)
  clear hG7
  replace hh := hm8
  refine WL_nil ?_
  refine hK2 _ _ ?_
  clear hK2 K1
  refine WC_seq (fun K9 hK10 => ?_)
  refine WC_region ?_
  refine WL_val (dd := some 18) rfl rfl rfl (r_move (v := .pointer (some ⟨bz, 0, none⟩)) rfl) ?_
  refine WL_val (dd := some 19) rfl rfl rfl (r_nilCheck_ptr rfl) ?_
  refine WL_val (dd := some 20) rfl rfl rfl (r_fieldAddr (b := _) (o := _) rfl tb_fo100_0) ?_
  refine WL_val (dd := some 21) rfl rfl rfl (r_load1 (v := .pointer (some ⟨ba, 0, none⟩)) rfl tb_sc96 (At.cell hz rfl)) ?_
  refine WL_val (dd := some 22) rfl rfl rfl (r_move (v := .int .i64 _) rfl) ?_
  refine WL_call (dd := some 23) rfl rfl rfl (r_call2 tb_c86 (v0 := .pointer (some ⟨ba, 0, none⟩)) rfl (v1 := .int .i64 _) rfl) (C___arena_Arena__Node N ba bm R ns (f : Int) _ hD (by omega)) (fun v2_5 W11 hE12 hP2_5 => ?_)
  have hsz13 := (Nat.le_trans hN0 (Below.size hB))
  replace hz := hE12.at hz
  replace hD := Dia.ext hE12 hD
  replace hbt := hE12.at hbt
  replace hh := hE12.mapT hh
  replace hB := below_ext hB hE12 hN0
  clear hE12
  obtain rfl := hP2_5
  clear hsz13
  refine WL_val (dd := some 17) rfl rfl rfl (r_move (v := .tuple #[.int .i64 _, .int .i64 _, .int .i64 _, .bool _]) rfl) ?_
  refine WL_val (dd := some 24) rfl rfl rfl (r_ext4_0 (h := rfl)) ?_
  refine WL_val (dd := some 25) rfl rfl rfl (r_ext4_1 (h := rfl)) ?_
  refine WL_val (dd := some 26) rfl rfl rfl (r_ext4_2 (h := rfl)) ?_
  refine WL_val (dd := some 27) rfl rfl rfl (r_ext4_3 (h := rfl)) ?_
  refine WL_val (dd := some 8) rfl rfl rfl (r_assign (v := .int .i64 _) rfl) ?_
  refine WL_val (dd := some 9) rfl rfl rfl (r_assign (v := .int .i64 _) rfl) ?_
  refine WL_val (dd := some 10) rfl rfl rfl (r_assign (v := .int .i64 _) rfl) ?_
  refine WL_val (dd := some 11) rfl rfl rfl (r_assign (v := .bool _) rfl) ?_
  refine WL_nil ?_
  refine hK10 _ _ ?_
  clear hK10 K9
  refine WC_seq (fun K14 hK15 => ?_)
  refine WC_region ?_
  refine WL_val (dd := some 28) rfl rfl rfl (r_move (v := .bool _) rfl) ?_
  refine WL_nil ?_
  refine hK15 _ _ ?_
  clear hK15 K14
  refine WC_cond (b := _) rfl (fun hc1 => ?_) (fun hc1 => ?_)
  ·
   try with_reducible replace hc1 := of_decide_eq_true hc1
   exact absurd (there_iff.1 hc1).1 (by omega)
  ·
   try with_reducible replace hc1 := of_decide_eq_false hc1
   refine WC_skip ?_
   repeat (first | refine thenQ_exit ?_ | refine blockQ_exit ?_)
   refine norm_of_ret ?_
   repeat (first | refine thenQ_ret ?_ | refine blockQ_ret ?_)
   refine ret_  ?_
   exact ⟨hB, hz, hD, hbt, _, hh, told_1 hc0⟩
 ·
  try with_reducible replace hc0 := of_decide_eq_false hc0
  refine WC_skip ?_
  refine hK2 _ _ ?_
  clear hK2 K1
  refine WC_seq (fun K16 hK17 => ?_)
  refine WC_region ?_
  refine WL_val (dd := some 18) rfl rfl rfl (r_move (v := .pointer (some ⟨bz, 0, none⟩)) rfl) ?_
  refine WL_val (dd := some 19) rfl rfl rfl (r_nilCheck_ptr rfl) ?_
  refine WL_val (dd := some 20) rfl rfl rfl (r_fieldAddr (b := _) (o := _) rfl tb_fo100_0) ?_
  refine WL_val (dd := some 21) rfl rfl rfl (r_load1 (v := .pointer (some ⟨ba, 0, none⟩)) rfl tb_sc96 (At.cell hz rfl)) ?_
  refine WL_val (dd := some 22) rfl rfl rfl (r_move (v := .int .i64 _) rfl) ?_
  refine WL_call (dd := some 23) rfl rfl rfl (r_call2 tb_c86 (v0 := .pointer (some ⟨ba, 0, none⟩)) rfl (v1 := .int .i64 _) rfl) (C___arena_Arena__Node N ba bm R ns (f : Int) _ hD (by omega)) (fun v2_5 W18 hE19 hP2_5 => ?_)
  have hsz20 := (Nat.le_trans hN0 (Below.size hB))
  replace hz := hE19.at hz
  replace hD := Dia.ext hE19 hD
  replace hbt := hE19.at hbt
  replace hh := hE19.mapT hh
  replace hB := below_ext hB hE19 hN0
  clear hE19
  obtain rfl := hP2_5
  clear hsz20
  refine WL_val (dd := some 17) rfl rfl rfl (r_move (v := .tuple #[.int .i64 _, .int .i64 _, .int .i64 _, .bool _]) rfl) ?_
  refine WL_val (dd := some 24) rfl rfl rfl (r_ext4_0 (h := rfl)) ?_
  refine WL_val (dd := some 25) rfl rfl rfl (r_ext4_1 (h := rfl)) ?_
  refine WL_val (dd := some 26) rfl rfl rfl (r_ext4_2 (h := rfl)) ?_
  refine WL_val (dd := some 27) rfl rfl rfl (r_ext4_3 (h := rfl)) ?_
  refine WL_val (dd := some 8) rfl rfl rfl (r_assign (v := .int .i64 _) rfl) ?_
  refine WL_val (dd := some 9) rfl rfl rfl (r_assign (v := .int .i64 _) rfl) ?_
  refine WL_val (dd := some 10) rfl rfl rfl (r_assign (v := .int .i64 _) rfl) ?_
  refine WL_val (dd := some 11) rfl rfl rfl (r_assign (v := .bool _) rfl) ?_
  refine WL_nil ?_
  refine hK17 _ _ ?_
  clear hK17 K16
  refine WC_seq (fun K21 hK22 => ?_)
  refine WC_region ?_
  refine WL_val (dd := some 28) rfl rfl rfl (r_move (v := .bool _) rfl) ?_
  refine WL_nil ?_
  refine hK22 _ _ ?_
  clear hK22 K21
  refine WC_cond (b := _) rfl (fun hc1 => ?_) (fun hc1 => ?_)
  ·
   try with_reducible replace hc1 := of_decide_eq_true hc1
   refine WC_seq (fun K23 hK24 => ?_)
   have hnd := node_of hwf hf hc1
   have h1 := hnd.ltlo
   have h2 := hnd.lthi
   have h3 := hnd.l24
   have hpl : 2 ^ (nodeI ns (f : Int)).l ≤ 8388608 := by have := Nat.pow_le_pow_right (show 0 < 2 by decide) (show (nodeI ns (f : Int)).l ≤ 23 by omega); simpa using this
   refine WC_region ?_
   refine WL_val (dd := some 29) rfl rfl rfl (r_move (v := .pointer (some ⟨bz, 0, none⟩)) rfl) ?_
   refine WL_val (dd := some 30) rfl rfl rfl (r_move (v := .int .i64 _) rfl) ?_
   refine WL_val (dd := some 31) rfl rfl rfl (r_move (v := .int .i64 _) rfl) ?_
   refine WL_val (dd := some 32) rfl rfl rfl (r_move (v := .func (.func 83) #[] #[.pointer (some ⟨bt, 0, none⟩)]) rfl) ?_
   refine WL_callG (dd := some 33) rfl rfl rfl (r_call4 tb_c82 (v0 := .pointer (some ⟨bz, 0, none⟩)) rfl (v1 := .int .i64 _) rfl (v2 := .int .i64 _) rfl (v3 := .func (.func 83) #[] #[.pointer (some ⟨bt, 0, none⟩)]) rfl) (ih B N ba bm bz bt bh R ns (nodeI ns (f : Int)).lo m ks _ (Nat.le_trans hN0 (Below.size hB)) hz hD hbt hh loh hne hnd.vlo hm (by omega)) (fun v4_4 W25 hP4_4 => ?_)
   obtain ⟨hBt, hz, hD, hbt, ks4_4, hh, htd4_4⟩ := hP4_4
   replace hB := Below.trans hB hBt
   refine WL_nil ?_
   refine hK24 _ _ ?_
   clear hK24 K23
   refine WC_region ?_
   refine WL_val (dd := some 34) rfl rfl rfl (r_move (v := .pointer (some ⟨bz, 0, none⟩)) rfl) ?_
   refine WL_val (dd := some 35) rfl rfl rfl (r_move (v := .int .i64 _) rfl) ?_
   refine WL_val (dd := some 36) rfl rfl rfl (r_move (v := .int .i64 _) rfl) ?_
   refine WL_val (dd := some 37) rfl rfl rfl (r_move (v := .int .i64 _) rfl) ?_
   refine WL_val (dd := some 38) rfl rfl rfl (r_shl (m := 1) rfl rfl (by omega) (by simp only [IntKind.bits]; omega) (by exact shl1 _ _ (by simp only [bitsN]; omega))) ?_
   refine WL_val (dd := some 39) rfl rfl rfl (r_or (n := _) rfl rfl rfl (by simp only [topN]; omega) (by simp only [topN, Int.toNat_natCast, Nat.one_mul]; omega)) ?_
   refine WL_val (dd := some 40) rfl rfl rfl (r_move (v := .func (.func 83) #[] #[.pointer (some ⟨bt, 0, none⟩)]) rfl) ?_
   refine WL_callG (dd := some 41) rfl rfl rfl (r_call4 tb_c82 (v0 := .pointer (some ⟨bz, 0, none⟩)) rfl (v1 := .int .i64 _) rfl (v2 := .int .i64 _) rfl (v3 := .func (.func 83) #[] #[.pointer (some ⟨bt, 0, none⟩)]) rfl) (ih B N ba bm bz bt bh R ns (nodeI ns (f : Int)).hi (m ||| 1 * 2 ^ (nodeI ns (f : Int)).l) ks4_4 _ (Nat.le_trans hN0 (Below.size hB)) hz hD hbt hh loh hne hnd.vhi (Nat.or_lt_two_pow (n := 24) hm (by rw [Nat.one_mul]; omega)) (by omega)) (fun v5_7 W27 hP5_7 => ?_)
   obtain ⟨hBt, hz, hD, hbt, ks5_7, hh, htd5_7⟩ := hP5_7
   replace hB := Below.trans hB hBt
   refine WL_nil ?_
   repeat (first | refine thenQ_exit ?_ | refine blockQ_exit ?_)
   refine norm_of_ret ?_
   repeat (first | refine thenQ_ret ?_ | refine blockQ_ret ?_)
   refine ret_  ?_
   exact ⟨hB, hz, hD, hbt, _, hh, told_node hwf hnd htd4_4 htd5_7⟩
  ·
   try with_reducible replace hc1 := of_decide_eq_false hc1
   refine WC_skip ?_
   repeat (first | refine thenQ_exit ?_ | refine blockQ_exit ?_)
   refine norm_of_ret ?_
   repeat (first | refine thenQ_ret ?_ | refine blockQ_ret ?_)
   refine ret_  ?_
   exact ⟨hB, hz, hD, hbt, _, hh, told_0 (no_node hf hc1) hc0⟩

theorem EachAll : ∀ n, EachAt n
  | 0 => fun B N ba bm bz bt bh R ns f m ks w _ _ _ _ _ _ _ _ _ hn => by omega
  | n + 1 => fun B N ba bm bz bt bh R ns f m ks w => C_each n B N ba bm bz bt bh R ns f m ks w (EachAll n)
def SortAt (n : Nat) : Prop := ∀ (xl : Value) (l : List Int) (w : World), SlT encI 1 w xl l → TyS 3 w xl l → l.Nodup → l.length ≤ 1000000 → l.length < n → Fn Try.prog 84 #[xl] w fun v w' => SlT encI 1 w' v (ofI l) ∧ TyS 3 w' v (ofI l)

set_option maxRecDepth 10000 in
theorem C_sorted (n : Nat) (xl : Value) (l : List Int) (w : World) (ih : SortAt n) (hl : SlT encI 1 w xl l) (hty : TyS 3 w xl l) (hnd : l.Nodup) (hlb : l.length ≤ 1000000) (hn : l.length < n + 1) :
    Fn Try.prog 84 #[xl] w fun v w' => SlT encI 1 w' v (ofI l) ∧ TyS 3 w' v (ofI l) := by
 refine Fn_intro (n := 62) Try.func84 rfl rfl (Nat.le_of_ble_eq_true rfl) ?_
 have hB : Below w.heap.size w w := Below.refl _ _
 have hC : l.length ≤ slC xl := (Sl.eqv hl).2.1
 refine WC_seq (fun K1 hK2 => ?_)
 refine WC_region ?_
 refine WL_val (dd := some 2) rfl rfl rfl (r_assign (v := .slice none 0 0) rfl) ?_
 refine WL_nil ?_
 refine hK2 _ _ ?_
 clear hK2 K1
 refine WC_seq (fun K3 hK4 => ?_)
 refine WC_seq (fun K5 hK6 => ?_)
 refine WC_region ?_
 refine WL_val (dd := some 6) rfl rfl rfl (r_move (v := xl) rfl) ?_
 refine WL_val (dd := some 7) rfl rfl rfl (r_lenS (v := xl) rfl (Below.slT hB hl) tb_el22) ?_
 refine WL_val (dd := some 8) rfl rfl rfl (r_lss rfl rfl) ?_
 refine WL_nil ?_
 refine hK6 _ _ ?_
 clear hK6 K5
 refine WC_cond (b := _) rfl (fun hc0 => ?_) (fun hc0 => ?_)
 ·
  try with_reducible replace hc0 := of_decide_eq_true hc0
  refine WC_seq (fun K7 hK8 => ?_)
  refine WC_region ?_
  refine WL_val (dd := some 9) rfl rfl rfl (r_move (v := xl) rfl) ?_
  refine WL_val (dd := some 2) rfl rfl rfl (r_assign (v := xl) rfl) ?_
  refine WL_nil ?_
  refine hK8 _ _ ?_
  clear hK8 K7
  refine WC_ret ?_
  repeat (first | refine thenQ_ret ?_ | refine blockQ_ret ?_)
  try clear hK4 K3
  refine ret_t (v := xl) rfl ?_
  refine ⟨hB, ?_⟩
  rw [← sort_small (by omega)]
  exact ⟨Below.slT hB hl, TyS.ext hB hty⟩
 ·
  try with_reducible replace hc0 := of_decide_eq_false hc0
  refine WC_skip ?_
  refine hK4 _ _ ?_
  clear hK4 K3
  refine WC_seq (fun K9 hK10 => ?_)
  refine WC_draw Ext tb_mix (fun W11 hE12 => ?_)
  replace hB := below_ext hB hE12 (Nat.le_refl _)
  have hS := Ext.refl W11
  refine WT_take (dd := some 10) 0 rfl (by kernel_rfl) (by kernel_rfl) (by kernel_rfl) rfl rfl rfl (fun _wq _hq => r_move (v := xl) rfl) hS ?_
  refine WT_take (dd := some 11) 1 rfl (by kernel_rfl) (by kernel_rfl) (by kernel_rfl) rfl rfl rfl (fun _wq _hq => r_move (v := xl) rfl) hS ?_
  refine WT_take (dd := some 12) 2 rfl (by kernel_rfl) (by kernel_rfl) (by kernel_rfl) rfl rfl rfl (fun _wq hq => r_lenS (v := xl) rfl (hq.slT (Below.slT hB hl)) tb_el22) hS ?_
  refine WT_take (dd := some 13) 3 rfl (by kernel_rfl) (by kernel_rfl) (by kernel_rfl) rfl rfl rfl (fun _wq _hq => r_quoN (n := 2) rfl rfl rfl (by omega) (by first | assumption | (simp only [topN]; omega) | (simp only [topN]; decide))) hS ?_
  refine WT_take (dd := some 14) 4 rfl (by kernel_rfl) (by kernel_rfl) (by kernel_rfl) rfl rfl rfl (fun _wq hq => r_sliceHi (v := xl) rfl (hq.slT (Below.slT hB hl)) tb_el22 rfl (by omega) (by omega)) hS ?_
  have hp3_4 : SlT encI 1 w (slOf 1 xl 0 (l.length / 2) (slC xl)) ((l.drop 0).take (l.length / 2 - 0)) := SlT.part encI_len hl (by omega) (by omega) (by omega) (by omega)
  refine WT_take (dd := some 16) 6 rfl (by kernel_rfl) (by kernel_rfl) (by kernel_rfl) rfl rfl rfl (fun _wq _hq => r_move (v := xl) rfl) hS ?_
  refine WT_take (dd := some 17) 7 rfl (by kernel_rfl) (by kernel_rfl) (by kernel_rfl) rfl rfl rfl (fun _wq _hq => r_move (v := xl) rfl) hS ?_
  refine WT_take (dd := some 18) 8 rfl (by kernel_rfl) (by kernel_rfl) (by kernel_rfl) rfl rfl rfl (fun _wq hq => r_lenS (v := xl) rfl (hq.slT (Below.slT hB hl)) tb_el22) hS ?_
  refine WT_take (dd := some 19) 9 rfl (by kernel_rfl) (by kernel_rfl) (by kernel_rfl) rfl rfl rfl (fun _wq _hq => r_quoN (n := 2) rfl rfl rfl (by omega) (by first | assumption | (simp only [topN]; omega) | (simp only [topN]; decide))) hS ?_
  refine WT_take (dd := some 20) 10 rfl (by kernel_rfl) (by kernel_rfl) (by kernel_rfl) rfl rfl rfl (fun _wq hq => r_sliceLo (v := xl) rfl (hq.slT (Below.slT hB hl)) tb_el22 rfl (by omega) (by omega)) hS ?_
  have hp3_10 : SlT encI 1 w (slOf 1 xl (l.length / 2) l.length (slC xl)) ((l.drop (l.length / 2)).take (l.length - l.length / 2)) := SlT.part encI_len hl (by omega) (by omega) (by omega) (by omega)
  refine WT_one (dd := some 15) 5 (by kernel_rfl) rfl rfl rfl rfl (Yd.call (r_call1 tb_c84 (v0 := slOf 1 xl 0 (l.length / 2) (slC xl)) rfl) (ih _ (l.take (l.length / 2)) _ (by have h := (Below.slT hB hp3_4); rw [List.drop_zero, Nat.sub_zero] at h; exact h) (TyS.ext hB (TyS.part hty hl (by omega) (by rw [List.length_take]; omega) (fun q e => q (by rw [e]; rfl)))) (hnd.sublist (List.take_sublist _ _)) (by rw [List.length_take]; omega) (by rw [List.length_take]; omega)) (fun v3_5 W13 hE14 hP3_5 => ⟨.inl (hS.trans hE14), ?_⟩))
  have hsz15 := (Below.size hB)
  have sv16_hB := hB
  replace hB := below_ext hB hE14 (Nat.le_refl _)
  replace hS := hS.trans hE14
  clear hE14
  obtain ⟨hP3_5, hty3_5⟩ := hP3_5
  clear hsz15
  refine WT_one (dd := some 21) 11 (by kernel_rfl) rfl rfl rfl rfl (Yd.call (r_call1 tb_c84 (v0 := slOf 1 xl (l.length / 2) l.length (slC xl)) rfl) (ih _ (l.drop (l.length / 2)) _ (by have h := (Below.slT hB hp3_10); rw [List.take_of_length_le (by simp)] at h; exact h) (TyS.ext hB (TyS.part hty hl (by omega) (by rw [List.length_drop]) (fun q e => q (by rw [e]; rfl)))) (hnd.sublist (List.drop_sublist _ _)) (by rw [List.length_drop]; omega) (by rw [List.length_drop]; omega)) (fun v3_11 W17 hE18 hP3_11 => ⟨.inl (hS.trans hE18), ?_⟩))
  have hsz19 := (Below.size hB)
  replace hB := below_ext hB hE18 (Nat.le_refl _)
  replace hP3_5 := hE18.slT hP3_5
  replace hty3_5 := TyS.ext hE18 hty3_5
  replace hS := hS.trans hE18
  clear hE18
  obtain ⟨hP3_11, hty3_11⟩ := hP3_11
  clear hsz19
  refine WT_take (dd := some 3) 12 rfl (by kernel_rfl) (by kernel_rfl) (by kernel_rfl) rfl rfl rfl (fun _wq _hq => r_assign (v := v3_5) rfl) hS ?_
  refine WT_take (dd := some 4) 13 rfl (by kernel_rfl) (by kernel_rfl) (by kernel_rfl) rfl rfl rfl (fun _wq _hq => r_assign (v := v3_11) rfl) hS ?_
  refine WT_done (by kernel_rfl) ?_
  try clear sv16_hB
  refine hK10 _ _ ?_
  clear hK10 K9
  refine WC_seq (fun K20 hK21 => ?_)
  have hz23 := Below.slT hB hl
  have hz24 := Below.slT hB hp3_4
  have hz25 := Below.slT hB hp3_10
  have hBo22 := hB
  replace hB := Below.refl W17.heap.size W17
  have e1 := ofI_len (l.take (l.length / 2))
  have e2 := ofI_len (l.drop (l.length / 2))
  rw [List.length_take] at e1
  rw [List.length_drop] at e2
  refine WC_region ?_
  refine WL_val (dd := some 5) rfl rfl rfl (r_assign (v := .slice none 0 0) rfl) ?_
  refine WL_nil ?_
  refine hK21 _ _ ?_
  clear hK21 K20
  refine WC_seq (fun K26 hK27 => ?_)
  refine WC_block ?_
  refine WC_loop (σ := (Value) × (Value) × (Value) × (List Int) × (List Int) × (List Int)) [3, 4, 5, 22, 23, 24, 25, 26, 27, 28, 29, 30, 31, 32, 33, 34, 35, 36, 37, 38, 39, 40, 41, 42, 43, 44, 45, 46, 47, 48, 49, 50, 51, 52, 53, 54, 55, 56, 57, 58, 59, 60] (fun (va, vb, v0, la, lb, out) => [(3, va), (4, vb), (5, v0)]) (fun sg W => match sg with | (va, vb, v0, la, lb, out) => (Below W17.heap.size W17 W) ∧ (OwT encI 1 3 W W17.heap.size v0 (out)) ∧ (SlT encI 1 W17 va la) ∧ (SlT encI 1 W17 vb lb) ∧ (TyS 3 W17 va la) ∧ (TyS 3 W17 vb lb) ∧ (out.length + (la.length + lb.length) ≤ 1000000) ∧ (out ++ mrg la lb = mrg (ofI (l.take (l.length / 2))) (ofI (l.drop (l.length / 2)))) ∧ (True)) (fun (va, vb, v0, la, lb, out) => la.length + lb.length) ((v3_5, v3_11, .slice none 0 0, ofI (l.take (l.length / 2)), ofI (l.drop (l.length / 2)), [])) ⟨rfl, rfl, rfl, trivial⟩ ⟨hB, OwT.nil, hP3_5, hP3_11, hty3_5, hty3_11, (by simp; omega), rfl, trivial⟩ ?_
  clear hB
  rintro ⟨va, vb, v0, la, lb, out⟩ g29 W28 ⟨hB, ho, ha, hb, hta, htb, hsum, hmr, _⟩ J30 hJ31
  refine WC_seq (fun K32 hK33 => ?_)
  refine WC_seq (fun K34 hK35 => ?_)
  refine WC_region ?_
  refine WL_val (dd := some 22) rfl rfl rfl (r_move (v := va) rfl) ?_
  refine WL_val (dd := some 23) rfl rfl rfl (r_lenS (v := va) rfl (Below.slT hB ha) tb_el22) ?_
  refine WL_val (dd := some 24) rfl rfl rfl (r_move (v := vb) rfl) ?_
  refine WL_val (dd := some 25) rfl rfl rfl (r_lenS (v := vb) rfl (Below.slT hB hb) tb_el22) ?_
  refine WL_val (dd := some 26) rfl rfl rfl (r_addI rfl rfl (by omega) (by omega)) ?_
  refine WL_val (dd := some 27) rfl rfl rfl (r_gtr rfl rfl) ?_
  refine WL_nil ?_
  refine hK35 _ _ ?_
  clear hK35 K34
  refine WC_cond (b := _) rfl (fun hc1 => ?_) (fun hc1 => ?_)
  ·
   try with_reducible replace hc1 := of_decide_eq_true hc1
   refine WC_skip ?_
   refine hK33 _ _ ?_
   clear hK33 K32
   refine WC_block ?_
   refine WC_seq (fun K36 hK37 => ?_)
   refine WC_draw Ext tb_mix (fun W38 hE39 => ?_)
   replace hB := below_ext hB hE39 (Nat.le_refl _)
   replace ho := hE39.ow ho
   have hS := Ext.refl W38
   refine WT_take (dd := some 28) 0 rfl (by kernel_rfl) (by kernel_rfl) (by kernel_rfl) rfl rfl rfl (fun _wq _hq => r_move (v := vb) rfl) hS ?_
   refine WT_take (dd := some 29) 1 rfl (by kernel_rfl) (by kernel_rfl) (by kernel_rfl) rfl rfl rfl (fun _wq hq => r_lenS (v := vb) rfl (hq.slT (Below.slT hB hb)) tb_el22) hS ?_
   refine WT_take (dd := some 30) 2 rfl (by kernel_rfl) (by kernel_rfl) (by kernel_rfl) rfl rfl rfl (fun _wq _hq => r_eql rfl rfl) hS ?_
   refine WT_split (dd := some 31) 3 rfl (by kernel_rfl) (by kernel_rfl) (by kernel_rfl) rfl rfl rfl (fun wq hq => r_move (v := .bool _) rfl) hS (fun hs6_3 => ?_) (fun hs6_3 => ?_)
   ·
    try with_reducible replace hs6_3 := of_decide_eq_true hs6_3
    refine WT_pass (dd := some 32) 4 rfl (by kernel_rfl) (by kernel_rfl) (by kernel_rfl) rfl rfl rfl hS ?_
    refine WT_pass (dd := some 33) 5 rfl (by kernel_rfl) (by kernel_rfl) (by kernel_rfl) rfl rfl rfl hS ?_
    refine WT_pass (dd := some 34) 6 rfl (by kernel_rfl) (by kernel_rfl) (by kernel_rfl) rfl rfl rfl hS ?_
    refine WT_pass (dd := some 35) 7 rfl (by kernel_rfl) (by kernel_rfl) (by kernel_rfl) rfl rfl rfl hS ?_
    refine WT_pass (dd := some 36) 8 rfl (by kernel_rfl) (by kernel_rfl) (by kernel_rfl) rfl rfl rfl hS ?_
    refine WT_pass (dd := some 37) 9 rfl (by kernel_rfl) (by kernel_rfl) (by kernel_rfl) rfl rfl rfl hS ?_
    refine WT_pass (dd := some 38) 10 rfl (by kernel_rfl) (by kernel_rfl) (by kernel_rfl) rfl rfl rfl hS ?_
    refine WT_pass (dd := some 39) 11 rfl (by kernel_rfl) (by kernel_rfl) (by kernel_rfl) rfl rfl rfl hS ?_
    refine WT_pass (dd := some 40) 12 rfl (by kernel_rfl) (by kernel_rfl) (by kernel_rfl) rfl rfl rfl hS ?_
    refine WT_pass (dd := some 41) 13 rfl (by kernel_rfl) (by kernel_rfl) (by kernel_rfl) rfl rfl rfl hS ?_
    refine WT_pass (dd := some 42) 14 rfl (by kernel_rfl) (by kernel_rfl) (by kernel_rfl) rfl rfl rfl hS ?_
    refine WT_pass (dd := some 43) 15 rfl (by kernel_rfl) (by kernel_rfl) (by kernel_rfl) rfl rfl rfl hS ?_
    refine WT_take (dd := some 44) 16 rfl (by kernel_rfl) (by kernel_rfl) (by kernel_rfl) rfl rfl rfl (fun _wq _hq => r_pick_t rfl (v := .bool true) rfl) hS ?_
    refine WT_done (by kernel_rfl) ?_
    refine hK37 _ _ ?_
    clear hK37 K36
    refine WC_cond_true rfl ?_
    have hCa : la.length ≤ slC va := (Sl.eqv ha).2.1
    refine WC_draw (fun a b => a.grownBy b v0.ownBlock) tb_mix (fun W40 hE41 => ?_)
    replace hB := below_ext hB hE41 (Nat.le_refl _)
    replace ho := hE41.ow ho
    have hrow42 := ho
    have hS := World.grownBy.refl W40 v0.ownBlock
    refine WT_take (dd := some 45) 0 rfl (by kernel_rfl) (by kernel_rfl) (by kernel_rfl) rfl rfl rfl (fun _wq _hq => r_move (v := v0) rfl) hS ?_
    refine WT_take (dd := some 46) 1 rfl (by kernel_rfl) (by kernel_rfl) (by kernel_rfl) rfl rfl rfl (fun _wq _hq => r_move (v := va) rfl) hS ?_
    refine WT_take (dd := some 47) 2 rfl (by kernel_rfl) (by kernel_rfl) (by kernel_rfl) rfl rfl rfl (fun _wq hq => r_idxS (j := 0) (v := va) rfl (Below.slT (below_grown hB hq (Nat.le_refl _) (fun j hj => OwT.lt hrow42 j hj)) ha) rfl tb_el22 (by omega) (by omega)) hS ?_
    refine WT_take (dd := some 48) 3 rfl (by kernel_rfl) (by kernel_rfl) (by kernel_rfl) rfl rfl rfl (fun _wq hq => r_load1 (v := .int .i64 _) rfl tb_sc3 (SlT.cell (j := 0) (Below.slT (below_grown hB hq (Nat.le_refl _) (fun j hj => OwT.lt hrow42 j hj)) ha) encI_len 0 (by omega) (by omega) 0 rfl)) hS ?_
    refine WT_take (dd := some 51) 6 rfl (by kernel_rfl) (by kernel_rfl) (by kernel_rfl) rfl rfl rfl (fun _wq _hq => r_move (v := va) rfl) hS ?_
    refine WT_take (dd := some 52) 7 rfl (by kernel_rfl) (by kernel_rfl) (by kernel_rfl) rfl rfl rfl (fun _wq hq => r_sliceLo (v := va) rfl (Below.slT (below_grown hB hq (Nat.le_refl _) (fun j hj => OwT.lt hrow42 j hj)) ha) tb_el22 rfl (by omega) (by omega)) hS ?_
    have hp7_7 : SlT encI 1 W17 (slOf 1 va 1 la.length (slC va)) ((la.drop 1).take (la.length - 1)) := SlT.part encI_len ha (by omega) (by omega) (by omega) (by omega)
    refine WT_one (dd := some 49) 4 (by kernel_rfl) rfl rfl rfl rfl (Y_lit1 (u := .int .i64 _) rfl tb_el22 tb_zs3 rfl (by decide) (by decide) (fun b7_4 W43 hb44 hE45 hm7_4 => ⟨.inl (grownBy_trans hS (Ext.grown hE45 v0.ownBlock)), ?_⟩))
    have lo_b7_4 : W17.heap.size ≤ b7_4 := hb44 ▸ (Below.size hB)
    have no_v0_b7_4 := OwT.neB (b := b7_4) ho (Nat.le_of_eq hb44.symm)
    clear hb44
    have sv46_hB := hB
    have sv46_ho := ho
    replace hB := below_ext hB hE45 (Nat.le_refl _)
    replace ho := hE45.ow ho
    replace hS := grownBy_trans hS (Ext.grown hE45 v0.ownBlock)
    clear hE45
    refine WT_one (dd := some 50) 5 (by kernel_rfl) rfl rfl rfl rfl (Y_append (v := v0) (v2 := .slice (some ⟨b7_4, 0, none⟩) 1 1) rfl rfl tb_el22 tb_zs3 (by decide) ho (sl_lit1 hm7_4 rfl) rfl (by have := Below.size hB; omega) (by first | omega | (simp; omega)) (by first | omega | (simp; omega)) (fun v7_5 W47 hG48 ho7_5 => ⟨.inl (grownBy_trans hS hG48), ?_⟩))
    replace hS := grownBy_trans hS hG48
    replace ho7_5 := OwT.snoc (enc := encI) (x := (la.getD 0 0)) rfl rfl rfl rfl ho7_5
    clear hm7_4
    replace hB := below_grown hB hG48 (Nat.le_refl _) (fun j hj => (OwT.lt ho j hj))
    clear hG48
    clear ho
    refine WT_take (dd := some 5) 8 rfl (by kernel_rfl) (by kernel_rfl) (by kernel_rfl) rfl rfl rfl (fun _wq _hq => r_assign (v := v7_5) rfl) hS ?_
    refine WT_take (dd := some 3) 9 rfl (by kernel_rfl) (by kernel_rfl) (by kernel_rfl) rfl rfl rfl (fun _wq _hq => r_assign (v := slOf 1 va 1 la.length (slC va)) rfl) hS ?_
    refine WT_done (by kernel_rfl) ?_
    try clear sv46_hB
    try clear hrow42
    refine hJ31 _ _ ((slOf 1 va 1 la.length (slC va), vb, v7_5, ((la.drop 1).take (la.length - 1)), lb, out ++ [la.getD 0 0])) ?_ ?_ ?_ ?_
    · repeat (first | exact agree.mask _ _ _ | refine agree.updo ?_ rfl _ | refine agree.updL ?_ _ rfl | refine agree.maskS rfl ?_)
    · exact ⟨rfl, rfl, rfl, trivial⟩
    · exact ⟨hB, (by exact ho7_5), hp7_7, hb, (TyS.part (l2 := ((la.drop 1).take (la.length - 1))) hta ha (by omega) (by simp) (fun q e => q (by rw [e]; rfl))), htb, (by simp; omega), (by rw [← mrg_a (by omega) (.inl (by omega))]; exact hmr), trivial⟩
    · simp; omega
   ·
    try with_reducible replace hs6_3 := of_decide_eq_false hs6_3
    refine WT_take (dd := some 32) 4 rfl (by kernel_rfl) (by kernel_rfl) (by kernel_rfl) rfl rfl rfl (fun _wq _hq => r_move (v := va) rfl) hS ?_
    refine WT_take (dd := some 33) 5 rfl (by kernel_rfl) (by kernel_rfl) (by kernel_rfl) rfl rfl rfl (fun _wq hq => r_lenS (v := va) rfl (hq.slT (Below.slT hB ha)) tb_el22) hS ?_
    refine WT_take (dd := some 34) 6 rfl (by kernel_rfl) (by kernel_rfl) (by kernel_rfl) rfl rfl rfl (fun _wq _hq => r_gtr rfl rfl) hS ?_
    refine WT_split (dd := some 35) 7 rfl (by kernel_rfl) (by kernel_rfl) (by kernel_rfl) rfl rfl rfl (fun wq hq => r_move (v := .bool _) rfl) hS (fun hs6_7 => ?_) (fun hs6_7 => ?_)
    ·
     try with_reducible replace hs6_7 := of_decide_eq_true hs6_7
     refine WT_take (dd := some 36) 8 rfl (by kernel_rfl) (by kernel_rfl) (by kernel_rfl) rfl rfl rfl (fun _wq _hq => r_move (v := va) rfl) hS ?_
     refine WT_take (dd := some 37) 9 rfl (by kernel_rfl) (by kernel_rfl) (by kernel_rfl) rfl rfl rfl (fun _wq hq => r_idxS (j := 0) (v := va) rfl (hq.slT (Below.slT hB ha)) rfl tb_el22 (by omega) (by omega)) hS ?_
     refine WT_take (dd := some 38) 10 rfl (by kernel_rfl) (by kernel_rfl) (by kernel_rfl) rfl rfl rfl (fun _wq hq => r_load1 (v := .int .i64 _) rfl tb_sc3 (SlT.cell (j := 0) (hq.slT (Below.slT hB ha)) encI_len 0 (by omega) (by omega) 0 rfl)) hS ?_
     refine WT_take (dd := some 39) 11 rfl (by kernel_rfl) (by kernel_rfl) (by kernel_rfl) rfl rfl rfl (fun _wq _hq => r_move (v := vb) rfl) hS ?_
     refine WT_take (dd := some 40) 12 rfl (by kernel_rfl) (by kernel_rfl) (by kernel_rfl) rfl rfl rfl (fun _wq hq => r_idxS (j := 0) (v := vb) rfl (hq.slT (Below.slT hB hb)) rfl tb_el22 (by omega) (by omega)) hS ?_
     refine WT_take (dd := some 41) 13 rfl (by kernel_rfl) (by kernel_rfl) (by kernel_rfl) rfl rfl rfl (fun _wq hq => r_load1 (v := .int .i64 _) rfl tb_sc3 (SlT.cell (j := 0) (hq.slT (Below.slT hB hb)) encI_len 0 (by omega) (by omega) 0 rfl)) hS ?_
     refine WT_take (dd := some 42) 14 rfl (by kernel_rfl) (by kernel_rfl) (by kernel_rfl) rfl rfl rfl (fun _wq _hq => r_lss rfl rfl) hS ?_
     refine WT_take (dd := some 43) 15 rfl (by kernel_rfl) (by kernel_rfl) (by kernel_rfl) rfl rfl rfl (fun _wq _hq => r_pick_t rfl (v := .bool _) rfl) hS ?_
     refine WT_take (dd := some 44) 16 rfl (by kernel_rfl) (by kernel_rfl) (by kernel_rfl) rfl rfl rfl (fun _wq _hq => r_pick_f rfl (v := .bool _) rfl) hS ?_
     refine WT_done (by kernel_rfl) ?_
     refine hK37 _ _ ?_
     clear hK37 K36
     refine WC_cond (b := _) rfl (fun hc2 => ?_) (fun hc2 => ?_)
     ·
      try with_reducible replace hc2 := of_decide_eq_true hc2
      have hCa : la.length ≤ slC va := (Sl.eqv ha).2.1
      refine WC_draw (fun a b => a.grownBy b v0.ownBlock) tb_mix (fun W50 hE51 => ?_)
      replace hB := below_ext hB hE51 (Nat.le_refl _)
      replace ho := hE51.ow ho
      have hrow52 := ho
      have hS := World.grownBy.refl W50 v0.ownBlock
      refine WT_take (dd := some 45) 0 rfl (by kernel_rfl) (by kernel_rfl) (by kernel_rfl) rfl rfl rfl (fun _wq _hq => r_move (v := v0) rfl) hS ?_
      refine WT_take (dd := some 46) 1 rfl (by kernel_rfl) (by kernel_rfl) (by kernel_rfl) rfl rfl rfl (fun _wq _hq => r_move (v := va) rfl) hS ?_
      refine WT_take (dd := some 47) 2 rfl (by kernel_rfl) (by kernel_rfl) (by kernel_rfl) rfl rfl rfl (fun _wq hq => r_idxS (j := 0) (v := va) rfl (Below.slT (below_grown hB hq (Nat.le_refl _) (fun j hj => OwT.lt hrow52 j hj)) ha) rfl tb_el22 (by omega) (by omega)) hS ?_
      refine WT_take (dd := some 48) 3 rfl (by kernel_rfl) (by kernel_rfl) (by kernel_rfl) rfl rfl rfl (fun _wq hq => r_load1 (v := .int .i64 _) rfl tb_sc3 (SlT.cell (j := 0) (Below.slT (below_grown hB hq (Nat.le_refl _) (fun j hj => OwT.lt hrow52 j hj)) ha) encI_len 0 (by omega) (by omega) 0 rfl)) hS ?_
      refine WT_take (dd := some 51) 6 rfl (by kernel_rfl) (by kernel_rfl) (by kernel_rfl) rfl rfl rfl (fun _wq _hq => r_move (v := va) rfl) hS ?_
      refine WT_take (dd := some 52) 7 rfl (by kernel_rfl) (by kernel_rfl) (by kernel_rfl) rfl rfl rfl (fun _wq hq => r_sliceLo (v := va) rfl (Below.slT (below_grown hB hq (Nat.le_refl _) (fun j hj => OwT.lt hrow52 j hj)) ha) tb_el22 rfl (by omega) (by omega)) hS ?_
      have hp7_7 : SlT encI 1 W17 (slOf 1 va 1 la.length (slC va)) ((la.drop 1).take (la.length - 1)) := SlT.part encI_len ha (by omega) (by omega) (by omega) (by omega)
      refine WT_one (dd := some 49) 4 (by kernel_rfl) rfl rfl rfl rfl (Y_lit1 (u := .int .i64 _) rfl tb_el22 tb_zs3 rfl (by decide) (by decide) (fun b7_4 W53 hb54 hE55 hm7_4 => ⟨.inl (grownBy_trans hS (Ext.grown hE55 v0.ownBlock)), ?_⟩))
      have lo_b7_4 : W17.heap.size ≤ b7_4 := hb54 ▸ (Below.size hB)
      have no_v0_b7_4 := OwT.neB (b := b7_4) ho (Nat.le_of_eq hb54.symm)
      clear hb54
      have sv56_hB := hB
      have sv56_ho := ho
      replace hB := below_ext hB hE55 (Nat.le_refl _)
      replace ho := hE55.ow ho
      replace hS := grownBy_trans hS (Ext.grown hE55 v0.ownBlock)
      clear hE55
      refine WT_one (dd := some 50) 5 (by kernel_rfl) rfl rfl rfl rfl (Y_append (v := v0) (v2 := .slice (some ⟨b7_4, 0, none⟩) 1 1) rfl rfl tb_el22 tb_zs3 (by decide) ho (sl_lit1 hm7_4 rfl) rfl (by have := Below.size hB; omega) (by first | omega | (simp; omega)) (by first | omega | (simp; omega)) (fun v7_5 W57 hG58 ho7_5 => ⟨.inl (grownBy_trans hS hG58), ?_⟩))
      replace hS := grownBy_trans hS hG58
      replace ho7_5 := OwT.snoc (enc := encI) (x := (la.getD 0 0)) rfl rfl rfl rfl ho7_5
      clear hm7_4
      replace hB := below_grown hB hG58 (Nat.le_refl _) (fun j hj => (OwT.lt ho j hj))
      clear hG58
      clear ho
      refine WT_take (dd := some 5) 8 rfl (by kernel_rfl) (by kernel_rfl) (by kernel_rfl) rfl rfl rfl (fun _wq _hq => r_assign (v := v7_5) rfl) hS ?_
      refine WT_take (dd := some 3) 9 rfl (by kernel_rfl) (by kernel_rfl) (by kernel_rfl) rfl rfl rfl (fun _wq _hq => r_assign (v := slOf 1 va 1 la.length (slC va)) rfl) hS ?_
      refine WT_done (by kernel_rfl) ?_
      try clear sv56_hB
      try clear hrow52
      refine hJ31 _ _ ((slOf 1 va 1 la.length (slC va), vb, v7_5, ((la.drop 1).take (la.length - 1)), lb, out ++ [la.getD 0 0])) ?_ ?_ ?_ ?_
      · repeat (first | exact agree.mask _ _ _ | refine agree.updo ?_ rfl _ | refine agree.updL ?_ _ rfl | refine agree.maskS rfl ?_)
      · exact ⟨rfl, rfl, rfl, trivial⟩
      · exact ⟨hB, (by exact ho7_5), hp7_7, hb, (TyS.part (l2 := ((la.drop 1).take (la.length - 1))) hta ha (by omega) (by simp) (fun q e => q (by rw [e]; rfl))), htb, (by simp; omega), (by rw [← mrg_a (by omega) (.inr hc2)]; exact hmr), trivial⟩
      · simp; omega
     ·
      try with_reducible replace hc2 := of_decide_eq_false hc2
      have hCb : lb.length ≤ slC vb := (Sl.eqv hb).2.1
      refine WC_draw (fun a b => a.grownBy b v0.ownBlock) tb_mix (fun W60 hE61 => ?_)
      replace hB := below_ext hB hE61 (Nat.le_refl _)
      replace ho := hE61.ow ho
      have hrow62 := ho
      have hS := World.grownBy.refl W60 v0.ownBlock
      refine WT_take (dd := some 53) 0 rfl (by kernel_rfl) (by kernel_rfl) (by kernel_rfl) rfl rfl rfl (fun _wq _hq => r_move (v := v0) rfl) hS ?_
      refine WT_take (dd := some 54) 1 rfl (by kernel_rfl) (by kernel_rfl) (by kernel_rfl) rfl rfl rfl (fun _wq _hq => r_move (v := vb) rfl) hS ?_
      refine WT_take (dd := some 55) 2 rfl (by kernel_rfl) (by kernel_rfl) (by kernel_rfl) rfl rfl rfl (fun _wq hq => r_idxS (j := 0) (v := vb) rfl (Below.slT (below_grown hB hq (Nat.le_refl _) (fun j hj => OwT.lt hrow62 j hj)) hb) rfl tb_el22 (by omega) (by omega)) hS ?_
      refine WT_take (dd := some 56) 3 rfl (by kernel_rfl) (by kernel_rfl) (by kernel_rfl) rfl rfl rfl (fun _wq hq => r_load1 (v := .int .i64 _) rfl tb_sc3 (SlT.cell (j := 0) (Below.slT (below_grown hB hq (Nat.le_refl _) (fun j hj => OwT.lt hrow62 j hj)) hb) encI_len 0 (by omega) (by omega) 0 rfl)) hS ?_
      refine WT_take (dd := some 59) 6 rfl (by kernel_rfl) (by kernel_rfl) (by kernel_rfl) rfl rfl rfl (fun _wq _hq => r_move (v := vb) rfl) hS ?_
      refine WT_take (dd := some 60) 7 rfl (by kernel_rfl) (by kernel_rfl) (by kernel_rfl) rfl rfl rfl (fun _wq hq => r_sliceLo (v := vb) rfl (Below.slT (below_grown hB hq (Nat.le_refl _) (fun j hj => OwT.lt hrow62 j hj)) hb) tb_el22 rfl (by omega) (by omega)) hS ?_
      have hp8_7 : SlT encI 1 W17 (slOf 1 vb 1 lb.length (slC vb)) ((lb.drop 1).take (lb.length - 1)) := SlT.part encI_len hb (by omega) (by omega) (by omega) (by omega)
      refine WT_one (dd := some 57) 4 (by kernel_rfl) rfl rfl rfl rfl (Y_lit1 (u := .int .i64 _) rfl tb_el22 tb_zs3 rfl (by decide) (by decide) (fun b8_4 W63 hb64 hE65 hm8_4 => ⟨.inl (grownBy_trans hS (Ext.grown hE65 v0.ownBlock)), ?_⟩))
      have lo_b8_4 : W17.heap.size ≤ b8_4 := hb64 ▸ (Below.size hB)
      have no_v0_b8_4 := OwT.neB (b := b8_4) ho (Nat.le_of_eq hb64.symm)
      clear hb64
      have sv66_hB := hB
      have sv66_ho := ho
      replace hB := below_ext hB hE65 (Nat.le_refl _)
      replace ho := hE65.ow ho
      replace hS := grownBy_trans hS (Ext.grown hE65 v0.ownBlock)
      clear hE65
      refine WT_one (dd := some 58) 5 (by kernel_rfl) rfl rfl rfl rfl (Y_append (v := v0) (v2 := .slice (some ⟨b8_4, 0, none⟩) 1 1) rfl rfl tb_el22 tb_zs3 (by decide) ho (sl_lit1 hm8_4 rfl) rfl (by have := Below.size hB; omega) (by first | omega | (simp; omega)) (by first | omega | (simp; omega)) (fun v8_5 W67 hG68 ho8_5 => ⟨.inl (grownBy_trans hS hG68), ?_⟩))
      replace hS := grownBy_trans hS hG68
      replace ho8_5 := OwT.snoc (enc := encI) (x := (lb.getD 0 0)) rfl rfl rfl rfl ho8_5
      clear hm8_4
      replace hB := below_grown hB hG68 (Nat.le_refl _) (fun j hj => (OwT.lt ho j hj))
      clear hG68
      clear ho
      refine WT_take (dd := some 5) 8 rfl (by kernel_rfl) (by kernel_rfl) (by kernel_rfl) rfl rfl rfl (fun _wq _hq => r_assign (v := v8_5) rfl) hS ?_
      refine WT_take (dd := some 4) 9 rfl (by kernel_rfl) (by kernel_rfl) (by kernel_rfl) rfl rfl rfl (fun _wq _hq => r_assign (v := slOf 1 vb 1 lb.length (slC vb)) rfl) hS ?_
      refine WT_done (by kernel_rfl) ?_
      try clear sv66_hB
      try clear hrow62
      refine hJ31 _ _ ((va, slOf 1 vb 1 lb.length (slC vb), v8_5, la, ((lb.drop 1).take (lb.length - 1)), out ++ [lb.getD 0 0])) ?_ ?_ ?_ ?_
      · repeat (first | exact agree.mask _ _ _ | refine agree.updo ?_ rfl _ | refine agree.updL ?_ _ rfl | refine agree.maskS rfl ?_)
      · exact ⟨rfl, rfl, rfl, trivial⟩
      · exact ⟨hB, (by exact ho8_5), ha, hp8_7, hta, (TyS.part (l2 := ((lb.drop 1).take (lb.length - 1))) htb hb (by omega) (by simp) (fun q e => q (by rw [e]; rfl))), (by simp; omega), (by rw [← mrg_b (by omega) (.inr hc2)]; exact hmr), trivial⟩
      · simp; omega
    ·
     try with_reducible replace hs6_7 := of_decide_eq_false hs6_7
     refine WT_pass (dd := some 36) 8 rfl (by kernel_rfl) (by kernel_rfl) (by kernel_rfl) rfl rfl rfl hS ?_
     refine WT_pass (dd := some 37) 9 rfl (by kernel_rfl) (by kernel_rfl) (by kernel_rfl) rfl rfl rfl hS ?_
     refine WT_pass (dd := some 38) 10 rfl (by kernel_rfl) (by kernel_rfl) (by kernel_rfl) rfl rfl rfl hS ?_
     refine WT_pass (dd := some 39) 11 rfl (by kernel_rfl) (by kernel_rfl) (by kernel_rfl) rfl rfl rfl hS ?_
     refine WT_pass (dd := some 40) 12 rfl (by kernel_rfl) (by kernel_rfl) (by kernel_rfl) rfl rfl rfl hS ?_
     refine WT_pass (dd := some 41) 13 rfl (by kernel_rfl) (by kernel_rfl) (by kernel_rfl) rfl rfl rfl hS ?_
     refine WT_pass (dd := some 42) 14 rfl (by kernel_rfl) (by kernel_rfl) (by kernel_rfl) rfl rfl rfl hS ?_
     refine WT_take (dd := some 43) 15 rfl (by kernel_rfl) (by kernel_rfl) (by kernel_rfl) rfl rfl rfl (fun _wq _hq => r_pick_f rfl (v := .bool false) rfl) hS ?_
     refine WT_take (dd := some 44) 16 rfl (by kernel_rfl) (by kernel_rfl) (by kernel_rfl) rfl rfl rfl (fun _wq _hq => r_pick_f rfl (v := .bool false) rfl) hS ?_
     refine WT_done (by kernel_rfl) ?_
     refine hK37 _ _ ?_
     clear hK37 K36
     refine WC_cond_false rfl ?_
     have hCb : lb.length ≤ slC vb := (Sl.eqv hb).2.1
     refine WC_draw (fun a b => a.grownBy b v0.ownBlock) tb_mix (fun W70 hE71 => ?_)
     replace hB := below_ext hB hE71 (Nat.le_refl _)
     replace ho := hE71.ow ho
     have hrow72 := ho
     have hS := World.grownBy.refl W70 v0.ownBlock
     refine WT_take (dd := some 53) 0 rfl (by kernel_rfl) (by kernel_rfl) (by kernel_rfl) rfl rfl rfl (fun _wq _hq => r_move (v := v0) rfl) hS ?_
     refine WT_take (dd := some 54) 1 rfl (by kernel_rfl) (by kernel_rfl) (by kernel_rfl) rfl rfl rfl (fun _wq _hq => r_move (v := vb) rfl) hS ?_
     refine WT_take (dd := some 55) 2 rfl (by kernel_rfl) (by kernel_rfl) (by kernel_rfl) rfl rfl rfl (fun _wq hq => r_idxS (j := 0) (v := vb) rfl (Below.slT (below_grown hB hq (Nat.le_refl _) (fun j hj => OwT.lt hrow72 j hj)) hb) rfl tb_el22 (by omega) (by omega)) hS ?_
     refine WT_take (dd := some 56) 3 rfl (by kernel_rfl) (by kernel_rfl) (by kernel_rfl) rfl rfl rfl (fun _wq hq => r_load1 (v := .int .i64 _) rfl tb_sc3 (SlT.cell (j := 0) (Below.slT (below_grown hB hq (Nat.le_refl _) (fun j hj => OwT.lt hrow72 j hj)) hb) encI_len 0 (by omega) (by omega) 0 rfl)) hS ?_
     refine WT_take (dd := some 59) 6 rfl (by kernel_rfl) (by kernel_rfl) (by kernel_rfl) rfl rfl rfl (fun _wq _hq => r_move (v := vb) rfl) hS ?_
     refine WT_take (dd := some 60) 7 rfl (by kernel_rfl) (by kernel_rfl) (by kernel_rfl) rfl rfl rfl (fun _wq hq => r_sliceLo (v := vb) rfl (Below.slT (below_grown hB hq (Nat.le_refl _) (fun j hj => OwT.lt hrow72 j hj)) hb) tb_el22 rfl (by omega) (by omega)) hS ?_
     have hp8_7 : SlT encI 1 W17 (slOf 1 vb 1 lb.length (slC vb)) ((lb.drop 1).take (lb.length - 1)) := SlT.part encI_len hb (by omega) (by omega) (by omega) (by omega)
     refine WT_one (dd := some 57) 4 (by kernel_rfl) rfl rfl rfl rfl (Y_lit1 (u := .int .i64 _) rfl tb_el22 tb_zs3 rfl (by decide) (by decide) (fun b8_4 W73 hb74 hE75 hm8_4 => ⟨.inl (grownBy_trans hS (Ext.grown hE75 v0.ownBlock)), ?_⟩))
     have lo_b8_4 : W17.heap.size ≤ b8_4 := hb74 ▸ (Below.size hB)
     have no_v0_b8_4 := OwT.neB (b := b8_4) ho (Nat.le_of_eq hb74.symm)
     clear hb74
     have sv76_hB := hB
     have sv76_ho := ho
     replace hB := below_ext hB hE75 (Nat.le_refl _)
     replace ho := hE75.ow ho
     replace hS := grownBy_trans hS (Ext.grown hE75 v0.ownBlock)
     clear hE75
     refine WT_one (dd := some 58) 5 (by kernel_rfl) rfl rfl rfl rfl (Y_append (v := v0) (v2 := .slice (some ⟨b8_4, 0, none⟩) 1 1) rfl rfl tb_el22 tb_zs3 (by decide) ho (sl_lit1 hm8_4 rfl) rfl (by have := Below.size hB; omega) (by first | omega | (simp; omega)) (by first | omega | (simp; omega)) (fun v8_5 W77 hG78 ho8_5 => ⟨.inl (grownBy_trans hS hG78), ?_⟩))
     replace hS := grownBy_trans hS hG78
     replace ho8_5 := OwT.snoc (enc := encI) (x := (lb.getD 0 0)) rfl rfl rfl rfl ho8_5
     clear hm8_4
     replace hB := below_grown hB hG78 (Nat.le_refl _) (fun j hj => (OwT.lt ho j hj))
     clear hG78
     clear ho
     refine WT_take (dd := some 5) 8 rfl (by kernel_rfl) (by kernel_rfl) (by kernel_rfl) rfl rfl rfl (fun _wq _hq => r_assign (v := v8_5) rfl) hS ?_
     refine WT_take (dd := some 4) 9 rfl (by kernel_rfl) (by kernel_rfl) (by kernel_rfl) rfl rfl rfl (fun _wq _hq => r_assign (v := slOf 1 vb 1 lb.length (slC vb)) rfl) hS ?_
     refine WT_done (by kernel_rfl) ?_
     try clear sv76_hB
     try clear hrow72
     refine hJ31 _ _ ((va, slOf 1 vb 1 lb.length (slC vb), v8_5, la, ((lb.drop 1).take (lb.length - 1)), out ++ [lb.getD 0 0])) ?_ ?_ ?_ ?_
     · repeat (first | exact agree.mask _ _ _ | refine agree.updo ?_ rfl _ | refine agree.updL ?_ _ rfl | refine agree.maskS rfl ?_)
     · exact ⟨rfl, rfl, rfl, trivial⟩
     · exact ⟨hB, (by exact ho8_5), ha, hp8_7, hta, (TyS.part (l2 := ((lb.drop 1).take (lb.length - 1))) htb hb (by omega) (by simp) (fun q e => q (by rw [e]; rfl))), (by simp; omega), (by rw [← mrg_b (by omega) (.inl (by omega))]; exact hmr), trivial⟩
     · simp; omega
  ·
   try with_reducible replace hc1 := of_decide_eq_false hc1
   refine WC_exit ?_
   refine hK27 _ _ ?_
   clear hK33 K32
   clear hJ31 J30
   clear hK27 K26
   refine WC_seq (fun K80 hK81 => ?_)
   refine WC_region ?_
   refine WL_val (dd := some 61) rfl rfl rfl (r_move (v := v0) rfl) ?_
   refine WL_val (dd := some 2) rfl rfl rfl (r_assign (v := v0) rfl) ?_
   refine WL_nil ?_
   refine hK81 _ _ ?_
   clear hK81 K80
   refine WC_ret ?_
   try clear hz23
   try clear hz24
   try clear hz25
   replace hP3_5 := Below.slT hB hP3_5
   replace hty3_5 := TyS.ext hB hty3_5
   replace hP3_11 := Below.slT hB hP3_11
   replace hty3_11 := TyS.ext hB hty3_11
   try clear ha
   try clear hb
   have hzs := Nat.le_trans (Nat.le_refl _) (Below.size hBo22)
   replace ho := OwT.mono ho hzs
   replace hB := Below.trans hBo22 (Below.mono hB hzs)
   clear hBo22 hzs
   repeat (first | refine thenQ_ret ?_ | refine blockQ_ret ?_)
   refine ret_t (v := v0) rfl ?_
   refine ⟨hB, ?_⟩
   have e : out = ofI l := (mrg_end (by omega) (by omega)).symm.trans (hmr.trans (sort_halves hnd _))
   rw [← e]
   exact ⟨ho.sl, TyS.own ho⟩

theorem SortAll : ∀ n, SortAt n
  | 0 => fun xl l w _ _ _ _ hn => by omega
  | n + 1 => fun xl l w => C_sorted n xl l w (SortAll n)

theorem C___zdd_Zdd__List (N ba bm bz R : Nat) (ns : List Nd) (id : Int) (w : World) (hz : At w bz #[.pointer (some ⟨ba, 0, none⟩)] 100) (hD : Dia 147 150 N ba bm R w ns) (hid : id ≤ 9223372036854775807) :
    Fn Try.prog 37 #[.pointer (some ⟨bz, 0, none⟩), .int .i64 id] w fun v w' => if (thereZ ns id && decide (cntI ns id ≤ 100000)) = true then ∃ x, v = .tuple #[x, .int .i64 0] ∧ SlT encI 1 w' x (srtM ns id.toNat) ∧ TyS 3 w' x (srtM ns id.toNat) else ∃ er, v = .tuple #[.slice none 0 0, .int .i64 er] ∧ er ≠ 0 ∧ (thereZ ns id = false → er = 1) := by
 refine Fn_intro (n := 37) Try.func37 rfl rfl (Nat.le_of_ble_eq_true rfl) ?_
 have hB : Below w.heap.size w w := Below.refl _ _
 have hwf := hD.wf
 have hroom := hD.room
 have htop := hD.top
 have hbmlt := hD.hm.lt
 refine WC_seq (fun K1 hK2 => ?_)
 refine WC_region ?_
 refine WL_val (dd := some 4) rfl rfl rfl (r_assign (v := .slice none 0 0) rfl) ?_
 refine WL_val (dd := some 5) rfl rfl rfl (r_assign (v := .int .i64 0) rfl) ?_
 refine WL_nil ?_
 refine hK2 _ _ ?_
 clear hK2 K1
 refine WC_seq (fun K3 hK4 => ?_)
 refine WC_block ?_
 refine WC_seq (fun K5 hK6 => ?_)
 refine WC_region ?_
 refine WL_val (dd := some 10) rfl rfl rfl (r_move (v := .pointer (some ⟨bz, 0, none⟩)) rfl) ?_
 refine WL_val (dd := some 11) rfl rfl rfl (r_move (v := .int .i64 _) rfl) ?_
 refine WL_step (dd := some 12) rfl rfl rfl (Y_lit1 (u := .int .i64 _) rfl tb_el22 tb_zs3 rfl (by decide) (by decide) (fun b1_2 W7 hb8 hE9 hm1_2 => ?_))
 have lo_b1_2 : w.heap.size ≤ b1_2 := hb8 ▸ (Below.size hB)
 clear hb8
 replace hB := below_ext hB hE9 (Nat.le_refl _)
 clear hE9
 have ho10 := own_lit1 (enc := encI) (a := _) hm1_2 rfl rfl lo_b1_2
 clear hm1_2
 refine WL_call (dd := some 13) rfl rfl rfl (r_call2 tb_c73 (v0 := .pointer (some ⟨bz, 0, none⟩)) rfl (v1 := .slice (some ⟨b1_2, 0, none⟩) 1 1) rfl) (C___zdd_Zdd__there N ba bm bz R ns _ [id] _ (Below.atI hB hz) (Dia.below hB hD) ho10.sl (by simp) (by simp; omega)) (fun v1_3 W11 hE12 hP1_3 => ?_)
 have hsz13 := (Below.size hB)
 replace hB := below_ext hB hE12 (Nat.le_refl _)
 replace ho10 := hE12.ow ho10
 clear hE12
 clear hsz13
 obtain rfl := hP1_3
 refine WL_val (dd := some 14) rfl rfl rfl (r_not rfl) ?_
 refine WL_val (dd := some 9) rfl rfl rfl (r_assign (v := .bool _) rfl) ?_
 refine WL_nil ?_
 refine hK6 _ _ ?_
 clear hK6 K5
 refine WC_cond (b := _) rfl (fun hc0 => ?_) (fun hc0 => ?_)
 ·
  try with_reducible replace hc0 := of_decide_eq_true hc0
  refine WC_seq (fun K14 hK15 => ?_)
  refine WC_region ?_
  refine WL_val (dd := some 4) rfl rfl rfl (r_assign (v := .slice none 0 0) rfl) ?_
  refine WL_val (dd := some 5) rfl rfl rfl (r_assign (v := .int .i64 1) rfl) ?_
  refine WL_nil ?_
  refine hK15 _ _ ?_
  clear hK15 K14
  refine WC_ret ?_
  repeat (first | refine thenQ_ret ?_ | refine blockQ_ret ?_)
  try clear hK4 K3
  refine ret_tt (v := .slice none 0 0) rfl (v1 := .int .i64 1) rfl ?_
  refine ⟨hB, ?_⟩
  have htz : thereZ ns id = false := by simpa using not_t' hc0
  rw [if_neg (by rw [htz, Bool.false_and]; decide)]
  exact ⟨1, rfl, by decide, fun _ => rfl⟩
 ·
  try with_reducible replace hc0 := of_decide_eq_false hc0
  refine WC_seq (fun K16 hK17 => ?_)
  refine WC_region ?_
  refine WL_val (dd := some 16) rfl rfl rfl (r_move (v := .pointer (some ⟨bz, 0, none⟩)) rfl) ?_
  refine WL_val (dd := some 17) rfl rfl rfl (r_move (v := .int .i64 _) rfl) ?_
  refine WL_call (dd := some 18) rfl rfl rfl (r_call2 tb_c39 (v0 := .pointer (some ⟨bz, 0, none⟩)) rfl (v1 := .int .i64 _) rfl) (CountAll (id.toNat + 1) N ba bm bz R ns id _ (Below.atI hB hz) (Dia.below hB hD) hid (by omega)) (fun v3_2 W18 hE19 hP3_2 => ?_)
  have hsz20 := (Below.size hB)
  replace hB := below_ext hB hE19 (Nat.le_refl _)
  replace ho10 := hE19.ow ho10
  clear hE19
  clear hsz20
  obtain rfl := hP3_2
  refine WL_val (dd := some 19) rfl rfl rfl (r_gtr rfl rfl) ?_
  refine WL_val (dd := some 15) rfl rfl rfl (r_assign (v := .bool _) rfl) ?_
  refine WL_nil ?_
  refine hK17 _ _ ?_
  clear hK17 K16
  refine WC_cond (b := _) rfl (fun hc1 => ?_) (fun hc1 => ?_)
  ·
   try with_reducible replace hc1 := of_decide_eq_true hc1
   refine WC_seq (fun K21 hK22 => ?_)
   refine WC_region ?_
   refine WL_val (dd := some 4) rfl rfl rfl (r_assign (v := .slice none 0 0) rfl) ?_
   refine WL_val (dd := some 5) rfl rfl rfl (r_assign (v := .int .i64 3) rfl) ?_
   refine WL_nil ?_
   refine hK22 _ _ ?_
   clear hK22 K21
   refine WC_ret ?_
   repeat (first | refine thenQ_ret ?_ | refine blockQ_ret ?_)
   try clear hK4 K3
   refine ret_tt (v := .slice none 0 0) rfl (v1 := .int .i64 3) rfl ?_
   refine ⟨hB, ?_⟩
   have htz : thereZ ns id = true := by simpa using not_f' hc0
   rw [if_neg (by rw [decide_eq_false (show ¬ cntI ns id ≤ 100000 by omega), Bool.and_false]; decide)]
   exact ⟨3, rfl, by decide, fun k => by rw [htz] at k; cases k⟩
  ·
   try with_reducible replace hc1 := of_decide_eq_false hc1
   refine WC_skip ?_
   refine hK4 _ _ ?_
   clear hK4 K3
   refine WC_seq (fun K23 hK24 => ?_)
   have htz : thereZ ns id = true := by simpa using not_f' hc0
   have hti := tz_iff.1 htz
   obtain ⟨f, rfl⟩ := Int.eq_ofNat_of_zero_le hti.1
   have hfv : f < ns.length + 2 := by omega
   have hcn := cntI_nat hfv
   refine WC_region ?_
   refine WL_step (dd := some 20) rfl rfl rfl (Y_makeMap (enc := keyI) (encV := Value.bool) (fun b5_0 W25 hb26 hE27 hm5_0 => ?_))
   have lo_b5_0 : w.heap.size ≤ b5_0 := hb26 ▸ (Below.size hB)
   clear hb26
   replace hB := below_ext hB hE27 (Nat.le_refl _)
   replace ho10 := hE27.ow ho10
   clear hE27
   replace hm5_0 : MapT keyI Value.bool _ _ (allT []) := hm5_0
   refine WL_step (dd := some 6) rfl rfl rfl (Y_alloc tb_z102 rfl (fun b5_1 W28 hb29 hE30 hm5_1 => ?_))
   have lo_b5_1 : w.heap.size ≤ b5_1 := hb29 ▸ (Below.size hB)
   clear hb29
   replace hB := below_ext hB hE30 (Nat.le_refl _)
   replace ho10 := hE30.ow ho10
   replace hm5_0 := hE30.mapT hm5_0
   clear hE30
   refine WL_step (dd := none) rfl rfl rfl (Y_store1 (v := .map (some b5_0)) rfl rfl tb_sc102 rfl hm5_1 (by exact Nat.zero_lt_one) (fun W31 hG32 hm33 => ?_))
   replace hB := below_grown hB hG32 (Nat.le_refl _) (fun j hj => by cases hj; exact lo_b5_1)
   replace ho10 := OwT.grownAt ho10 hm5_1 hG32 (by decide)
   replace hm5_0 := MapT.grownAt hm5_0 hm5_1 hG32
   clear hG32 hm5_1
   have hm5_1 := hm33
   clear hm33
   replace hm5_1 : At _ _ #[_] _ := hm5_1
   refine WL_nil ?_
   refine hK24 _ _ ?_
   clear hK24 K23
   refine WC_seq (fun K34 hK35 => ?_)
   refine WC_region ?_
   refine WL_val (dd := some 21) rfl rfl rfl (r_move (v := .pointer (some ⟨bz, 0, none⟩)) rfl) ?_
   refine WL_val (dd := some 22) rfl rfl rfl (r_move (v := .int .i64 _) rfl) ?_
   refine WL_val (dd := some 23) rfl rfl rfl (r_makeFunc (vs := #[.pointer (some ⟨b5_1, 0, none⟩)]) (by simp only [List.map_toArray, List.map_cons, List.map_nil]; rfl)) ?_
   refine WL_callG (dd := some 24) rfl rfl rfl (r_call4 tb_c82 (v0 := .pointer (some ⟨bz, 0, none⟩)) rfl (v1 := .int .i64 _) rfl (v2 := .int .i64 0) rfl (v3 := .func (.func 83) #[] #[.pointer (some ⟨b5_1, 0, none⟩)]) rfl) (EachAll (f + 1) w.heap.size N ba bm bz b5_1 b5_0 R ns f 0 [] _ (Below.size hB) (Below.atI hB hz) (Dia.below hB hD) hm5_1 hm5_0 lo_b5_0 (by omega) (by omega) (by decide) (by omega)) (fun v6_3 W36 hP6_3 => ?_)
   obtain ⟨hBt, _, _, hm5_1, ks, hm5_0, htold⟩ := hP6_3
   replace hB := Below.trans hB hBt
   try clear ho10
   refine WL_nil ?_
   refine hK35 _ _ ?_
   clear hK35 K34
   refine WC_seq (fun K38 hK39 => ?_)
   refine WC_region ?_
   refine WL_val (dd := some 7) rfl rfl rfl (r_assign (v := .slice none 0 0) rfl) ?_
   refine WL_nil ?_
   refine hK39 _ _ ?_
   clear hK39 K38
   refine WC_seq (fun K40 hK41 => ?_)
   refine WC_seq (fun K42 hK43 => ?_)
   refine WC_region ?_
   refine WL_val (dd := some 25) rfl rfl rfl (r_load1 (v := .map (some b5_0)) rfl tb_sc102 (At.cell hm5_1 rfl)) ?_
   refine WL_step (dd := some 26) rfl rfl rfl (Y_range rfl tb_mp102 hm5_0 (fun b8_1 W44 hb45 hE46 hm8_1 => ?_))
   have lo_b8_1 : w.heap.size ≤ b8_1 := hb45 ▸ (Below.size hB)
   clear hb45
   replace hB := below_ext hB hE46 (Nat.le_refl _)
   replace hm5_0 := hE46.mapT hm5_0
   replace hm5_1 := hE46.at hm5_1
   clear hE46
   refine WL_nil ?_
   refine hK43 _ _ ?_
   clear hK43 K42
   refine WC_block ?_
   refine WC_loop (σ := (List Int) × (Value)) [7, 8, 27, 28, 29, 30, 31, 32, 33, 34] (fun (seen, v0) => [(7, v0)]) (fun sg W => match sg with | (seen, v0) => (Below w.heap.size w W) ∧ (MapT keyI Value.bool W b5_0 _) ∧ (At W b5_1 _ 102) ∧ (IterT keyI Value.bool W b8_1 b5_0 (allT ks) seen) ∧ (OwT encI 1 3 W w.heap.size v0 (seen.reverse)) ∧ (True)) (fun (seen, v0) => (allT ks).length - seen.length) (([], .slice none 0 0)) ⟨rfl, trivial⟩ ⟨hB, hm5_0, hm5_1, hm8_1, OwT.nil, trivial⟩ ?_
   clear hB hm5_0 hm5_1 hm8_1
   rintro ⟨seen, v0⟩ g48 W47 ⟨hB, hm5_0, hm5_1, hm8_1, ho, _⟩ J49 hJ50
   refine WC_seq (fun K51 hK52 => ?_)
   refine WC_region ?_
   refine WL_step (dd := some 27) rfl rfl rfl (Y_next rfl hm8_1 (fun hnd9_0 => ?_) (fun kk9_0 vv9_0 W53 hin9_0 hni9_0 hG54 hm55 => ?_))
   ·
    refine WL_val (dd := some 28) rfl rfl rfl (r_ext1_0 (h := rfl)) ?_
    refine WL_nil ?_
    refine hK52 _ _ ?_
    clear hK52 K51
    refine WC_seq (fun K56 hK57 => ?_)
    refine WC_cond_false rfl ?_
    refine WC_exit ?_
    refine hK41 _ _ ?_
    clear hK57 K56
    clear hJ50 J49
    clear hK41 K40
    refine WC_seq (fun K58 hK59 => ?_)
    have hcard := iterI_card hwf hfv hm8_1 (told_all htold)
    have hsk := srt_keys (fun x => (iterI_all hm8_1 hnd9_0 x).trans (told_all htold x))
    refine WC_region ?_
    refine WL_val (dd := some 35) rfl rfl rfl (r_move (v := v0) rfl) ?_
    refine WL_call (dd := some 36) rfl rfl rfl (r_call1 tb_c84 (v0 := v0) rfl) (SortAll (seen.reverse.length + 1) _ seen.reverse _ ho.sl (TyS.own ho) (List.pairwise_reverse.2 (hm8_1.nodup.imp (fun h => Ne.symm h))) (by rw [List.length_reverse]; omega) (by omega)) (fun v12_1 W60 hE61 hP12_1 => ?_)
    have hlt62 := OwT.lt2 ho
    have hsz63 := (Below.size hB)
    replace hB := below_ext hB hE61 (Nat.le_refl _)
    replace hm5_0 := hE61.mapT hm5_0
    replace hm5_1 := hE61.at hm5_1
    replace hm8_1 := hE61.iterT hm8_1
    replace ho := hE61.ow ho
    clear hE61
    obtain ⟨hP12_1, hty12_1⟩ := hP12_1
    clear hsz63
    refine WL_val (dd := some 4) rfl rfl rfl (r_assign (v := v12_1) rfl) ?_
    refine WL_val (dd := some 5) rfl rfl rfl (r_assign (v := .int .i64 0) rfl) ?_
    refine WL_nil ?_
    refine hK59 _ _ ?_
    clear hK59 K58
    refine WC_ret ?_
    repeat (first | refine thenQ_ret ?_ | refine blockQ_ret ?_)
    refine ret_tt (v := v12_1) rfl (v1 := .int .i64 0) rfl ?_
    refine ⟨hB, ?_⟩
    rw [if_pos (by rw [htz, decide_eq_true (show cntI ns (f : Int) ≤ 100000 by omega)]; rfl)]
    rw [hsk] at hP12_1 hty12_1
    exact ⟨_, rfl, hP12_1, hty12_1⟩
   ·
    replace hB := below_grown hB hG54 (Nat.le_refl _) (fun j hj => by cases hj; exact lo_b8_1)
    replace hm5_0 := MapT.grownIter hm5_0 hm8_1 hG54
    replace hm5_1 := At.grownIter hm5_1 hm8_1 hG54
    replace ho := OwT.grownIter ho hm8_1 hG54
    clear hG54
    replace hm8_1 := hm55
    clear hm55
    refine WL_val (dd := some 28) rfl rfl rfl (r_ext3_0 (h := rfl)) ?_
    refine WL_nil ?_
    refine hK52 _ _ ?_
    clear hK52 K51
    refine WC_seq (fun K64 hK65 => ?_)
    refine WC_cond_true rfl ?_
    refine WC_skip ?_
    refine hK65 _ _ ?_
    clear hK65 K64
    refine WC_block ?_
    refine WC_seq (fun K66 hK67 => ?_)
    refine WC_region ?_
    refine WL_val (dd := some 29) rfl rfl rfl (r_entry rfl hm8_1 hin9_0) ?_
    refine WL_val (dd := some 30) rfl rfl rfl (r_ext2_0 (h := rfl)) ?_
    refine WL_val (dd := some 8) rfl rfl rfl (r_assign (v := .int .i64 _) rfl) ?_
    refine WL_nil ?_
    refine hK67 _ _ ?_
    clear hK67 K66
    have hcard := iterI_card hwf hfv hm8_1 (told_all htold)
    rw [List.length_cons] at hcard
    refine WC_region ?_
    refine WL_val (dd := some 31) rfl rfl rfl (r_move (v := v0) rfl) ?_
    refine WL_val (dd := some 32) rfl rfl rfl (r_move (v := .int .i64 _) rfl) ?_
    refine WL_step (dd := some 33) rfl rfl rfl (Y_lit1 (u := .int .i64 _) rfl tb_el22 tb_zs3 rfl (by decide) (by decide) (fun b11_2 W68 hb69 hE70 hm11_2 => ?_))
    have lo_b11_2 : w.heap.size ≤ b11_2 := hb69 ▸ (Below.size hB)
    have no_v0_b11_2 := OwT.neB (b := b11_2) ho (Nat.le_of_eq hb69.symm)
    clear hb69
    replace hB := below_ext hB hE70 (Nat.le_refl _)
    replace hm5_0 := hE70.mapT hm5_0
    replace hm5_1 := hE70.at hm5_1
    replace hm8_1 := hE70.iterT hm8_1
    replace ho := hE70.ow ho
    clear hE70
    refine WL_step (dd := some 34) rfl rfl rfl (Y_append (v := v0) (v2 := .slice (some ⟨b11_2, 0, none⟩) 1 1) rfl rfl tb_el22 tb_zs3 (by decide) ho (sl_lit1 hm11_2 rfl) rfl (by have := Below.size hB; omega) (by first | omega | (simp; omega)) (by first | omega | (simp; omega)) (fun v11_3 W71 hG72 ho11_3 => ?_))
    replace ho11_3 := OwT.snoc (enc := encI) (x := kk9_0) rfl rfl rfl rfl ho11_3
    clear hm11_2
    replace hB := below_grown hB hG72 (Nat.le_refl _) (fun j hj => (OwT.lt ho j hj))
    replace hm5_0 := MapT.grownOw hm5_0 ho hG72
    replace hm5_1 := At.grownOw hm5_1 ho hG72 (by decide)
    replace hm8_1 := IterT.grownOw hm8_1 ho hG72
    clear hG72
    clear ho
    refine WL_val (dd := some 7) rfl rfl rfl (r_assign (v := v11_3) rfl) ?_
    refine WL_nil ?_
    refine hJ50 _ _ ((kk9_0 :: seen, v11_3)) ?_ ?_ ?_ ?_
    · repeat (first | exact agree.mask _ _ _ | refine agree.updo ?_ rfl _ | refine agree.updL ?_ _ rfl | refine agree.maskS rfl ?_)
    · exact ⟨rfl, trivial⟩
    · exact ⟨hB, hm5_0, hm5_1, hm8_1, (by rw [List.reverse_cons]; exact ho11_3), trivial⟩
    · have hle := iterI_le hm8_1; show (allT ks).length - (kk9_0 :: seen).length < (allT ks).length - seen.length; simp only [List.length_cons] at hle ⊢; omega

end Go.Proofs.Ytpamgfbecgjjeaa
