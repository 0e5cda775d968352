/-
  The walks of the statements about more deeds with families.
-/
import Derived.Test.YtpamgfbecgjjeaaProg
import Derived.Test.YtpamgfbecgjjeaaWFam5
import Derived.Test.YtpamgfbecgjjeaaWRef20
import Derived.Test.YtpamgfbecgjjeaaZ18
namespace Go.Proofs.Ytpamgfbecgjjeaa
set_option linter.unusedVariables false
set_option linter.unusedSimpArgs false
open Go Go.RowKit

theorem tb_c24 : callB Try.prog 24 = true := by kernel_rfl
theorem tb_c30 : callB Try.prog 30 = true := by kernel_rfl
theorem tb_c31 : callB Try.prog 31 = true := by kernel_rfl
theorem tb_c45 : callB Try.prog 45 = true := by kernel_rfl
theorem tb_c43 : callB Try.prog 43 = true := by kernel_rfl
theorem tb_c27 : callB Try.prog 27 = true := by kernel_rfl
theorem tb_c55 : callB Try.prog 55 = true := by kernel_rfl
theorem tb_c57 : callB Try.prog 57 = true := by kernel_rfl
theorem tb_c48 : callB Try.prog 48 = true := by kernel_rfl
theorem tb_c58 : callB Try.prog 58 = true := by kernel_rfl
theorem tb_c47 : callB Try.prog 47 = true := by kernel_rfl
theorem tb_c59 : callB Try.prog 59 = true := by kernel_rfl
theorem tb_c44 : callB Try.prog 44 = true := by kernel_rfl
theorem tb_c46 : callB Try.prog 46 = true := by kernel_rfl
theorem tb_c36 : callB Try.prog 36 = true := by kernel_rfl

theorem C_drawknifelaw20_is (N ba bm bz R : Nat) (ns : List Nd) (id : Nat) (e : Int) (xw : Value) (W : List Int) (rm : Bool) (w : World) (hz : At w bz #[.pointer (some ⟨ba, 0, none⟩)] 100) (hD : Dia 147 150 N ba bm R w ns) (hW : SlT encI 1 w xw W) (hWl : W.length ≤ 100000) (hst : (e = 0 ∧ Is ns id W) ∨ (e = 5 ∧ id = 0 ∧ rm = false)) :
    Fn Try.prog 47 #[.pointer (some ⟨bz, 0, none⟩), .int .i64 (id : Int), .int .i64 e, xw, .bool rm] w fun v w' => v = .bool true := by
 refine Fn_intro (n := 38) Try.func47 rfl rfl (Nat.le_of_ble_eq_true rfl) ?_
 have hB : Below w.heap.size w w := Below.refl _ _
 have hwf := hD.wf
 have hroom := hD.room
 have htop := hD.top
 refine WC_seq (fun K1 hK2 => ?_)
 refine WC_region ?_
 refine WL_val (dd := some 10) rfl rfl rfl (r_assign (v := .bool false) rfl) ?_
 refine WL_nil ?_
 refine hK2 _ _ ?_
 clear hK2 K1
 refine WC_seq (fun K3 hK4 => ?_)
 refine WC_seq (fun K5 hK6 => ?_)
 refine WC_region ?_
 refine WL_val (dd := some 13) rfl rfl rfl (r_move (v := .int .i64 _) rfl) ?_
 refine WL_val (dd := some 14) rfl rfl rfl (r_neq rfl rfl) ?_
 refine WL_nil ?_
 refine hK6 _ _ ?_
 clear hK6 K5
 refine WC_cond (b := _) rfl (fun hc0 => ?_) (fun hc0 => ?_)
 ·
  try with_reducible replace hc0 := of_decide_eq_true hc0
  refine WC_seq (fun K7 hK8 => ?_)
  obtain ⟨h5, h6, h7⟩ := hst.resolve_left fun h => hc0 h.1
  refine WC_region ?_
  refine WL_val (dd := some 15) rfl rfl rfl (r_move (v := .int .i64 _) rfl) ?_
  refine WL_val (dd := some 16) rfl rfl rfl (r_eql rfl rfl) ?_
  refine WL_split (dd := some 17) rfl rfl rfl (r_move (v := .bool _) rfl) (fun hs2_2 => ?_) (fun hs2_2 => ?_)
  ·
   try with_reducible replace hs2_2 := of_decide_eq_true hs2_2
   refine WL_val (dd := some 18) rfl rfl rfl (r_move (v := .int .i64 _) rfl) ?_
   refine WL_val (dd := some 19) rfl rfl rfl (r_eql rfl rfl) ?_
   refine WL_val (dd := some 20) rfl rfl rfl (r_pick_t rfl (v := .bool _) rfl) ?_
   refine WL_split (dd := some 21) rfl rfl rfl (r_move (v := .bool _) rfl) (fun hs2_6 => ?_) (fun hs2_6 => ?_)
   ·
    try with_reducible replace hs2_6 := of_decide_eq_true hs2_6
    refine WL_val (dd := some 22) rfl rfl rfl (r_move (v := .bool _) rfl) ?_
    refine WL_val (dd := some 23) rfl rfl rfl (r_not rfl) ?_
    refine WL_val (dd := some 24) rfl rfl rfl (r_pick_t rfl (v := .bool _) rfl) ?_
    refine WL_val (dd := some 10) rfl rfl rfl (r_assign (v := .bool _) rfl) ?_
    refine WL_nil ?_
    refine hK8 _ _ ?_
    clear hK8 K7
    refine WC_ret ?_
    repeat (first | refine thenQ_ret ?_ | refine blockQ_ret ?_)
    try clear hK4 K3
    refine ret_t (v := .bool _) rfl ?_
    refine ⟨hB, ?_⟩
    rw [h7]
    rfl
   ·
    try with_reducible replace hs2_6 := of_decide_eq_false hs2_6
    exact absurd h5 hs2_6
  ·
   try with_reducible replace hs2_2 := of_decide_eq_false hs2_2
   exact absurd (by omega) hs2_2
 ·
  try with_reducible replace hc0 := of_decide_eq_false hc0
  refine WC_skip ?_
  refine hK4 _ _ ?_
  clear hK4 K3
  refine WC_seq (fun K9 hK10 => ?_)
  have hI : Is ns id W := by
    rcases hst with h | h
    · exact h.2
    · exact absurd h.1 (by have := Decidable.of_not_not hc0; omega)
  have hv := hI.v
  refine WC_region ?_
  refine WL_val (dd := some 26) rfl rfl rfl (r_move (v := .pointer (some ⟨bz, 0, none⟩)) rfl) ?_
  refine WL_val (dd := some 27) rfl rfl rfl (r_move (v := .int .i64 _) rfl) ?_
  refine WL_call (dd := some 28) rfl rfl rfl (r_call2 tb_c37 (v0 := .pointer (some ⟨bz, 0, none⟩)) rfl (v1 := .int .i64 _) rfl) (C___zdd_Zdd__List N ba bm bz R ns (id : Int) _ (Below.atI hB hz) (Dia.below hB hD) (by omega)) (fun v3_2 W11 hE12 hP3_2 => ?_)
  have hsz13 := (Below.size hB)
  replace hB := below_ext hB hE12 (Nat.le_refl _)
  clear hE12
  obtain ⟨x3_2, rfl, hsl3_2, hty3_2⟩ := list_is hI hwf hWl hP3_2
  clear hsz13
  refine WL_val (dd := some 25) rfl rfl rfl (r_move (v := .tuple #[x3_2, .int .i64 0]) rfl) ?_
  refine WL_val (dd := some 29) rfl rfl rfl (r_ext2_0 (h := rfl)) ?_
  refine WL_val (dd := some 30) rfl rfl rfl (r_ext2_1 (h := rfl)) ?_
  refine WL_val (dd := some 11) rfl rfl rfl (r_assign (v := x3_2) rfl) ?_
  refine WL_val (dd := some 12) rfl rfl rfl (r_assign (v := .int .i64 0) rfl) ?_
  refine WL_nil ?_
  refine hK10 _ _ ?_
  clear hK10 K9
  refine WC_seq (fun K14 hK15 => ?_)
  refine WC_region ?_
  refine WL_val (dd := some 31) rfl rfl rfl (r_move (v := .int .i64 0) rfl) ?_
  refine WL_val (dd := some 32) rfl rfl rfl (r_eql rfl rfl) ?_
  refine WL_split (dd := some 33) rfl rfl rfl (r_move (v := .bool _) rfl) (fun hs4_2 => ?_) (fun hs4_2 => ?_)
  ·
   try with_reducible replace hs4_2 := of_decide_eq_true hs4_2
   refine WL_val (dd := some 34) rfl rfl rfl (r_move (v := x3_2) rfl) ?_
   refine WL_val (dd := some 35) rfl rfl rfl (r_move (v := xw) rfl) ?_
   refine WL_call (dd := some 36) rfl rfl rfl (r_call2 tb_c24 (v0 := x3_2) rfl (v1 := xw) rfl) (C_drawkniferef08_Same _ _ _ _ _ hsl3_2 (Below.slT hB hW) (by first | assumption | omega) (by first | assumption | omega)) (fun v4_5 W16 hE17 hP4_5 => ?_)
   have hsz18 := (Below.size hB)
   replace hB := below_ext hB hE17 (Nat.le_refl _)
   replace hsl3_2 := hE17.slT hsl3_2
   replace hty3_2 := TyS.ext hE17 hty3_2
   clear hE17
   clear hsz18
   obtain rfl := hP4_5
   refine WL_val (dd := some 37) rfl rfl rfl (r_pick_t rfl (v := .bool _) rfl) ?_
   refine WL_val (dd := some 10) rfl rfl rfl (r_assign (v := .bool _) rfl) ?_
   refine WL_nil ?_
   refine hK15 _ _ ?_
   clear hK15 K14
   refine WC_ret ?_
   repeat (first | refine thenQ_ret ?_ | refine blockQ_ret ?_)
   refine ret_t (v := .bool _) rfl ?_
   refine ⟨hB, ?_⟩
   exact congrArg Value.bool (decide_eq_true rfl)
  ·
   try with_reducible replace hs4_2 := of_decide_eq_false hs4_2
   exact absurd rfl hs4_2

set_option maxRecDepth 10000 in
theorem C_drawknifelaw20_few (xf : Value) (f : List Int) (xg : Value) (g : List Int) (w : World) (hf : SlT encI 1 w xf f) (hg : SlT encI 1 w xg g) :
    Fn Try.prog 48 #[xf, xg] w fun v w' => v = .bool (fewB f g) := by
 refine Fn_intro (n := 31) Try.func48 rfl rfl (Nat.le_of_ble_eq_true rfl) ?_
 have hB : Below w.heap.size w w := Below.refl _ _
 refine WC_seq (fun K1 hK2 => ?_)
 refine WC_region ?_
 refine WL_val (dd := some 4) rfl rfl rfl (r_assign (v := .bool false) rfl) ?_
 refine WL_nil ?_
 refine hK2 _ _ ?_
 clear hK2 K1
 refine WC_seq (fun K3 hK4 => ?_)
 refine WC_seq (fun K5 hK6 => ?_)
 refine WC_region ?_
 refine WL_val (dd := some 7) rfl rfl rfl (r_move (v := xf) rfl) ?_
 refine WL_val (dd := some 8) rfl rfl rfl (r_lenS (v := xf) rfl (Below.slT hB hf) tb_el22) ?_
 refine WL_val (dd := some 9) rfl rfl rfl (r_gtr rfl rfl) ?_
 refine WL_split (dd := some 10) rfl rfl rfl (r_move (v := .bool _) rfl) (fun hs1_3 => ?_) (fun hs1_3 => ?_)
 ·
  try with_reducible replace hs1_3 := of_decide_eq_true hs1_3
  refine WL_skip (dd := some 11) rfl rfl rfl ?_
  refine WL_skip (dd := some 12) rfl rfl rfl ?_
  refine WL_skip (dd := some 13) rfl rfl rfl ?_
  refine WL_val (dd := some 14) rfl rfl rfl (r_pick_t rfl (v := .bool true) rfl) ?_
  refine WL_nil ?_
  refine hK6 _ _ ?_
  clear hK6 K5
  refine WC_cond_true rfl ?_
  refine WC_seq (fun K7 hK8 => ?_)
  refine WC_region ?_
  refine WL_val (dd := some 4) rfl rfl rfl (r_assign (v := .bool false) rfl) ?_
  refine WL_nil ?_
  refine hK8 _ _ ?_
  clear hK8 K7
  refine WC_ret ?_
  repeat (first | refine thenQ_ret ?_ | refine blockQ_ret ?_)
  try clear hK4 K3
  refine ret_t (v := .bool false) rfl ?_
  refine ⟨hB, ?_⟩
  exact few_f1 hs1_3
 ·
  try with_reducible replace hs1_3 := of_decide_eq_false hs1_3
  refine WL_val (dd := some 11) rfl rfl rfl (r_move (v := xg) rfl) ?_
  refine WL_val (dd := some 12) rfl rfl rfl (r_lenS (v := xg) rfl (Below.slT hB hg) tb_el22) ?_
  refine WL_val (dd := some 13) rfl rfl rfl (r_gtr rfl rfl) ?_
  refine WL_val (dd := some 14) rfl rfl rfl (r_pick_f rfl (v := .bool _) rfl) ?_
  refine WL_nil ?_
  refine hK6 _ _ ?_
  clear hK6 K5
  refine WC_cond (b := _) rfl (fun hc0 => ?_) (fun hc0 => ?_)
  ·
   try with_reducible replace hc0 := of_decide_eq_true hc0
   refine WC_seq (fun K9 hK10 => ?_)
   refine WC_region ?_
   refine WL_val (dd := some 4) rfl rfl rfl (r_assign (v := .bool false) rfl) ?_
   refine WL_nil ?_
   refine hK10 _ _ ?_
   clear hK10 K9
   refine WC_ret ?_
   repeat (first | refine thenQ_ret ?_ | refine blockQ_ret ?_)
   try clear hK4 K3
   refine ret_t (v := .bool false) rfl ?_
   refine ⟨hB, ?_⟩
   exact few_f2 hc0
  ·
   try with_reducible replace hc0 := of_decide_eq_false hc0
   refine WC_skip ?_
   refine hK4 _ _ ?_
   clear hK4 K3
   refine WC_seq (fun K11 hK12 => ?_)
   have h1 : ¬ (f.length : Int) > 10 := hs1_3
   have h2 : ¬ (g.length : Int) > 10 := hc0
   have hlen : (f ++ g).length = f.length + g.length := List.length_append
   refine WC_region ?_
   refine WL_step (dd := some 15) rfl rfl rfl (Y_lit0 tb_el22 (fun b3_0 W13 hb14 hE15 hm3_0 => ?_))
   have lo_b3_0 : w.heap.size ≤ b3_0 := hb14 ▸ (Below.size hB)
   clear hb14
   replace hB := below_ext hB hE15 (Nat.le_refl _)
   clear hE15
   have ho3_0 := own_lit0 (enc := encI) (sz := 1) hm3_0 lo_b3_0
   clear hm3_0
   refine WL_val (dd := some 16) rfl rfl rfl (r_move (v := xf) rfl) ?_
   refine WL_step (dd := some 17) rfl rfl rfl (Y_append (v := .slice (some ⟨b3_0, 0, none⟩) 0 0) (v2 := xf) rfl rfl tb_el22 tb_zs3 (by decide) ho3_0 (Below.slT hB hf) (enc_one_encI) (by have := Below.size hB; omega) (by first | omega | (simp; omega)) (by first | omega | (simp; omega)) (fun v3_2 W16 hG17 ho3_2 => ?_))
   replace ho3_2 := OwT.app (enc := encI) rfl rfl rfl rfl ho3_2
   replace hB := below_grown hB hG17 (Nat.le_refl _) (fun j hj => (OwT.lt ho3_0 j hj))
   clear hG17
   clear ho3_0
   rw [List.nil_append] at ho3_2
   refine WL_val (dd := some 18) rfl rfl rfl (r_move (v := xg) rfl) ?_
   refine WL_step (dd := some 19) rfl rfl rfl (Y_append (v := v3_2) (v2 := xg) rfl rfl tb_el22 tb_zs3 (by decide) ho3_2 (Below.slT hB hg) (enc_one_encI) (by have := Below.size hB; omega) (by first | omega | (simp; omega)) (by first | omega | (simp; omega)) (fun v3_4 W19 hG20 ho3_4 => ?_))
   replace ho3_4 := OwT.app (enc := encI) rfl rfl rfl rfl ho3_4
   replace hB := below_grown hB hG20 (Nat.le_refl _) (fun j hj => (OwT.lt ho3_2 j hj))
   clear hG20
   clear ho3_2
   refine WL_val (dd := some 5) rfl rfl rfl (r_assign (v := v3_4) rfl) ?_
   refine WL_nil ?_
   refine hK12 _ _ ?_
   clear hK12 K11
   refine WC_seq (fun K22 hK23 => ?_)
   refine WC_seq (fun K24 hK25 => ?_)
   refine WC_region ?_
   refine WL_val (dd := some 6) rfl rfl rfl (r_assign (v := .int .i64 0) rfl) ?_
   refine WL_nil ?_
   refine hK25 _ _ ?_
   clear hK25 K24
   refine WC_block ?_
   refine WC_loop (σ := (Nat)) [4, 6, 20, 21, 22, 23, 24, 25, 26, 27, 28, 29, 30] (fun k => [(6, .int .i64 (k : Int))]) (fun k W => (Below w.heap.size w W) ∧ (OwT encI 1 3 W w.heap.size v3_4 _) ∧ (k ≤ (f ++ g).length) ∧ (∀ q, q < k → (f ++ g).getD q 0 ≤ 255) ∧ (True)) (fun k => (f ++ g).length - k) (0) ⟨rfl, trivial⟩ ⟨hB, ho3_4, (Nat.zero_le _), upTo_zero, trivial⟩ ?_
   clear hB ho3_4
   rintro k g27 W26 ⟨hB, ho3_4, hk, hq, _⟩ J28 hJ29
   refine WC_seq (fun K30 hK31 => ?_)
   refine WC_seq (fun K32 hK33 => ?_)
   refine WC_region ?_
   refine WL_val (dd := some 20) rfl rfl rfl (r_move (v := .int .i64 _) rfl) ?_
   refine WL_val (dd := some 21) rfl rfl rfl (r_move (v := v3_4) rfl) ?_
   refine WL_val (dd := some 22) rfl rfl rfl (r_lenS (v := v3_4) rfl ho3_4.sl tb_el22) ?_
   refine WL_val (dd := some 23) rfl rfl rfl (r_lss rfl rfl) ?_
   refine WL_nil ?_
   refine hK33 _ _ ?_
   clear hK33 K32
   refine WC_cond (b := _) rfl (fun hc1 => ?_) (fun hc1 => ?_)
   ·
    try with_reducible replace hc1 := of_decide_eq_true hc1
    refine WC_skip ?_
    refine hK31 _ _ ?_
    clear hK31 K30
    refine WC_seq (fun K34 hK35 => ?_)
    refine WC_block ?_
    refine WC_seq (fun K36 hK37 => ?_)
    refine WC_region ?_
    refine WL_val (dd := some 26) rfl rfl rfl (r_move (v := v3_4) rfl) ?_
    refine WL_val (dd := some 27) rfl rfl rfl (r_move (v := .int .i64 _) rfl) ?_
    refine WL_val (dd := some 28) rfl rfl rfl (r_idxS (v := v3_4) rfl ho3_4.sl rfl tb_el22 (by omega) (by omega)) ?_
    refine WL_val (dd := some 29) rfl rfl rfl (r_load1 (v := .int .i64 _) rfl tb_sc3 (SlT.cell ho3_4.sl encI_len 0 (by omega) (by omega) 0 rfl)) ?_
    refine WL_val (dd := some 30) rfl rfl rfl (r_gtr rfl rfl) ?_
    refine WL_nil ?_
    refine hK37 _ _ ?_
    clear hK37 K36
    refine WC_cond (b := _) rfl (fun hc2 => ?_) (fun hc2 => ?_)
    ·
     try with_reducible replace hc2 := of_decide_eq_true hc2
     refine WC_seq (fun K38 hK39 => ?_)
     refine WC_region ?_
     refine WL_val (dd := some 4) rfl rfl rfl (r_assign (v := .bool false) rfl) ?_
     refine WL_nil ?_
     refine hK39 _ _ ?_
     clear hK39 K38
     refine WC_ret ?_
     repeat (first | refine thenQ_ret ?_ | refine blockQ_ret ?_)
     try clear hK35 K34
     try clear hJ29 J28
     try clear hK23 K22
     refine ret_t (v := .bool false) rfl ?_
     refine ⟨hB, ?_⟩
     exact few_f3 (k := k) (by omega) hc2
    ·
     try with_reducible replace hc2 := of_decide_eq_false hc2
     refine WC_skip ?_
     refine hK35 _ _ ?_
     clear hK35 K34
     refine WC_region ?_
     refine WL_val (dd := some 24) rfl rfl rfl (r_move (v := .int .i64 _) rfl) ?_
     refine WL_val (dd := some 25) rfl rfl rfl (r_addI rfl rfl (by omega) (by omega)) ?_
     refine WL_val (dd := some 6) rfl rfl rfl (r_assign (v := .int .i64 _) rfl) ?_
     refine WL_nil ?_
     refine hJ29 _ _ (k + 1) ?_ ?_ ?_ ?_
     · repeat (first | exact agree.mask _ _ _ | refine agree.updo ?_ rfl _ | refine agree.updL ?_ _ rfl | refine agree.maskS rfl ?_)
     · exact ⟨rfl, trivial⟩
     · exact ⟨hB, ho3_4, (by omega), (upTo_succ hq (Int.not_lt.1 hc2)), trivial⟩
     · show (f ++ g).length - (k + 1) < (f ++ g).length - k; omega
   ·
    try with_reducible replace hc1 := of_decide_eq_false hc1
    refine WC_exit ?_
    refine hK23 _ _ ?_
    clear hK31 K30
    clear hJ29 J28
    clear hK23 K22
    refine WC_seq (fun K40 hK41 => ?_)
    refine WC_region ?_
    refine WL_val (dd := some 4) rfl rfl rfl (r_assign (v := .bool true) rfl) ?_
    refine WL_nil ?_
    refine hK41 _ _ ?_
    clear hK41 K40
    refine WC_ret ?_
    repeat (first | refine thenQ_ret ?_ | refine blockQ_ret ?_)
    refine ret_t (v := .bool true) rfl ?_
    refine ⟨hB, ?_⟩
    exact few_t h1 h2 (k := k) (by omega) hq

set_option maxRecDepth 10000 in
theorem C_drawknifelaw20_start (xf : Value) (f : List Int) (xg : Value) (g : List Int) (w : World) (hf : SlT encI 1 w xf f) (hg : SlT encI 1 w xg g) :
    Fn Try.prog 43 #[xf, xg] w fun v w' => (OkF f g ∧ ∃ (bz ba bm a b : Nat) (ns : List Nd), v = .tuple #[.pointer (some ⟨bz, 0, none⟩), .int .i64 (a : Int), .int .i64 (b : Int), .bool true] ∧ At w' bz #[.pointer (some ⟨ba, 0, none⟩)] 100 ∧ Dia 147 150 w.heap.size ba bm 20000 w' ns ∧ Is ns a (ofI f) ∧ Is ns b (ofI g) ∧ ns.length ≤ bcL 0 f + bcL 0 g) ∨ v = .tuple #[.pointer none, .int .i64 0, .int .i64 0, .bool false] := by
 refine Fn_intro (n := 67) Try.func43 rfl rfl (Nat.le_of_ble_eq_true rfl) ?_
 have hB : Below w.heap.size w w := Below.refl _ _
 refine WC_seq (fun K1 hK2 => ?_)
 refine WC_region ?_
 refine WL_val (dd := some 4) rfl rfl rfl (r_assign (v := .pointer none) rfl) ?_
 refine WL_val (dd := some 5) rfl rfl rfl (r_assign (v := .int .i64 0) rfl) ?_
 refine WL_val (dd := some 6) rfl rfl rfl (r_assign (v := .int .i64 0) rfl) ?_
 refine WL_val (dd := some 7) rfl rfl rfl (r_assign (v := .bool false) rfl) ?_
 refine WL_nil ?_
 refine hK2 _ _ ?_
 clear hK2 K1
 refine WC_seq (fun K3 hK4 => ?_)
 refine WC_seq (fun K5 hK6 => ?_)
 refine WC_region ?_
 refine WL_val (dd := some 16) rfl rfl rfl (r_move (v := xf) rfl) ?_
 refine WL_val (dd := some 17) rfl rfl rfl (r_lenS (v := xf) rfl (Below.slT hB hf) tb_el22) ?_
 refine WL_val (dd := some 18) rfl rfl rfl (r_gtr rfl rfl) ?_
 refine WL_split (dd := some 19) rfl rfl rfl (r_move (v := .bool _) rfl) (fun hs1_3 => ?_) (fun hs1_3 => ?_)
 ·
  try with_reducible replace hs1_3 := of_decide_eq_true hs1_3
  refine WL_skip (dd := some 20) rfl rfl rfl ?_
  refine WL_skip (dd := some 21) rfl rfl rfl ?_
  refine WL_skip (dd := some 22) rfl rfl rfl ?_
  refine WL_val (dd := some 23) rfl rfl rfl (r_pick_t rfl (v := .bool true) rfl) ?_
  refine WL_nil ?_
  refine hK6 _ _ ?_
  clear hK6 K5
  refine WC_cond_true rfl ?_
  refine WC_seq (fun K7 hK8 => ?_)
  refine WC_region ?_
  refine WL_val (dd := some 4) rfl rfl rfl (r_assign (v := .pointer none) rfl) ?_
  refine WL_val (dd := some 5) rfl rfl rfl (r_assign (v := .int .i64 0) rfl) ?_
  refine WL_val (dd := some 6) rfl rfl rfl (r_assign (v := .int .i64 0) rfl) ?_
  refine WL_val (dd := some 7) rfl rfl rfl (r_assign (v := .bool false) rfl) ?_
  refine WL_nil ?_
  refine hK8 _ _ ?_
  clear hK8 K7
  refine WC_ret ?_
  repeat (first | refine thenQ_ret ?_ | refine blockQ_ret ?_)
  try clear hK4 K3
  refine ret_tttt (v := .pointer none) rfl (v1 := .int .i64 0) rfl (v2 := .int .i64 0) rfl (v3 := .bool false) rfl ?_
  refine ⟨hB, ?_⟩
  exact .inr rfl
 ·
  try with_reducible replace hs1_3 := of_decide_eq_false hs1_3
  refine WL_val (dd := some 20) rfl rfl rfl (r_move (v := xg) rfl) ?_
  refine WL_val (dd := some 21) rfl rfl rfl (r_lenS (v := xg) rfl (Below.slT hB hg) tb_el22) ?_
  refine WL_val (dd := some 22) rfl rfl rfl (r_gtr rfl rfl) ?_
  refine WL_val (dd := some 23) rfl rfl rfl (r_pick_f rfl (v := .bool _) rfl) ?_
  refine WL_nil ?_
  refine hK6 _ _ ?_
  clear hK6 K5
  refine WC_cond (b := _) rfl (fun hc0 => ?_) (fun hc0 => ?_)
  ·
   try with_reducible replace hc0 := of_decide_eq_true hc0
   refine WC_seq (fun K9 hK10 => ?_)
   refine WC_region ?_
   refine WL_val (dd := some 4) rfl rfl rfl (r_assign (v := .pointer none) rfl) ?_
   refine WL_val (dd := some 5) rfl rfl rfl (r_assign (v := .int .i64 0) rfl) ?_
   refine WL_val (dd := some 6) rfl rfl rfl (r_assign (v := .int .i64 0) rfl) ?_
   refine WL_val (dd := some 7) rfl rfl rfl (r_assign (v := .bool false) rfl) ?_
   refine WL_nil ?_
   refine hK10 _ _ ?_
   clear hK10 K9
   refine WC_ret ?_
   repeat (first | refine thenQ_ret ?_ | refine blockQ_ret ?_)
   try clear hK4 K3
   refine ret_tttt (v := .pointer none) rfl (v1 := .int .i64 0) rfl (v2 := .int .i64 0) rfl (v3 := .bool false) rfl ?_
   refine ⟨hB, ?_⟩
   exact .inr rfl
  ·
   try with_reducible replace hc0 := of_decide_eq_false hc0
   refine WC_skip ?_
   refine hK4 _ _ ?_
   clear hK4 K3
   refine WC_seq (fun K11 hK12 => ?_)
   refine WC_seq (fun K13 hK14 => ?_)
   have hfl : f.length ≤ 24 := by omega
   have hgl : g.length ≤ 24 := by omega
   refine WC_region ?_
   refine WL_val (dd := some 8) rfl rfl rfl (r_assign (v := .int .i64 0) rfl) ?_
   refine WL_nil ?_
   refine hK14 _ _ ?_
   clear hK14 K13
   refine WC_block ?_
   refine WC_loop (σ := (Nat)) [4, 5, 6, 7, 8, 24, 25, 26, 27, 28, 29, 30, 31, 32, 33, 34, 35] (fun k => [(8, .int .i64 (k : Int))]) (fun k W => (Below w.heap.size w W) ∧ (k ≤ f.length) ∧ (∀ q, q < k → 0 ≤ f.getD q 0 ∧ f.getD q 0 < 16777216) ∧ (True)) (fun k => f.length - k) (0) ⟨rfl, trivial⟩ ⟨hB, (Nat.zero_le _), upTo_zero, trivial⟩ ?_
   clear hB
   rintro k g16 W15 ⟨hB, hk, hq, _⟩ J17 hJ18
   refine WC_seq (fun K19 hK20 => ?_)
   refine WC_seq (fun K21 hK22 => ?_)
   refine WC_region ?_
   refine WL_val (dd := some 24) rfl rfl rfl (r_move (v := .int .i64 _) rfl) ?_
   refine WL_val (dd := some 25) rfl rfl rfl (r_move (v := xf) rfl) ?_
   refine WL_val (dd := some 26) rfl rfl rfl (r_lenS (v := xf) rfl (Below.slT hB hf) tb_el22) ?_
   refine WL_val (dd := some 27) rfl rfl rfl (r_lss rfl rfl) ?_
   refine WL_nil ?_
   refine hK22 _ _ ?_
   clear hK22 K21
   refine WC_cond (b := _) rfl (fun hc1 => ?_) (fun hc1 => ?_)
   ·
    try with_reducible replace hc1 := of_decide_eq_true hc1
    refine WC_skip ?_
    refine hK20 _ _ ?_
    clear hK20 K19
    refine WC_seq (fun K23 hK24 => ?_)
    refine WC_block ?_
    refine WC_seq (fun K25 hK26 => ?_)
    refine WC_region ?_
    refine WL_val (dd := some 30) rfl rfl rfl (r_move (v := xf) rfl) ?_
    refine WL_val (dd := some 31) rfl rfl rfl (r_move (v := .int .i64 _) rfl) ?_
    refine WL_val (dd := some 32) rfl rfl rfl (r_idxS (v := xf) rfl (Below.slT hB hf) rfl tb_el22 (by omega) (by omega)) ?_
    refine WL_val (dd := some 33) rfl rfl rfl (r_load1 (v := .int .i64 _) rfl tb_sc3 (SlT.cell (Below.slT hB hf) encI_len 0 (by omega) (by omega) 0 rfl)) ?_
    refine WL_call (dd := some 34) rfl rfl rfl (r_call1 tb_c30 (v0 := .int .i64 _) rfl) (C_drawkniferef08_May _ _) (fun v6_4 W27 hE28 hP6_4 => ?_)
    have hsz29 := (Below.size hB)
    replace hB := below_ext hB hE28 (Nat.le_refl _)
    clear hE28
    clear hsz29
    obtain rfl := hP6_4
    refine WL_val (dd := some 35) rfl rfl rfl (r_not rfl) ?_
    refine WL_nil ?_
    refine hK26 _ _ ?_
    clear hK26 K25
    refine WC_cond (b := _) rfl (fun hc2 => ?_) (fun hc2 => ?_)
    ·
     try with_reducible replace hc2 := of_decide_eq_true hc2
     refine WC_seq (fun K30 hK31 => ?_)
     refine WC_region ?_
     refine WL_val (dd := some 4) rfl rfl rfl (r_assign (v := .pointer none) rfl) ?_
     refine WL_val (dd := some 5) rfl rfl rfl (r_assign (v := .int .i64 0) rfl) ?_
     refine WL_val (dd := some 6) rfl rfl rfl (r_assign (v := .int .i64 0) rfl) ?_
     refine WL_val (dd := some 7) rfl rfl rfl (r_assign (v := .bool false) rfl) ?_
     refine WL_nil ?_
     refine hK31 _ _ ?_
     clear hK31 K30
     refine WC_ret ?_
     repeat (first | refine thenQ_ret ?_ | refine blockQ_ret ?_)
     try clear hK24 K23
     try clear hJ18 J17
     try clear hK12 K11
     refine ret_tttt (v := .pointer none) rfl (v1 := .int .i64 0) rfl (v2 := .int .i64 0) rfl (v3 := .bool false) rfl ?_
     refine ⟨hB, ?_⟩
     exact .inr rfl
    ·
     try with_reducible replace hc2 := of_decide_eq_false hc2
     refine WC_skip ?_
     refine hK24 _ _ ?_
     clear hK24 K23
     refine WC_region ?_
     refine WL_val (dd := some 28) rfl rfl rfl (r_move (v := .int .i64 _) rfl) ?_
     refine WL_val (dd := some 29) rfl rfl rfl (r_addI rfl rfl (by omega) (by omega)) ?_
     refine WL_val (dd := some 8) rfl rfl rfl (r_assign (v := .int .i64 _) rfl) ?_
     refine WL_nil ?_
     refine hJ18 _ _ (k + 1) ?_ ?_ ?_ ?_
     · repeat (first | exact agree.mask _ _ _ | refine agree.updo ?_ rfl _ | refine agree.updL ?_ _ rfl | refine agree.maskS rfl ?_)
     · exact ⟨rfl, trivial⟩
     · exact ⟨hB, (by omega), (upTo_succ hq (by simpa using hc2)), trivial⟩
     · first | omega | (dsimp only; omega)
   ·
    try with_reducible replace hc1 := of_decide_eq_false hc1
    refine WC_exit ?_
    refine hK12 _ _ ?_
    clear hK20 K19
    clear hJ18 J17
    clear hK12 K11
    refine WC_seq (fun K32 hK33 => ?_)
    refine WC_seq (fun K34 hK35 => ?_)
    have hof := ofB_all (l := f) (k := k) (by omega) hq
    refine WC_region ?_
    refine WL_val (dd := some 9) rfl rfl rfl (r_assign (v := .int .i64 0) rfl) ?_
    refine WL_nil ?_
    refine hK35 _ _ ?_
    clear hK35 K34
    refine WC_block ?_
    refine WC_loop (σ := (Nat)) [4, 5, 6, 7, 9, 36, 37, 38, 39, 40, 41, 42, 43, 44, 45, 46, 47] (fun k2 => [(9, .int .i64 (k2 : Int))]) (fun k2 W => (Below w.heap.size w W) ∧ (k2 ≤ g.length) ∧ (∀ q, q < k2 → 0 ≤ g.getD q 0 ∧ g.getD q 0 < 16777216) ∧ (True)) (fun k2 => g.length - k2) (0) ⟨rfl, trivial⟩ ⟨hB, (Nat.zero_le _), upTo_zero, trivial⟩ ?_
    clear hB
    rintro k2 g37 W36 ⟨hB, hk2, hq2, _⟩ J38 hJ39
    refine WC_seq (fun K40 hK41 => ?_)
    refine WC_seq (fun K42 hK43 => ?_)
    refine WC_region ?_
    refine WL_val (dd := some 36) rfl rfl rfl (r_move (v := .int .i64 _) rfl) ?_
    refine WL_val (dd := some 37) rfl rfl rfl (r_move (v := xg) rfl) ?_
    refine WL_val (dd := some 38) rfl rfl rfl (r_lenS (v := xg) rfl (Below.slT hB hg) tb_el22) ?_
    refine WL_val (dd := some 39) rfl rfl rfl (r_lss rfl rfl) ?_
    refine WL_nil ?_
    refine hK43 _ _ ?_
    clear hK43 K42
    refine WC_cond (b := _) rfl (fun hc3 => ?_) (fun hc3 => ?_)
    ·
     try with_reducible replace hc3 := of_decide_eq_true hc3
     refine WC_skip ?_
     refine hK41 _ _ ?_
     clear hK41 K40
     refine WC_seq (fun K44 hK45 => ?_)
     refine WC_block ?_
     refine WC_seq (fun K46 hK47 => ?_)
     refine WC_region ?_
     refine WL_val (dd := some 42) rfl rfl rfl (r_move (v := xg) rfl) ?_
     refine WL_val (dd := some 43) rfl rfl rfl (r_move (v := .int .i64 _) rfl) ?_
     refine WL_val (dd := some 44) rfl rfl rfl (r_idxS (v := xg) rfl (Below.slT hB hg) rfl tb_el22 (by omega) (by omega)) ?_
     refine WL_val (dd := some 45) rfl rfl rfl (r_load1 (v := .int .i64 _) rfl tb_sc3 (SlT.cell (Below.slT hB hg) encI_len 0 (by omega) (by omega) 0 rfl)) ?_
     refine WL_call (dd := some 46) rfl rfl rfl (r_call1 tb_c30 (v0 := .int .i64 _) rfl) (C_drawkniferef08_May _ _) (fun v11_4 W48 hE49 hP11_4 => ?_)
     have hsz50 := (Below.size hB)
     replace hB := below_ext hB hE49 (Nat.le_refl _)
     clear hE49
     clear hsz50
     obtain rfl := hP11_4
     refine WL_val (dd := some 47) rfl rfl rfl (r_not rfl) ?_
     refine WL_nil ?_
     refine hK47 _ _ ?_
     clear hK47 K46
     refine WC_cond (b := _) rfl (fun hc4 => ?_) (fun hc4 => ?_)
     ·
      try with_reducible replace hc4 := of_decide_eq_true hc4
      refine WC_seq (fun K51 hK52 => ?_)
      refine WC_region ?_
      refine WL_val (dd := some 4) rfl rfl rfl (r_assign (v := .pointer none) rfl) ?_
      refine WL_val (dd := some 5) rfl rfl rfl (r_assign (v := .int .i64 0) rfl) ?_
      refine WL_val (dd := some 6) rfl rfl rfl (r_assign (v := .int .i64 0) rfl) ?_
      refine WL_val (dd := some 7) rfl rfl rfl (r_assign (v := .bool false) rfl) ?_
      refine WL_nil ?_
      refine hK52 _ _ ?_
      clear hK52 K51
      refine WC_ret ?_
      repeat (first | refine thenQ_ret ?_ | refine blockQ_ret ?_)
      try clear hK45 K44
      try clear hJ39 J38
      try clear hK33 K32
      refine ret_tttt (v := .pointer none) rfl (v1 := .int .i64 0) rfl (v2 := .int .i64 0) rfl (v3 := .bool false) rfl ?_
      refine ⟨hB, ?_⟩
      exact .inr rfl
     ·
      try with_reducible replace hc4 := of_decide_eq_false hc4
      refine WC_skip ?_
      refine hK45 _ _ ?_
      clear hK45 K44
      refine WC_region ?_
      refine WL_val (dd := some 40) rfl rfl rfl (r_move (v := .int .i64 _) rfl) ?_
      refine WL_val (dd := some 41) rfl rfl rfl (r_addI rfl rfl (by omega) (by omega)) ?_
      refine WL_val (dd := some 9) rfl rfl rfl (r_assign (v := .int .i64 _) rfl) ?_
      refine WL_nil ?_
      refine hJ39 _ _ (k2 + 1) ?_ ?_ ?_ ?_
      · repeat (first | exact agree.mask _ _ _ | refine agree.updo ?_ rfl _ | refine agree.updL ?_ _ rfl | refine agree.maskS rfl ?_)
      · exact ⟨rfl, trivial⟩
      · exact ⟨hB, (by omega), (upTo_succ hq2 (by simpa using hc4)), trivial⟩
      · first | omega | (dsimp only; omega)
    ·
     try with_reducible replace hc3 := of_decide_eq_false hc3
     refine WC_exit ?_
     refine hK33 _ _ ?_
     clear hK41 K40
     clear hJ39 J38
     clear hK33 K32
     refine WC_seq (fun K53 hK54 => ?_)
     have hog := ofB_all (l := g) (k := k2) (by omega) hq2
     refine WC_region ?_
     refine WL_call (dd := some 49) rfl rfl rfl (r_call1 tb_c31 (v0 := .int .i64 20000) rfl) (C_zdd_New 20000 _ (by omega)) (fun v13_0 W55 hE56 hP13_0 => ?_)
     have hsz57 := (Below.size hB)
     replace hB := below_ext hB hE56 (Nat.le_refl _)
     clear hE56
     obtain ⟨bz, ba, bm, rfl, hz, hD⟩ := hP13_0
     replace hD := Dia.mono hD hsz57
     clear hsz57
     refine WL_val (dd := some 48) rfl rfl rfl (r_move (v := .tuple #[.pointer (some ⟨bz, 0, none⟩), .int .i64 0]) rfl) ?_
     refine WL_val (dd := some 50) rfl rfl rfl (r_ext2_0 (h := rfl)) ?_
     refine WL_val (dd := some 51) rfl rfl rfl (r_ext2_1 (h := rfl)) ?_
     refine WL_val (dd := some 10) rfl rfl rfl (r_assign (v := .pointer (some ⟨bz, 0, none⟩)) rfl) ?_
     refine WL_val (dd := some 11) rfl rfl rfl (r_assign (v := .int .i64 0) rfl) ?_
     refine WL_nil ?_
     refine hK54 _ _ ?_
     clear hK54 K53
     refine WC_seq (fun K58 hK59 => ?_)
     refine WC_region ?_
     refine WL_val (dd := some 53) rfl rfl rfl (r_move (v := .pointer (some ⟨bz, 0, none⟩)) rfl) ?_
     refine WL_val (dd := some 54) rfl rfl rfl (r_move (v := xf) rfl) ?_
     refine WL_callG (dd := some 55) rfl rfl rfl (r_call2 tb_c32 (v0 := .pointer (some ⟨bz, 0, none⟩)) rfl (v1 := xf) rfl) (C___zdd_Zdd__Of _ _ _ _ _ _ _ _ _ (Below.size hB) hz hD (Below.slT hB hf) (by first | assumption | omega)) (fun v14_2 W60 hP14_2 => ?_)
     obtain ⟨ns14_2, id14_2, er14_2, rfl, hx14_2, hDn14_2, hg14_2⟩ := hP14_2
     replace hB := Below.dx hB (Nat.le_refl _) (Nat.le_refl _) hx14_2
     replace hz := At.dx hD hx14_2 hz (by decide) (by decide)
     replace hD := hDn14_2
     refine WL_val (dd := some 52) rfl rfl rfl (r_move (v := .tuple #[.int .i64 (id14_2 : Int), .int .i64 er14_2]) rfl) ?_
     refine WL_val (dd := some 56) rfl rfl rfl (r_ext2_0 (h := rfl)) ?_
     refine WL_val (dd := some 57) rfl rfl rfl (r_ext2_1 (h := rfl)) ?_
     refine WL_val (dd := some 12) rfl rfl rfl (r_assign (v := .int .i64 _) rfl) ?_
     refine WL_val (dd := some 13) rfl rfl rfl (r_assign (v := .int .i64 _) rfl) ?_
     refine WL_nil ?_
     refine hK59 _ _ ?_
     clear hK59 K58
     refine WC_seq (fun K62 hK63 => ?_)
     have hgA := pe_ok hg14_2 hof
     have hcA := hgA.cost
     obtain ⟨_, hIa, hpA, hlA⟩ := room_O hgA hof 24 hfl (by simp)
     refine WC_region ?_
     refine WL_val (dd := some 59) rfl rfl rfl (r_move (v := .pointer (some ⟨bz, 0, none⟩)) rfl) ?_
     refine WL_val (dd := some 60) rfl rfl rfl (r_move (v := xg) rfl) ?_
     refine WL_callG (dd := some 61) rfl rfl rfl (r_call2 tb_c32 (v0 := .pointer (some ⟨bz, 0, none⟩)) rfl (v1 := xg) rfl) (C___zdd_Zdd__Of _ _ _ _ _ _ _ _ _ (Below.size hB) hz hD (Below.slT hB hg) (by first | assumption | omega)) (fun v15_2 W64 hP15_2 => ?_)
     obtain ⟨ns15_2, id15_2, er15_2, rfl, hx15_2, hDn15_2, hg15_2⟩ := hP15_2
     replace hB := Below.dx hB (Nat.le_refl _) (Nat.le_refl _) hx15_2
     replace hz := At.dx hD hx15_2 hz (by decide) (by decide)
     replace hD := hDn15_2
     refine WL_val (dd := some 58) rfl rfl rfl (r_move (v := .tuple #[.int .i64 (id15_2 : Int), .int .i64 er15_2]) rfl) ?_
     refine WL_val (dd := some 62) rfl rfl rfl (r_ext2_0 (h := rfl)) ?_
     refine WL_val (dd := some 63) rfl rfl rfl (r_ext2_1 (h := rfl)) ?_
     refine WL_val (dd := some 14) rfl rfl rfl (r_assign (v := .int .i64 _) rfl) ?_
     refine WL_val (dd := some 15) rfl rfl rfl (r_assign (v := .int .i64 _) rfl) ?_
     refine WL_nil ?_
     refine hK63 _ _ ?_
     clear hK63 K62
     refine WC_seq (fun K66 hK67 => ?_)
     have hgB := pe_ok hg15_2 hog
     have hcB := hgB.cost
     obtain ⟨_, hIb, hpB, hlB⟩ := room_O hgB hog 24 hgl (by simp at hlA; omega)
     replace hIa := hIa.pre hpB
     simp only [List.length_nil] at hcA
     refine WC_region ?_
     refine WL_val (dd := some 64) rfl rfl rfl (r_move (v := .pointer (some ⟨bz, 0, none⟩)) rfl) ?_
     refine WL_val (dd := some 65) rfl rfl rfl (r_move (v := .int .i64 _) rfl) ?_
     refine WL_val (dd := some 66) rfl rfl rfl (r_move (v := .int .i64 _) rfl) ?_
     refine WL_val (dd := some 4) rfl rfl rfl (r_assign (v := .pointer (some ⟨bz, 0, none⟩)) rfl) ?_
     refine WL_val (dd := some 5) rfl rfl rfl (r_assign (v := .int .i64 _) rfl) ?_
     refine WL_val (dd := some 6) rfl rfl rfl (r_assign (v := .int .i64 _) rfl) ?_
     refine WL_val (dd := some 7) rfl rfl rfl (r_assign (v := .bool true) rfl) ?_
     refine WL_nil ?_
     refine hK67 _ _ ?_
     clear hK67 K66
     refine WC_ret ?_
     repeat (first | refine thenQ_ret ?_ | refine blockQ_ret ?_)
     refine ret_tttt (v := .pointer (some ⟨bz, 0, none⟩)) rfl (v1 := .int .i64 _) rfl (v2 := .int .i64 _) rfl (v3 := .bool true) rfl ?_
     refine ⟨hB, ?_⟩
     exact .inl ⟨⟨hfl, hgl, hof, hog⟩, bz, ba, bm, _, _, _, rfl, hz, hD, hIa, hIb, by omega⟩

set_option maxRecDepth 10000 in
theorem C_drawknifelaw20_knows  (w : World) :
    Fn Try.prog 44 #[] w fun v w' => v = .bool true := by
 refine Fn_intro (n := 74) Try.func44 rfl rfl (Nat.le_of_ble_eq_true rfl) ?_
 have hB : Below w.heap.size w w := Below.refl _ _
 refine WC_seq (fun K1 hK2 => ?_)
 refine WC_region ?_
 refine WL_val (dd := some 0) rfl rfl rfl (r_assign (v := .bool false) rfl) ?_
 refine WL_nil ?_
 refine hK2 _ _ ?_
 clear hK2 K1
 refine WC_seq (fun K3 hK4 => ?_)
 refine WC_region ?_
 refine WL_call (dd := some 15) rfl rfl rfl (r_call1 tb_c31 (v0 := .int .i64 20000) rfl) (C_zdd_New 20000 _ (by omega)) (fun v1_0 W5 hE6 hP1_0 => ?_)
 have hsz7 := (Below.size hB)
 replace hB := below_ext hB hE6 (Nat.le_refl _)
 clear hE6
 obtain ⟨bz, ba, bm, rfl, hz, hD⟩ := hP1_0
 replace hD := Dia.mono hD hsz7
 clear hsz7
 refine WL_val (dd := some 14) rfl rfl rfl (r_move (v := .tuple #[.pointer (some ⟨bz, 0, none⟩), .int .i64 0]) rfl) ?_
 refine WL_val (dd := some 16) rfl rfl rfl (r_ext2_0 (h := rfl)) ?_
 refine WL_val (dd := some 17) rfl rfl rfl (r_ext2_1 (h := rfl)) ?_
 refine WL_val (dd := some 1) rfl rfl rfl (r_assign (v := .pointer (some ⟨bz, 0, none⟩)) rfl) ?_
 refine WL_val (dd := some 2) rfl rfl rfl (r_assign (v := .int .i64 0) rfl) ?_
 refine WL_nil ?_
 refine hK4 _ _ ?_
 clear hK4 K3
 refine WC_seq (fun K8 hK9 => ?_)
 refine WC_region ?_
 refine WL_val (dd := some 19) rfl rfl rfl (r_move (v := .pointer (some ⟨bz, 0, none⟩)) rfl) ?_
 refine WL_step (dd := some 20) rfl rfl rfl (Y_lit3 (u0 := .int .i64 3) (u1 := .int .i64 5) (u2 := .int .i64 8) rfl rfl rfl tb_el22 tb_zs3 rfl rfl rfl (fun b2_1 W10 hb11 hE12 hm2_1 => ?_))
 have lo_b2_1 : w.heap.size ≤ b2_1 := hb11 ▸ (Below.size hB)
 clear hb11
 replace hB := below_ext hB hE12 (Nat.le_refl _)
 replace hD := Dia.ext hE12 hD
 replace hz := hE12.at hz
 clear hE12
 have ho2_1 := own_lit3 (enc := encI) (sz := 1) hm2_1 rfl rfl rfl rfl lo_b2_1
 clear hm2_1
 have hw2_2 := hD.wf
 refine WL_callG (dd := some 21) rfl rfl rfl (r_call2 tb_c32 (v0 := .pointer (some ⟨bz, 0, none⟩)) rfl (v1 := .slice (some ⟨b2_1, 0, none⟩) 3 3) rfl) (C___zdd_Zdd__Of _ _ _ _ _ _ _ [3, 5, 8] _ (Below.size hB) hz hD ho2_1.sl (by decide)) (fun v2_2 W13 hP2_2 => ?_)
 obtain ⟨ns2_2, id2_2, er2_2, rfl, hx2_2, hDn2_2, hg2_2⟩ := hP2_2
 replace hB := Below.dx hB (Nat.le_refl _) (Nat.le_refl _) hx2_2
 replace hz := At.dx hD hx2_2 hz (by decide) (by decide)
 replace ho2_1 := OwT.dx hD hx2_2 ho2_1 (by decide) (by decide)
 replace hD := hDn2_2
 refine WL_val (dd := some 18) rfl rfl rfl (r_move (v := .tuple #[.int .i64 (id2_2 : Int), .int .i64 er2_2]) rfl) ?_
 refine WL_val (dd := some 22) rfl rfl rfl (r_ext2_0 (h := rfl)) ?_
 refine WL_val (dd := some 23) rfl rfl rfl (r_ext2_1 (h := rfl)) ?_
 refine WL_val (dd := some 3) rfl rfl rfl (r_assign (v := .int .i64 _) rfl) ?_
 refine WL_val (dd := some 4) rfl rfl rfl (r_assign (v := .int .i64 _) rfl) ?_
 refine WL_nil ?_
 refine hK9 _ _ ?_
 clear hK9 K8
 refine WC_seq (fun K15 hK16 => ?_)
 obtain ⟨he2_2, hIa, hp2_2, hl2_2⟩ := room_O (pe_ok hg2_2 (by decide)) (by decide) 3 (by decide) (by decide)
 subst he2_2
 have hn2 : ns2_2.length ≤ 72 := hl2_2
 refine WC_region ?_
 refine WL_val (dd := some 25) rfl rfl rfl (r_move (v := .pointer (some ⟨bz, 0, none⟩)) rfl) ?_
 refine WL_step (dd := some 26) rfl rfl rfl (Y_lit2 (u0 := .int .i64 2) (u1 := .int .i64 4) rfl rfl tb_el22 tb_zs3 rfl rfl (by decide) (by decide) (fun b3_1 W17 hb18 hE19 hm3_1 => ?_))
 have lo_b3_1 : w.heap.size ≤ b3_1 := hb18 ▸ (Below.size hB)
 have olt_ho2_1 := OwT.lt2 ho2_1
 have hap20 : Apart (.slice (some ⟨b2_1, 0, none⟩) 3 3) (.slice (some ⟨b3_1, 0, none⟩) 2 2) := fun j h1 h2 => by cases h2; exact absurd (olt_ho2_1 _ h1) (by rw [hb18]; exact Nat.lt_irrefl _)
 clear hb18
 replace hB := below_ext hB hE19 (Nat.le_refl _)
 replace hD := Dia.ext hE19 hD
 replace hz := hE19.at hz
 replace ho2_1 := hE19.ow ho2_1
 clear hE19
 have ho3_1 := own_lit2 (enc := encI) (sz := 1) (a0 := 2) (a1 := 4) hm3_1 rfl rfl rfl rfl lo_b3_1
 clear hm3_1
 have hw3_2 := hD.wf
 refine WL_callG (dd := some 27) rfl rfl rfl (r_call2 tb_c32 (v0 := .pointer (some ⟨bz, 0, none⟩)) rfl (v1 := .slice (some ⟨b3_1, 0, none⟩) 2 2) rfl) (C___zdd_Zdd__Of _ _ _ _ _ _ _ [2, 4] _ (Below.size hB) hz hD ho3_1.sl (by decide)) (fun v3_2 W21 hP3_2 => ?_)
 obtain ⟨ns3_2, id3_2, er3_2, rfl, hx3_2, hDn3_2, hg3_2⟩ := hP3_2
 replace hB := Below.dx hB (Nat.le_refl _) (Nat.le_refl _) hx3_2
 replace hz := At.dx hD hx3_2 hz (by decide) (by decide)
 replace ho2_1 := OwT.dx hD hx3_2 ho2_1 (by decide) (by decide)
 replace ho3_1 := OwT.dx hD hx3_2 ho3_1 (by decide) (by decide)
 replace hD := hDn3_2
 refine WL_val (dd := some 24) rfl rfl rfl (r_move (v := .tuple #[.int .i64 (id3_2 : Int), .int .i64 er3_2]) rfl) ?_
 refine WL_val (dd := some 28) rfl rfl rfl (r_ext2_0 (h := rfl)) ?_
 refine WL_val (dd := some 29) rfl rfl rfl (r_ext2_1 (h := rfl)) ?_
 refine WL_val (dd := some 5) rfl rfl rfl (r_assign (v := .int .i64 _) rfl) ?_
 refine WL_val (dd := some 6) rfl rfl rfl (r_assign (v := .int .i64 _) rfl) ?_
 refine WL_nil ?_
 refine hK16 _ _ ?_
 clear hK16 K15
 refine WC_seq (fun K23 hK24 => ?_)
 obtain ⟨he3_2, hIb, hp3_2, hl3_2⟩ := room_O (pe_ok hg3_2 (by decide)) (by decide) 2 (by decide) (by omega)
 subst he3_2
 replace hIa := hIa.pre hp3_2
 have hw4 := hD.wf
 refine WC_region ?_
 refine WL_val (dd := some 31) rfl rfl rfl (r_move (v := .pointer (some ⟨bz, 0, none⟩)) rfl) ?_
 refine WL_val (dd := some 32) rfl rfl rfl (r_move (v := .int .i64 _) rfl) ?_
 refine WL_val (dd := some 33) rfl rfl rfl (r_move (v := .int .i64 _) rfl) ?_
 refine WL_callG (dd := some 34) rfl rfl rfl (r_call3 tb_c45 (v0 := .pointer (some ⟨bz, 0, none⟩)) rfl (v1 := .int .i64 _) rfl (v2 := .int .i64 _) rfl) (C_DivideX _ _ _ _ _ _ _ _ _ (Below.size hB) hz hD hIa.v hIb.v (by rw [hIb.len hw4]; decide)) (fun v4_3 W25 hP4_3 => ?_)
 obtain ⟨ns4_3, q4_3, r4_3, er4_3, rfl, hx4_3, hDn4_3, hg4_3⟩ := hP4_3
 replace hB := Below.dx hB (Nat.le_refl _) (Nat.le_refl _) hx4_3
 replace hz := At.dx hD hx4_3 hz (by decide) (by decide)
 replace ho2_1 := OwT.dx hD hx4_3 ho2_1 (by decide) (by decide)
 replace ho3_1 := OwT.dx hD hx4_3 ho3_1 (by decide) (by decide)
 replace hD := hDn4_3
 refine WL_val (dd := some 30) rfl rfl rfl (r_move (v := .tuple #[.int .i64 (q4_3 : Int), .int .i64 (r4_3 : Int), .int .i64 er4_3]) rfl) ?_
 refine WL_val (dd := some 35) rfl rfl rfl (r_ext3_0 (h := rfl)) ?_
 refine WL_val (dd := some 36) rfl rfl rfl (r_ext3_1 (h := rfl)) ?_
 refine WL_val (dd := some 37) rfl rfl rfl (r_ext3_2 (h := rfl)) ?_
 refine WL_val (dd := some 7) rfl rfl rfl (r_assign (v := .int .i64 _) rfl) ?_
 refine WL_val (dd := some 8) rfl rfl rfl (r_assign (v := .int .i64 _) rfl) ?_
 refine WL_val (dd := some 9) rfl rfl rfl (r_assign (v := .int .i64 _) rfl) ?_
 refine WL_nil ?_
 refine hK24 _ _ ?_
 clear hK24 K23
 refine WC_seq (fun K27 hK28 => ?_)
 have hb0 : ¬ id3_2 = 0 := fun e => by
   subst e
   exact absurd (is_0 hIb) (by decide +kernel)
 have hdv := dvx_ok hg4_3 hb0
 have hB0 := is_ne hIb hb0 hw4
 obtain ⟨he4, hl4⟩ := dv_rm hdv (few_s1 (f := [3, 5, 8]) (g := [2, 4]) (by decide) hw4 hIa) (few_s2 (f := [3, 5, 8]) (g := [2, 4]) (by decide) hw4 hIb) (by omega)
 subst he4
 have hIq := (dv_outq hdv hw4 hIa hIb hB0).is rfl
 have hIr := (dv_outr hdv hw4 hIa hIb hB0).is rfl
 have hw5 := hD.wf
 have hro5 := hD.room
 have hto5 := hD.top
 have hvq := hIq.v
 have hvr := hIr.v
 refine WC_region ?_
 refine WL_val (dd := some 39) rfl rfl rfl (r_move (v := .pointer (some ⟨bz, 0, none⟩)) rfl) ?_
 refine WL_val (dd := some 40) rfl rfl rfl (r_move (v := .int .i64 _) rfl) ?_
 refine WL_call (dd := some 41) rfl rfl rfl (r_call2 tb_c37 (v0 := .pointer (some ⟨bz, 0, none⟩)) rfl (v1 := .int .i64 _) rfl) (C___zdd_Zdd__List _ _ _ _ _ _ _ _ hz hD (by omega)) (fun v5_2 W29 hE30 hP5_2 => ?_)
 have hlt31 := OwT.lt2 ho2_1
 have hlt32 := OwT.lt2 ho3_1
 have hsz33 := (Below.size hB)
 replace hB := below_ext hB hE30 (Nat.le_refl _)
 replace hD := Dia.ext hE30 hD
 replace hz := hE30.at hz
 replace ho2_1 := hE30.ow ho2_1
 replace ho3_1 := hE30.ow ho3_1
 clear hE30
 obtain ⟨x5_2, rfl, hsl5_2, hty5_2⟩ := list_is hIq hw5 (by decide +kernel) hP5_2
 clear hsz33
 refine WL_val (dd := some 38) rfl rfl rfl (r_move (v := .tuple #[x5_2, .int .i64 0]) rfl) ?_
 refine WL_val (dd := some 42) rfl rfl rfl (r_ext2_0 (h := rfl)) ?_
 refine WL_val (dd := some 43) rfl rfl rfl (r_ext2_1 (h := rfl)) ?_
 refine WL_val (dd := some 10) rfl rfl rfl (r_assign (v := x5_2) rfl) ?_
 refine WL_val (dd := some 11) rfl rfl rfl (r_assign (v := .int .i64 0) rfl) ?_
 refine WL_nil ?_
 refine hK28 _ _ ?_
 clear hK28 K27
 refine WC_seq (fun K34 hK35 => ?_)
 refine WC_region ?_
 refine WL_val (dd := some 45) rfl rfl rfl (r_move (v := .pointer (some ⟨bz, 0, none⟩)) rfl) ?_
 refine WL_val (dd := some 46) rfl rfl rfl (r_move (v := .int .i64 _) rfl) ?_
 refine WL_call (dd := some 47) rfl rfl rfl (r_call2 tb_c37 (v0 := .pointer (some ⟨bz, 0, none⟩)) rfl (v1 := .int .i64 _) rfl) (C___zdd_Zdd__List _ _ _ _ _ _ _ _ hz hD (by omega)) (fun v6_2 W36 hE37 hP6_2 => ?_)
 have hlt38 := OwT.lt2 ho2_1
 have hlt39 := OwT.lt2 ho3_1
 have hsz40 := (Below.size hB)
 replace hB := below_ext hB hE37 (Nat.le_refl _)
 replace hD := Dia.ext hE37 hD
 replace hz := hE37.at hz
 replace ho2_1 := hE37.ow ho2_1
 replace ho3_1 := hE37.ow ho3_1
 replace hsl5_2 := hE37.slT hsl5_2
 replace hty5_2 := TyS.ext hE37 hty5_2
 clear hE37
 obtain ⟨x6_2, rfl, hsl6_2, hty6_2⟩ := list_is hIr hw5 (by decide +kernel) hP6_2
 clear hsz40
 refine WL_val (dd := some 44) rfl rfl rfl (r_move (v := .tuple #[x6_2, .int .i64 0]) rfl) ?_
 refine WL_val (dd := some 48) rfl rfl rfl (r_ext2_0 (h := rfl)) ?_
 refine WL_val (dd := some 49) rfl rfl rfl (r_ext2_1 (h := rfl)) ?_
 refine WL_val (dd := some 12) rfl rfl rfl (r_assign (v := x6_2) rfl) ?_
 refine WL_val (dd := some 13) rfl rfl rfl (r_assign (v := .int .i64 0) rfl) ?_
 refine WL_nil ?_
 refine hK35 _ _ ?_
 clear hK35 K34
 refine WC_seq (fun K41 hK42 => ?_)
 refine WC_region ?_
 refine WL_val (dd := some 50) rfl rfl rfl (r_move (v := .int .i64 0) rfl) ?_
 refine WL_val (dd := some 51) rfl rfl rfl (r_eql rfl rfl) ?_
 refine WL_split (dd := some 52) rfl rfl rfl (r_move (v := .bool _) rfl) (fun hs7_2 => ?_) (fun hs7_2 => ?_)
 ·
  try with_reducible replace hs7_2 := of_decide_eq_true hs7_2
  refine WL_val (dd := some 53) rfl rfl rfl (r_move (v := .int .i64 _) rfl) ?_
  refine WL_val (dd := some 54) rfl rfl rfl (r_eql rfl rfl) ?_
  refine WL_val (dd := some 55) rfl rfl rfl (r_pick_t rfl (v := .bool _) rfl) ?_
  refine WL_split (dd := some 56) rfl rfl rfl (r_move (v := .bool _) rfl) (fun hs7_6 => ?_) (fun hs7_6 => ?_)
  ·
   try with_reducible replace hs7_6 := of_decide_eq_true hs7_6
   refine WL_val (dd := some 57) rfl rfl rfl (r_move (v := .int .i64 0) rfl) ?_
   refine WL_val (dd := some 58) rfl rfl rfl (r_eql rfl rfl) ?_
   refine WL_val (dd := some 59) rfl rfl rfl (r_pick_t rfl (v := .bool _) rfl) ?_
   refine WL_split (dd := some 60) rfl rfl rfl (r_move (v := .bool _) rfl) (fun hs7_10 => ?_) (fun hs7_10 => ?_)
   ·
    try with_reducible replace hs7_10 := of_decide_eq_true hs7_10
    refine WL_val (dd := some 61) rfl rfl rfl (r_move (v := .int .i64 0) rfl) ?_
    refine WL_val (dd := some 62) rfl rfl rfl (r_eql rfl rfl) ?_
    refine WL_val (dd := some 63) rfl rfl rfl (r_pick_t rfl (v := .bool _) rfl) ?_
    refine WL_split (dd := some 64) rfl rfl rfl (r_move (v := .bool _) rfl) (fun hs7_14 => ?_) (fun hs7_14 => ?_)
    ·
     try with_reducible replace hs7_14 := of_decide_eq_true hs7_14
     refine WL_val (dd := some 65) rfl rfl rfl (r_move (v := x5_2) rfl) ?_
     refine WL_step (dd := some 66) rfl rfl rfl (Y_lit1 (u := .int .i64 1) rfl tb_el22 tb_zs3 rfl (by decide) (by decide) (fun b7_16 W43 hb44 hE45 hm7_16 => ?_))
     have lo_b7_16 : w.heap.size ≤ b7_16 := hb44 ▸ (Below.size hB)
     have no46 := OwT.neB (b := b7_16) ho2_1 (Nat.le_of_eq hb44.symm)
     have no47 := OwT.neB (b := b7_16) ho3_1 (Nat.le_of_eq hb44.symm)
     have far48 := SlT.far (b := b7_16) hsl5_2 (Nat.le_of_eq hb44.symm)
     have far49 := SlT.far (b := b7_16) hsl6_2 (Nat.le_of_eq hb44.symm)
     clear hb44
     replace hB := below_ext hB hE45 (Nat.le_refl _)
     replace hD := Dia.ext hE45 hD
     replace hz := hE45.at hz
     replace ho2_1 := hE45.ow ho2_1
     replace ho3_1 := hE45.ow ho3_1
     replace hsl5_2 := hE45.slT hsl5_2
     replace hty5_2 := TyS.ext hE45 hty5_2
     replace hsl6_2 := hE45.slT hsl6_2
     replace hty6_2 := TyS.ext hE45 hty6_2
     clear hE45
     have ho50 := own_lit1 (enc := encI) (a := 1) hm7_16 rfl rfl lo_b7_16
     clear hm7_16
     refine WL_call (dd := some 67) rfl rfl rfl (r_call2 tb_c24 (v0 := x5_2) rfl (v1 := .slice (some ⟨b7_16, 0, none⟩) 1 1) rfl) (C_drawkniferef08_Same _ _ _ [1] _ hsl5_2 ho50.sl (by decide +kernel) (by decide)) (fun v7_17 W51 hE52 hP7_17 => ?_)
     have hsz53 := (Below.size hB)
     replace hB := below_ext hB hE52 (Nat.le_refl _)
     replace hD := Dia.ext hE52 hD
     replace hz := hE52.at hz
     replace ho2_1 := hE52.ow ho2_1
     replace ho3_1 := hE52.ow ho3_1
     replace hsl5_2 := hE52.slT hsl5_2
     replace hty5_2 := TyS.ext hE52 hty5_2
     replace hsl6_2 := hE52.slT hsl6_2
     replace hty6_2 := TyS.ext hE52 hty6_2
     replace ho50 := hE52.ow ho50
     clear hE52
     clear hsz53
     obtain rfl := hP7_17
     refine WL_val (dd := some 68) rfl rfl rfl (r_pick_t rfl (v := .bool _) rfl) ?_
     refine WL_split (dd := some 69) rfl rfl rfl (r_move (v := .bool _) rfl) (fun hs7_19 => ?_) (fun hs7_19 => ?_)
     ·
      try with_reducible replace hs7_19 := of_decide_eq_true hs7_19
      refine WL_val (dd := some 70) rfl rfl rfl (r_move (v := x6_2) rfl) ?_
      refine WL_step (dd := some 71) rfl rfl rfl (Y_lit1 (u := .int .i64 8) rfl tb_el22 tb_zs3 rfl (by decide) (by decide) (fun b7_21 W54 hb55 hE56 hm7_21 => ?_))
      have lo_b7_21 : w.heap.size ≤ b7_21 := hb55 ▸ (Below.size hB)
      have no57 := OwT.neB (b := b7_21) ho2_1 (Nat.le_of_eq hb55.symm)
      have no58 := OwT.neB (b := b7_21) ho3_1 (Nat.le_of_eq hb55.symm)
      have far59 := SlT.far (b := b7_21) hsl5_2 (Nat.le_of_eq hb55.symm)
      have far60 := SlT.far (b := b7_21) hsl6_2 (Nat.le_of_eq hb55.symm)
      have no61 := OwT.neB (b := b7_21) ho50 (Nat.le_of_eq hb55.symm)
      clear hb55
      replace hB := below_ext hB hE56 (Nat.le_refl _)
      replace hD := Dia.ext hE56 hD
      replace hz := hE56.at hz
      replace ho2_1 := hE56.ow ho2_1
      replace ho3_1 := hE56.ow ho3_1
      replace hsl5_2 := hE56.slT hsl5_2
      replace hty5_2 := TyS.ext hE56 hty5_2
      replace hsl6_2 := hE56.slT hsl6_2
      replace hty6_2 := TyS.ext hE56 hty6_2
      replace ho50 := hE56.ow ho50
      clear hE56
      have ho62 := own_lit1 (enc := encI) (a := 8) hm7_21 rfl rfl lo_b7_21
      clear hm7_21
      refine WL_call (dd := some 72) rfl rfl rfl (r_call2 tb_c24 (v0 := x6_2) rfl (v1 := .slice (some ⟨b7_21, 0, none⟩) 1 1) rfl) (C_drawkniferef08_Same _ _ _ [8] _ hsl6_2 ho62.sl (by decide +kernel) (by decide)) (fun v7_22 W63 hE64 hP7_22 => ?_)
      have hsz65 := (Below.size hB)
      replace hB := below_ext hB hE64 (Nat.le_refl _)
      replace hD := Dia.ext hE64 hD
      replace hz := hE64.at hz
      replace ho2_1 := hE64.ow ho2_1
      replace ho3_1 := hE64.ow ho3_1
      replace hsl5_2 := hE64.slT hsl5_2
      replace hty5_2 := TyS.ext hE64 hty5_2
      replace hsl6_2 := hE64.slT hsl6_2
      replace hty6_2 := TyS.ext hE64 hty6_2
      replace ho50 := hE64.ow ho50
      replace ho62 := hE64.ow ho62
      clear hE64
      clear hsz65
      obtain rfl := hP7_22
      refine WL_val (dd := some 73) rfl rfl rfl (r_pick_t rfl (v := .bool _) rfl) ?_
      refine WL_val (dd := some 0) rfl rfl rfl (r_assign (v := .bool _) rfl) ?_
      refine WL_nil ?_
      refine hK42 _ _ ?_
      clear hK42 K41
      refine WC_ret ?_
      repeat (first | refine thenQ_ret ?_ | refine blockQ_ret ?_)
      refine ret_t (v := .bool _) rfl ?_
      refine ⟨hB, ?_⟩
      exact congrArg Value.bool (decide_eq_true (by decide +kernel))
     ·
      try with_reducible replace hs7_19 := of_decide_eq_false hs7_19
      exact absurd (by decide +kernel) hs7_19
    ·
     try with_reducible replace hs7_14 := of_decide_eq_false hs7_14
     exact absurd rfl hs7_14
   ·
    try with_reducible replace hs7_10 := of_decide_eq_false hs7_10
    exact absurd rfl hs7_10
  ·
   try with_reducible replace hs7_6 := of_decide_eq_false hs7_6
   exact absurd rfl hs7_6
 ·
  try with_reducible replace hs7_2 := of_decide_eq_false hs7_2
  exact absurd rfl hs7_2

set_option maxRecDepth 10000 in
theorem C_drawknifelaw20_FamilyHolds (xf : Value) (f : List Int) (xg : Value) (g : List Int) (w : World) (hf : SlT encI 1 w xf f) (hg : SlT encI 1 w xg g) :
    Fn Try.prog 13 #[xf, xg] w fun v w' => v = .bool true := by
 refine Fn_intro (n := 94) Try.func13 rfl rfl (Nat.le_of_ble_eq_true rfl) ?_
 have hB : Below w.heap.size w w := Below.refl _ _
 refine WC_seq (fun K1 hK2 => ?_)
 refine WC_region ?_
 refine WL_val (dd := some 4) rfl rfl rfl (r_assign (v := .bool false) rfl) ?_
 refine WL_nil ?_
 refine hK2 _ _ ?_
 clear hK2 K1
 refine WC_seq (fun K3 hK4 => ?_)
 refine WC_region ?_
 refine WL_val (dd := some 19) rfl rfl rfl (r_move (v := xf) rfl) ?_
 refine WL_val (dd := some 20) rfl rfl rfl (r_move (v := xg) rfl) ?_
 refine WL_call (dd := some 21) rfl rfl rfl (r_call2 tb_c43 (v0 := xf) rfl (v1 := xg) rfl) (C_drawknifelaw20_start _ _ _ _ _ (Below.slT hB hf) (Below.slT hB hg)) (fun v1_2 W5 hE6 hP1_2 => ?_)
 have hsz7 := (Below.size hB)
 replace hB := below_ext hB hE6 (Nat.le_refl _)
 clear hE6
 have hszS := hsz7
 rcases hP1_2 with hP1_2 | hP1_2
 clear hsz7
 ·
  obtain ⟨hok, bz, ba, bm, a, b, ns1_2, rfl, hz, hD, hIa, hIb, hnl⟩ := hP1_2
  replace hD := Dia.mono hD hszS
  have hfl := hok.lf
  have hgl := hok.lg
  have hof := hok.f
  have hog := hok.g
  have hif := ofB_mem hof
  have hig := ofB_mem hog
  have hxl := ofI_len f
  have hyl := ofI_len g
  have hfn := fun k => few_len (f := f) (g := g) k hof hog
  refine WL_val (dd := some 18) rfl rfl rfl (r_move (v := .tuple #[.pointer (some ⟨bz, 0, none⟩), .int .i64 (a : Int), .int .i64 (b : Int), .bool true]) rfl) ?_
  refine WL_val (dd := some 22) rfl rfl rfl (r_ext4_0 (h := rfl)) ?_
  refine WL_val (dd := some 23) rfl rfl rfl (r_ext4_1 (h := rfl)) ?_
  refine WL_val (dd := some 24) rfl rfl rfl (r_ext4_2 (h := rfl)) ?_
  refine WL_val (dd := some 25) rfl rfl rfl (r_ext4_3 (h := rfl)) ?_
  refine WL_val (dd := some 5) rfl rfl rfl (r_assign (v := .pointer (some ⟨bz, 0, none⟩)) rfl) ?_
  refine WL_val (dd := some 6) rfl rfl rfl (r_assign (v := .int .i64 _) rfl) ?_
  refine WL_val (dd := some 7) rfl rfl rfl (r_assign (v := .int .i64 _) rfl) ?_
  refine WL_val (dd := some 8) rfl rfl rfl (r_assign (v := .bool true) rfl) ?_
  refine WL_nil ?_
  refine hK4 _ _ ?_
  clear hK4 K3
  refine WC_seq (fun K8 hK9 => ?_)
  refine WC_seq (fun K10 hK11 => ?_)
  refine WC_region ?_
  refine WL_val (dd := some 26) rfl rfl rfl (r_move (v := .bool true) rfl) ?_
  refine WL_val (dd := some 27) rfl rfl rfl (r_not rfl) ?_
  refine WL_val (dd := some 28) rfl rfl rfl (r_move (v := .bool false) rfl) ?_
  refine WL_val (dd := some 29) rfl rfl rfl (r_move (v := .pointer (some ⟨bz, 0, none⟩)) rfl) ?_
  refine WL_val (dd := some 30) rfl rfl rfl (r_ptrNil rfl rfl Try.underlying24) ?_
  refine WL_val (dd := some 31) rfl rfl rfl (r_pick_f rfl (v := .bool false) rfl) ?_
  refine WL_nil ?_
  refine hK11 _ _ ?_
  clear hK11 K10
  refine WC_cond_false rfl ?_
  refine WC_skip ?_
  refine hK9 _ _ ?_
  clear hK9 K8
  refine WC_seq (fun K12 hK13 => ?_)
  refine WC_region ?_
  refine WL_val (dd := some 37) rfl rfl rfl (r_move (v := xf) rfl) ?_
  refine WL_call (dd := some 38) rfl rfl rfl (r_call1 tb_c27 (v0 := xf) rfl) (C_drawkniferef08_Of _ _ _ (Below.slT hB hf) (by first | assumption | omega)) (fun v4_1 W14 hE15 hP4_1 => ?_)
  have hsz16 := (Below.size hB)
  replace hB := below_ext hB hE15 (Nat.le_refl _)
  replace hD := Dia.ext hE15 hD
  replace hz := hE15.at hz
  clear hE15
  replace hP4_1 := OwT.mono hP4_1 hsz16
  clear hsz16
  refine WL_val (dd := some 39) rfl rfl rfl (r_move (v := xg) rfl) ?_
  refine WL_call (dd := some 40) rfl rfl rfl (r_call1 tb_c27 (v0 := xg) rfl) (C_drawkniferef08_Of _ _ _ (Below.slT hB hg) (by first | assumption | omega)) (fun v4_3 W17 hE18 hP4_3 => ?_)
  have hlt19 := OwT.lt2 hP4_1
  have hsz20 := (Below.size hB)
  replace hB := below_ext hB hE18 (Nat.le_refl _)
  replace hD := Dia.ext hE18 hD
  replace hz := hE18.at hz
  replace hP4_1 := hE18.ow hP4_1
  clear hE18
  have hap21 := Apart.new hlt19 hP4_3
  replace hP4_3 := OwT.mono hP4_3 hsz20
  clear hsz20
  refine WL_val (dd := some 9) rfl rfl rfl (r_assign (v := v4_1) rfl) ?_
  refine WL_val (dd := some 10) rfl rfl rfl (r_assign (v := v4_3) rfl) ?_
  refine WL_nil ?_
  refine hK13 _ _ ?_
  clear hK13 K12
  refine WC_seq (fun K22 hK23 => ?_)
  refine WC_region ?_
  refine WL_val (dd := some 42) rfl rfl rfl (r_move (v := .pointer (some ⟨bz, 0, none⟩)) rfl) ?_
  refine WL_val (dd := some 43) rfl rfl rfl (r_move (v := .int .i64 _) rfl) ?_
  refine WL_val (dd := some 44) rfl rfl rfl (r_move (v := .int .i64 _) rfl) ?_
  have hw5_3 := hD.wf
  refine WL_callG (dd := some 45) rfl rfl rfl (r_call3 tb_c55 (v0 := .pointer (some ⟨bz, 0, none⟩)) rfl (v1 := .int .i64 _) rfl (v2 := .int .i64 _) rfl) (C_family_Above _ _ _ _ _ _ a b _ (Below.size hB) hz hD hIa.v hIb.v) (fun v5_3 W24 hP5_3 => ?_)
  obtain ⟨ns5_3, id5_3, er5_3, rfl, hx5_3, hDn5_3, hg5_3⟩ := hP5_3
  replace hB := Below.dx hB (Nat.le_refl _) (Nat.le_refl _) hx5_3
  replace hz := At.dx hD hx5_3 hz (by decide) (by decide)
  replace hP4_1 := OwT.dx hD hx5_3 hP4_1 (by decide) (by decide)
  replace hP4_3 := OwT.dx hD hx5_3 hP4_3 (by decide) (by decide)
  replace hD := hDn5_3
  refine WL_val (dd := some 41) rfl rfl rfl (r_move (v := .tuple #[.int .i64 (id5_3 : Int), .int .i64 er5_3]) rfl) ?_
  refine WL_val (dd := some 46) rfl rfl rfl (r_ext2_0 (h := rfl)) ?_
  refine WL_val (dd := some 47) rfl rfl rfl (r_ext2_1 (h := rfl)) ?_
  refine WL_val (dd := some 11) rfl rfl rfl (r_assign (v := .int .i64 _) rfl) ?_
  refine WL_val (dd := some 12) rfl rfl rfl (r_assign (v := .int .i64 _) rfl) ?_
  refine WL_nil ?_
  refine hK23 _ _ ?_
  clear hK23 K22
  refine WC_seq (fun K26 hK27 => ?_)
  have ho1 := ab_out hg5_3 hw5_3 hIa hIb
  have hr1 : fewB f g = true → er5_3 = 0 ∧ ns5_3.length ≤ 2220 := fun k => by
    have h1 := hfn k
    have q := ab_rm hg5_3 hw5_3 hIa.v (few_s1 k hw5_3 hIa) (few_s2 k hw5_3 hIb) (by omega)
    exact ⟨q.1, by omega⟩
  replace hIa := hIa.pre ho1.pre
  replace hIb := hIb.pre ho1.pre
  refine WC_region ?_
  refine WL_val (dd := some 49) rfl rfl rfl (r_move (v := .pointer (some ⟨bz, 0, none⟩)) rfl) ?_
  refine WL_val (dd := some 50) rfl rfl rfl (r_move (v := .int .i64 _) rfl) ?_
  refine WL_val (dd := some 51) rfl rfl rfl (r_move (v := .int .i64 _) rfl) ?_
  have hw6_3 := hD.wf
  refine WL_callG (dd := some 52) rfl rfl rfl (r_call3 tb_c56 (v0 := .pointer (some ⟨bz, 0, none⟩)) rfl (v1 := .int .i64 _) rfl (v2 := .int .i64 _) rfl) (C_family_Below _ _ _ _ _ _ a b _ (Below.size hB) hz hD hIa.v hIb.v) (fun v6_3 W28 hP6_3 => ?_)
  obtain ⟨ns6_3, id6_3, er6_3, rfl, hx6_3, hDn6_3, hg6_3⟩ := hP6_3
  replace hB := Below.dx hB (Nat.le_refl _) (Nat.le_refl _) hx6_3
  replace hz := At.dx hD hx6_3 hz (by decide) (by decide)
  replace hP4_1 := OwT.dx hD hx6_3 hP4_1 (by decide) (by decide)
  replace hP4_3 := OwT.dx hD hx6_3 hP4_3 (by decide) (by decide)
  replace hD := hDn6_3
  refine WL_val (dd := some 48) rfl rfl rfl (r_move (v := .tuple #[.int .i64 (id6_3 : Int), .int .i64 er6_3]) rfl) ?_
  refine WL_val (dd := some 53) rfl rfl rfl (r_ext2_0 (h := rfl)) ?_
  refine WL_val (dd := some 54) rfl rfl rfl (r_ext2_1 (h := rfl)) ?_
  refine WL_val (dd := some 13) rfl rfl rfl (r_assign (v := .int .i64 _) rfl) ?_
  refine WL_val (dd := some 14) rfl rfl rfl (r_assign (v := .int .i64 _) rfl) ?_
  refine WL_nil ?_
  refine hK27 _ _ ?_
  clear hK27 K26
  refine WC_seq (fun K30 hK31 => ?_)
  have ho2 := ab_out hg6_3 hw6_3 hIa hIb
  have hr2 : fewB f g = true → er6_3 = 0 ∧ ns6_3.length ≤ 4280 := fun k => by
    have h1 := hr1 k
    have q := ab_rm hg6_3 hw6_3 hIa.v (few_s1 k hw6_3 hIa) (few_s2 k hw6_3 hIb) (by omega)
    exact ⟨q.1, by omega⟩
  replace hIa := hIa.pre ho2.pre
  replace hIb := hIb.pre ho2.pre
  refine WC_region ?_
  refine WL_val (dd := some 56) rfl rfl rfl (r_move (v := .pointer (some ⟨bz, 0, none⟩)) rfl) ?_
  refine WL_val (dd := some 57) rfl rfl rfl (r_move (v := .int .i64 _) rfl) ?_
  have hw7_2 := hD.wf
  refine WL_callG (dd := some 58) rfl rfl rfl (r_call2 tb_c57 (v0 := .pointer (some ⟨bz, 0, none⟩)) rfl (v1 := .int .i64 _) rfl) (C_family_Most _ _ _ _ _ _ a _ (Below.size hB) hz hD hIa.v) (fun v7_2 W32 hP7_2 => ?_)
  obtain ⟨ns7_2, id7_2, er7_2, rfl, hx7_2, hDn7_2, hg7_2⟩ := hP7_2
  replace hB := Below.dx hB (Nat.le_refl _) (Nat.le_refl _) hx7_2
  replace hz := At.dx hD hx7_2 hz (by decide) (by decide)
  replace hP4_1 := OwT.dx hD hx7_2 hP4_1 (by decide) (by decide)
  replace hP4_3 := OwT.dx hD hx7_2 hP4_3 (by decide) (by decide)
  replace hD := hDn7_2
  refine WL_val (dd := some 55) rfl rfl rfl (r_move (v := .tuple #[.int .i64 (id7_2 : Int), .int .i64 er7_2]) rfl) ?_
  refine WL_val (dd := some 59) rfl rfl rfl (r_ext2_0 (h := rfl)) ?_
  refine WL_val (dd := some 60) rfl rfl rfl (r_ext2_1 (h := rfl)) ?_
  refine WL_val (dd := some 15) rfl rfl rfl (r_assign (v := .int .i64 _) rfl) ?_
  refine WL_val (dd := some 16) rfl rfl rfl (r_assign (v := .int .i64 _) rfl) ?_
  refine WL_nil ?_
  refine hK31 _ _ ?_
  clear hK31 K30
  refine WC_seq (fun K34 hK35 => ?_)
  have ho3 := mo_out hg7_2 hw7_2 hIa
  have hr3 : fewB f g = true → er7_2 = 0 := fun k => by
    have h1 := hr2 k
    exact (mo_rm hg7_2 hw7_2 hIa.v (few_s1 k hw7_2 hIa) (by omega)).1
  have hl1 := aboveI_len (F := ofI f) (G := ofI g) (ab := true)
  have hl2 := aboveI_len (F := ofI f) (G := ofI g) (ab := false)
  have hl3 := mostTo_len (ofI f) (ofI f).length
  refine WC_region ?_
  refine WL_val (dd := some 61) rfl rfl rfl (r_move (v := xf) rfl) ?_
  refine WL_val (dd := some 62) rfl rfl rfl (r_move (v := xg) rfl) ?_
  refine WL_call (dd := some 63) rfl rfl rfl (r_call2 tb_c48 (v0 := xf) rfl (v1 := xg) rfl) (C_drawknifelaw20_few _ _ _ _ _ (Below.slT hB hf) (Below.slT hB hg)) (fun v8_2 W36 hE37 hP8_2 => ?_)
  have hsz38 := (Below.size hB)
  replace hB := below_ext hB hE37 (Nat.le_refl _)
  replace hD := Dia.ext hE37 hD
  replace hz := hE37.at hz
  replace hP4_1 := hE37.ow hP4_1
  replace hP4_3 := hE37.ow hP4_3
  clear hE37
  clear hsz38
  obtain rfl := hP8_2
  refine WL_val (dd := some 17) rfl rfl rfl (r_assign (v := .bool _) rfl) ?_
  refine WL_nil ?_
  refine hK35 _ _ ?_
  clear hK35 K34
  refine WC_seq (fun K39 hK40 => ?_)
  refine WC_region ?_
  refine WL_val (dd := some 64) rfl rfl rfl (r_move (v := .pointer (some ⟨bz, 0, none⟩)) rfl) ?_
  refine WL_val (dd := some 65) rfl rfl rfl (r_move (v := .int .i64 _) rfl) ?_
  refine WL_val (dd := some 66) rfl rfl rfl (r_move (v := .int .i64 _) rfl) ?_
  refine WL_val (dd := some 67) rfl rfl rfl (r_move (v := v4_1) rfl) ?_
  refine WL_val (dd := some 68) rfl rfl rfl (r_move (v := v4_3) rfl) ?_
  refine WL_call (dd := some 69) rfl rfl rfl (r_call3 tb_c58 (v0 := v4_1) rfl (v1 := v4_3) rfl (v2 := .bool true) rfl) (C_drawkniferef20_Above _ _ _ _ _ _ hP4_1.sl hP4_3.sl (by first | assumption | omega) (by first | assumption | omega) (by assumption) (by assumption)) (fun v9_5 W41 hE42 hP9_5 => ?_)
  have hlt43 := OwT.lt2 hP4_1
  have hlt44 := OwT.lt2 hP4_3
  have hsz45 := (Below.size hB)
  replace hB := below_ext hB hE42 (Nat.le_refl _)
  replace hD := Dia.ext hE42 hD
  replace hz := hE42.at hz
  replace hP4_1 := hE42.ow hP4_1
  replace hP4_3 := hE42.ow hP4_3
  clear hE42
  have hap46 := Apart.new hlt43 hP9_5
  have hap47 := Apart.new hlt44 hP9_5
  replace hP9_5 := OwT.mono hP9_5 hsz45
  clear hsz45
  refine WL_val (dd := some 70) rfl rfl rfl (r_move (v := .bool _) rfl) ?_
  refine WL_call (dd := some 71) rfl rfl rfl (r_call5 tb_c47 (v0 := .pointer (some ⟨bz, 0, none⟩)) rfl (v1 := .int .i64 _) rfl (v2 := .int .i64 _) rfl (v3 := v9_5) rfl (v4 := .bool _) rfl) (C_drawknifelaw20_is _ _ _ _ _ _ _ _ _ (aboveI (ofI f) (ofI g) true) _ _ hz hD hP9_5.sl (by omega) (is_of ho1 (ho2.pre.trans ho3.pre) fun k => (hr1 k).1)) (fun v9_7 W48 hE49 hP9_7 => ?_)
  have hsz50 := (Below.size hB)
  replace hB := below_ext hB hE49 (Nat.le_refl _)
  replace hD := Dia.ext hE49 hD
  replace hz := hE49.at hz
  replace hP4_1 := hE49.ow hP4_1
  replace hP4_3 := hE49.ow hP4_3
  replace hP9_5 := hE49.ow hP9_5
  clear hE49
  obtain rfl := hP9_7
  clear hsz50
  refine WL_val (dd := some 72) rfl rfl rfl (r_move (v := .bool true) rfl) ?_
  refine WL_val (dd := some 73) rfl rfl rfl (r_move (v := .pointer (some ⟨bz, 0, none⟩)) rfl) ?_
  refine WL_val (dd := some 74) rfl rfl rfl (r_move (v := .int .i64 _) rfl) ?_
  refine WL_val (dd := some 75) rfl rfl rfl (r_move (v := .int .i64 _) rfl) ?_
  refine WL_val (dd := some 76) rfl rfl rfl (r_move (v := v4_1) rfl) ?_
  refine WL_val (dd := some 77) rfl rfl rfl (r_move (v := v4_3) rfl) ?_
  refine WL_call (dd := some 78) rfl rfl rfl (r_call3 tb_c58 (v0 := v4_1) rfl (v1 := v4_3) rfl (v2 := .bool false) rfl) (C_drawkniferef20_Above _ _ _ _ _ _ hP4_1.sl hP4_3.sl (by first | assumption | omega) (by first | assumption | omega) (by assumption) (by assumption)) (fun v9_14 W51 hE52 hP9_14 => ?_)
  have hlt53 := OwT.lt2 hP4_1
  have hlt54 := OwT.lt2 hP4_3
  have hlt55 := OwT.lt2 hP9_5
  have hsz56 := (Below.size hB)
  replace hB := below_ext hB hE52 (Nat.le_refl _)
  replace hD := Dia.ext hE52 hD
  replace hz := hE52.at hz
  replace hP4_1 := hE52.ow hP4_1
  replace hP4_3 := hE52.ow hP4_3
  replace hP9_5 := hE52.ow hP9_5
  clear hE52
  have hap57 := Apart.new hlt53 hP9_14
  have hap58 := Apart.new hlt54 hP9_14
  have hap59 := Apart.new hlt55 hP9_14
  replace hP9_14 := OwT.mono hP9_14 hsz56
  clear hsz56
  refine WL_val (dd := some 79) rfl rfl rfl (r_move (v := .bool _) rfl) ?_
  refine WL_call (dd := some 80) rfl rfl rfl (r_call5 tb_c47 (v0 := .pointer (some ⟨bz, 0, none⟩)) rfl (v1 := .int .i64 _) rfl (v2 := .int .i64 _) rfl (v3 := v9_14) rfl (v4 := .bool _) rfl) (C_drawknifelaw20_is _ _ _ _ _ _ _ _ _ (aboveI (ofI f) (ofI g) false) _ _ hz hD hP9_14.sl (by omega) (is_of ho2 ho3.pre fun k => (hr2 k).1)) (fun v9_16 W60 hE61 hP9_16 => ?_)
  have hsz62 := (Below.size hB)
  replace hB := below_ext hB hE61 (Nat.le_refl _)
  replace hD := Dia.ext hE61 hD
  replace hz := hE61.at hz
  replace hP4_1 := hE61.ow hP4_1
  replace hP4_3 := hE61.ow hP4_3
  replace hP9_5 := hE61.ow hP9_5
  replace hP9_14 := hE61.ow hP9_14
  clear hE61
  obtain rfl := hP9_16
  clear hsz62
  refine WL_val (dd := some 81) rfl rfl rfl (r_pick_t rfl (v := .bool true) rfl) ?_
  refine WL_val (dd := some 82) rfl rfl rfl (r_move (v := .bool true) rfl) ?_
  refine WL_val (dd := some 83) rfl rfl rfl (r_move (v := .pointer (some ⟨bz, 0, none⟩)) rfl) ?_
  refine WL_val (dd := some 84) rfl rfl rfl (r_move (v := .int .i64 _) rfl) ?_
  refine WL_val (dd := some 85) rfl rfl rfl (r_move (v := .int .i64 _) rfl) ?_
  refine WL_val (dd := some 86) rfl rfl rfl (r_move (v := v4_1) rfl) ?_
  refine WL_call (dd := some 87) rfl rfl rfl (r_call1 tb_c59 (v0 := v4_1) rfl) (C_drawkniferef20_Most _ _ _ hP4_1.sl (by first | assumption | omega) (by assumption)) (fun v9_23 W63 hE64 hP9_23 => ?_)
  have hlt65 := OwT.lt2 hP4_1
  have hlt66 := OwT.lt2 hP4_3
  have hlt67 := OwT.lt2 hP9_5
  have hlt68 := OwT.lt2 hP9_14
  have hsz69 := (Below.size hB)
  replace hB := below_ext hB hE64 (Nat.le_refl _)
  replace hD := Dia.ext hE64 hD
  replace hz := hE64.at hz
  replace hP4_1 := hE64.ow hP4_1
  replace hP4_3 := hE64.ow hP4_3
  replace hP9_5 := hE64.ow hP9_5
  replace hP9_14 := hE64.ow hP9_14
  clear hE64
  have hap70 := Apart.new hlt65 hP9_23
  have hap71 := Apart.new hlt66 hP9_23
  have hap72 := Apart.new hlt67 hP9_23
  have hap73 := Apart.new hlt68 hP9_23
  replace hP9_23 := OwT.mono hP9_23 hsz69
  clear hsz69
  refine WL_val (dd := some 88) rfl rfl rfl (r_move (v := .bool _) rfl) ?_
  refine WL_call (dd := some 89) rfl rfl rfl (r_call5 tb_c47 (v0 := .pointer (some ⟨bz, 0, none⟩)) rfl (v1 := .int .i64 _) rfl (v2 := .int .i64 _) rfl (v3 := v9_23) rfl (v4 := .bool _) rfl) (C_drawknifelaw20_is _ _ _ _ _ _ _ _ _ (mostTo (ofI f) (ofI f).length) _ _ hz hD hP9_23.sl (by omega) (is_of ho3 (List.prefix_refl _) hr3)) (fun v9_25 W74 hE75 hP9_25 => ?_)
  have hsz76 := (Below.size hB)
  replace hB := below_ext hB hE75 (Nat.le_refl _)
  replace hD := Dia.ext hE75 hD
  replace hz := hE75.at hz
  replace hP4_1 := hE75.ow hP4_1
  replace hP4_3 := hE75.ow hP4_3
  replace hP9_5 := hE75.ow hP9_5
  replace hP9_14 := hE75.ow hP9_14
  replace hP9_23 := hE75.ow hP9_23
  clear hE75
  obtain rfl := hP9_25
  clear hsz76
  refine WL_val (dd := some 90) rfl rfl rfl (r_pick_t rfl (v := .bool true) rfl) ?_
  refine WL_val (dd := some 91) rfl rfl rfl (r_move (v := .bool true) rfl) ?_
  refine WL_call (dd := some 92) rfl rfl rfl (r_call0 tb_c44) (C_drawknifelaw20_knows _) (fun v9_28 W77 hE78 hP9_28 => ?_)
  have hsz79 := (Below.size hB)
  replace hB := below_ext hB hE78 (Nat.le_refl _)
  replace hD := Dia.ext hE78 hD
  replace hz := hE78.at hz
  replace hP4_1 := hE78.ow hP4_1
  replace hP4_3 := hE78.ow hP4_3
  replace hP9_5 := hE78.ow hP9_5
  replace hP9_14 := hE78.ow hP9_14
  replace hP9_23 := hE78.ow hP9_23
  clear hE78
  obtain rfl := hP9_28
  clear hsz79
  refine WL_val (dd := some 93) rfl rfl rfl (r_pick_t rfl (v := .bool true) rfl) ?_
  refine WL_val (dd := some 4) rfl rfl rfl (r_assign (v := .bool true) rfl) ?_
  refine WL_nil ?_
  refine hK40 _ _ ?_
  clear hK40 K39
  refine WC_ret ?_
  repeat (first | refine thenQ_ret ?_ | refine blockQ_ret ?_)
  refine ret_t (v := .bool true) rfl ?_
  refine ⟨hB, ?_⟩
  rfl
 ·
  obtain rfl := hP1_2
  refine WL_val (dd := some 18) rfl rfl rfl (r_move (v := .tuple #[.pointer none, .int .i64 0, .int .i64 0, .bool false]) rfl) ?_
  refine WL_val (dd := some 22) rfl rfl rfl (r_ext4_0 (h := rfl)) ?_
  refine WL_val (dd := some 23) rfl rfl rfl (r_ext4_1 (h := rfl)) ?_
  refine WL_val (dd := some 24) rfl rfl rfl (r_ext4_2 (h := rfl)) ?_
  refine WL_val (dd := some 25) rfl rfl rfl (r_ext4_3 (h := rfl)) ?_
  refine WL_val (dd := some 5) rfl rfl rfl (r_assign (v := .pointer none) rfl) ?_
  refine WL_val (dd := some 6) rfl rfl rfl (r_assign (v := .int .i64 0) rfl) ?_
  refine WL_val (dd := some 7) rfl rfl rfl (r_assign (v := .int .i64 0) rfl) ?_
  refine WL_val (dd := some 8) rfl rfl rfl (r_assign (v := .bool false) rfl) ?_
  refine WL_nil ?_
  refine hK4 _ _ ?_
  clear hK4 K3
  refine WC_seq (fun K80 hK81 => ?_)
  refine WC_seq (fun K82 hK83 => ?_)
  refine WC_region ?_
  refine WL_val (dd := some 26) rfl rfl rfl (r_move (v := .bool false) rfl) ?_
  refine WL_val (dd := some 27) rfl rfl rfl (r_not rfl) ?_
  refine WL_val (dd := some 28) rfl rfl rfl (r_move (v := .bool true) rfl) ?_
  refine WL_skip (dd := some 29) rfl rfl rfl ?_
  refine WL_skip (dd := some 30) rfl rfl rfl ?_
  refine WL_val (dd := some 31) rfl rfl rfl (r_pick_t rfl (v := .bool true) rfl) ?_
  refine WL_nil ?_
  refine hK83 _ _ ?_
  clear hK83 K82
  refine WC_cond_true rfl ?_
  refine WC_seq (fun K84 hK85 => ?_)
  refine WC_region ?_
  refine WL_val (dd := some 32) rfl rfl rfl (r_move (v := .bool false) rfl) ?_
  refine WL_val (dd := some 33) rfl rfl rfl (r_not rfl) ?_
  refine WL_val (dd := some 34) rfl rfl rfl (r_move (v := .bool true) rfl) ?_
  refine WL_call (dd := some 35) rfl rfl rfl (r_call0 tb_c44) (C_drawknifelaw20_knows _) (fun v3_3 W86 hE87 hP3_3 => ?_)
  have hsz88 := (Below.size hB)
  replace hB := below_ext hB hE87 (Nat.le_refl _)
  clear hE87
  obtain rfl := hP3_3
  clear hsz88
  refine WL_val (dd := some 36) rfl rfl rfl (r_pick_t rfl (v := .bool true) rfl) ?_
  refine WL_val (dd := some 4) rfl rfl rfl (r_assign (v := .bool true) rfl) ?_
  refine WL_nil ?_
  refine hK85 _ _ ?_
  clear hK85 K84
  refine WC_ret ?_
  repeat (first | refine thenQ_ret ?_ | refine blockQ_ret ?_)
  try clear hK81 K80
  refine ret_t (v := .bool true) rfl ?_
  refine ⟨hB, ?_⟩
  rfl

set_option maxRecDepth 10000 in
theorem C_drawknifelaw20_FamilyDivides (xf : Value) (f : List Int) (xg : Value) (g : List Int) (w : World) (hf : SlT encI 1 w xf f) (hg : SlT encI 1 w xg g) :
    Fn Try.prog 10 #[xf, xg] w fun v w' => v = .bool true := by
 refine Fn_intro (n := 114) Try.func10 rfl rfl (Nat.le_of_ble_eq_true rfl) ?_
 have hB : Below w.heap.size w w := Below.refl _ _
 refine WC_seq (fun K1 hK2 => ?_)
 refine WC_region ?_
 refine WL_val (dd := some 4) rfl rfl rfl (r_assign (v := .bool false) rfl) ?_
 refine WL_nil ?_
 refine hK2 _ _ ?_
 clear hK2 K1
 refine WC_seq (fun K3 hK4 => ?_)
 refine WC_region ?_
 refine WL_val (dd := some 19) rfl rfl rfl (r_move (v := xf) rfl) ?_
 refine WL_val (dd := some 20) rfl rfl rfl (r_move (v := xg) rfl) ?_
 refine WL_call (dd := some 21) rfl rfl rfl (r_call2 tb_c43 (v0 := xf) rfl (v1 := xg) rfl) (C_drawknifelaw20_start _ _ _ _ _ (Below.slT hB hf) (Below.slT hB hg)) (fun v1_2 W5 hE6 hP1_2 => ?_)
 have hsz7 := (Below.size hB)
 replace hB := below_ext hB hE6 (Nat.le_refl _)
 clear hE6
 have hszS := hsz7
 rcases hP1_2 with hP1_2 | hP1_2
 clear hsz7
 ·
  obtain ⟨hok, bz, ba, bm, a, b, ns1_2, rfl, hz, hD, hIa, hIb, hnl⟩ := hP1_2
  replace hD := Dia.mono hD hszS
  have hfl := hok.lf
  have hgl := hok.lg
  have hof := hok.f
  have hog := hok.g
  have hif := ofB_mem hof
  have hig := ofB_mem hog
  have hxl := ofI_len f
  have hyl := ofI_len g
  have hfn := fun k => few_len (f := f) (g := g) k hof hog
  refine WL_val (dd := some 18) rfl rfl rfl (r_move (v := .tuple #[.pointer (some ⟨bz, 0, none⟩), .int .i64 (a : Int), .int .i64 (b : Int), .bool true]) rfl) ?_
  refine WL_val (dd := some 22) rfl rfl rfl (r_ext4_0 (h := rfl)) ?_
  refine WL_val (dd := some 23) rfl rfl rfl (r_ext4_1 (h := rfl)) ?_
  refine WL_val (dd := some 24) rfl rfl rfl (r_ext4_2 (h := rfl)) ?_
  refine WL_val (dd := some 25) rfl rfl rfl (r_ext4_3 (h := rfl)) ?_
  refine WL_val (dd := some 5) rfl rfl rfl (r_assign (v := .pointer (some ⟨bz, 0, none⟩)) rfl) ?_
  refine WL_val (dd := some 6) rfl rfl rfl (r_assign (v := .int .i64 _) rfl) ?_
  refine WL_val (dd := some 7) rfl rfl rfl (r_assign (v := .int .i64 _) rfl) ?_
  refine WL_val (dd := some 8) rfl rfl rfl (r_assign (v := .bool true) rfl) ?_
  refine WL_nil ?_
  refine hK4 _ _ ?_
  clear hK4 K3
  refine WC_seq (fun K8 hK9 => ?_)
  refine WC_seq (fun K10 hK11 => ?_)
  refine WC_region ?_
  refine WL_val (dd := some 26) rfl rfl rfl (r_move (v := .bool true) rfl) ?_
  refine WL_val (dd := some 27) rfl rfl rfl (r_not rfl) ?_
  refine WL_val (dd := some 28) rfl rfl rfl (r_move (v := .bool false) rfl) ?_
  refine WL_val (dd := some 29) rfl rfl rfl (r_move (v := .pointer (some ⟨bz, 0, none⟩)) rfl) ?_
  refine WL_val (dd := some 30) rfl rfl rfl (r_ptrNil rfl rfl Try.underlying24) ?_
  refine WL_val (dd := some 31) rfl rfl rfl (r_pick_f rfl (v := .bool false) rfl) ?_
  refine WL_nil ?_
  refine hK11 _ _ ?_
  clear hK11 K10
  refine WC_cond_false rfl ?_
  refine WC_skip ?_
  refine hK9 _ _ ?_
  clear hK9 K8
  refine WC_seq (fun K12 hK13 => ?_)
  refine WC_region ?_
  refine WL_val (dd := some 38) rfl rfl rfl (r_move (v := .pointer (some ⟨bz, 0, none⟩)) rfl) ?_
  refine WL_val (dd := some 39) rfl rfl rfl (r_move (v := .int .i64 _) rfl) ?_
  refine WL_val (dd := some 40) rfl rfl rfl (r_move (v := .int .i64 _) rfl) ?_
  have hw4_3 := hD.wf
  refine WL_callG (dd := some 41) rfl rfl rfl (r_call3 tb_c45 (v0 := .pointer (some ⟨bz, 0, none⟩)) rfl (v1 := .int .i64 _) rfl (v2 := .int .i64 _) rfl) (C_DivideX _ _ _ _ _ _ a b _ (Below.size hB) hz hD hIa.v hIb.v (by rw [hIb.len hw4_3]; omega)) (fun v4_3 W14 hP4_3 => ?_)
  obtain ⟨ns4_3, q4_3, r4_3, er4_3, rfl, hx4_3, hDn4_3, hg4_3⟩ := hP4_3
  replace hB := Below.dx hB (Nat.le_refl _) (Nat.le_refl _) hx4_3
  replace hz := At.dx hD hx4_3 hz (by decide) (by decide)
  replace hD := hDn4_3
  refine WL_val (dd := some 37) rfl rfl rfl (r_move (v := .tuple #[.int .i64 (q4_3 : Int), .int .i64 (r4_3 : Int), .int .i64 er4_3]) rfl) ?_
  refine WL_val (dd := some 42) rfl rfl rfl (r_ext3_0 (h := rfl)) ?_
  refine WL_val (dd := some 43) rfl rfl rfl (r_ext3_1 (h := rfl)) ?_
  refine WL_val (dd := some 44) rfl rfl rfl (r_ext3_2 (h := rfl)) ?_
  refine WL_val (dd := some 9) rfl rfl rfl (r_assign (v := .int .i64 _) rfl) ?_
  refine WL_val (dd := some 10) rfl rfl rfl (r_assign (v := .int .i64 _) rfl) ?_
  refine WL_val (dd := some 11) rfl rfl rfl (r_assign (v := .int .i64 _) rfl) ?_
  refine WL_nil ?_
  refine hK13 _ _ ?_
  clear hK13 K12
  refine WC_seq (fun K16 hK17 => ?_)
  refine WC_region ?_
  refine WL_val (dd := some 45) rfl rfl rfl (r_move (v := xf) rfl) ?_
  refine WL_call (dd := some 46) rfl rfl rfl (r_call1 tb_c27 (v0 := xf) rfl) (C_drawkniferef08_Of _ _ _ (Below.slT hB hf) (by first | assumption | omega)) (fun v5_1 W18 hE19 hP5_1 => ?_)
  have hsz20 := (Below.size hB)
  replace hB := below_ext hB hE19 (Nat.le_refl _)
  replace hD := Dia.ext hE19 hD
  replace hz := hE19.at hz
  clear hE19
  replace hP5_1 := OwT.mono hP5_1 hsz20
  clear hsz20
  refine WL_val (dd := some 47) rfl rfl rfl (r_move (v := xg) rfl) ?_
  refine WL_call (dd := some 48) rfl rfl rfl (r_call1 tb_c27 (v0 := xg) rfl) (C_drawkniferef08_Of _ _ _ (Below.slT hB hg) (by first | assumption | omega)) (fun v5_3 W21 hE22 hP5_3 => ?_)
  have hlt23 := OwT.lt2 hP5_1
  have hsz24 := (Below.size hB)
  replace hB := below_ext hB hE22 (Nat.le_refl _)
  replace hD := Dia.ext hE22 hD
  replace hz := hE22.at hz
  replace hP5_1 := hE22.ow hP5_1
  clear hE22
  have hap25 := Apart.new hlt23 hP5_3
  replace hP5_3 := OwT.mono hP5_3 hsz24
  clear hsz24
  refine WL_val (dd := some 12) rfl rfl rfl (r_assign (v := v5_1) rfl) ?_
  refine WL_val (dd := some 13) rfl rfl rfl (r_assign (v := v5_3) rfl) ?_
  refine WL_nil ?_
  refine hK17 _ _ ?_
  clear hK17 K16
  refine WC_seq (fun K26 hK27 => ?_)
  refine WC_seq (fun K28 hK29 => ?_)
  have hde := hg4_3
  refine WC_region ?_
  refine WL_val (dd := some 49) rfl rfl rfl (r_move (v := v5_3) rfl) ?_
  refine WL_val (dd := some 50) rfl rfl rfl (r_lenS (v := v5_3) rfl hP5_3.sl tb_el22) ?_
  refine WL_val (dd := some 51) rfl rfl rfl (r_eql rfl rfl) ?_
  refine WL_nil ?_
  refine hK29 _ _ ?_
  clear hK29 K28
  refine WC_cond (b := _) rfl (fun hc1 => ?_) (fun hc1 => ?_)
  ·
   try with_reducible replace hc1 := of_decide_eq_true hc1
   refine WC_seq (fun K30 hK31 => ?_)
   have hgn : ofI g = [] := List.eq_nil_of_length_eq_zero (by omega)
   obtain ⟨hq0, hr0, he1, _⟩ := dvx_er hg4_3 (is_nil (hgn ▸ hIb) hw4_3)
   refine WC_region ?_
   refine WL_val (dd := some 52) rfl rfl rfl (r_move (v := .int .i64 _) rfl) ?_
   refine WL_val (dd := some 53) rfl rfl rfl (r_eql rfl rfl) ?_
   refine WL_split (dd := some 54) rfl rfl rfl (r_move (v := .bool _) rfl) (fun hs7_2 => ?_) (fun hs7_2 => ?_)
   ·
    try with_reducible replace hs7_2 := of_decide_eq_true hs7_2
    refine WL_val (dd := some 55) rfl rfl rfl (r_move (v := .int .i64 _) rfl) ?_
    refine WL_val (dd := some 56) rfl rfl rfl (r_eql rfl rfl) ?_
    refine WL_val (dd := some 57) rfl rfl rfl (r_pick_t rfl (v := .bool _) rfl) ?_
    refine WL_split (dd := some 58) rfl rfl rfl (r_move (v := .bool _) rfl) (fun hs7_6 => ?_) (fun hs7_6 => ?_)
    ·
     try with_reducible replace hs7_6 := of_decide_eq_true hs7_6
     refine WL_val (dd := some 59) rfl rfl rfl (r_move (v := .int .i64 _) rfl) ?_
     refine WL_val (dd := some 60) rfl rfl rfl (r_eql rfl rfl) ?_
     refine WL_val (dd := some 61) rfl rfl rfl (r_pick_t rfl (v := .bool _) rfl) ?_
     refine WL_split (dd := some 62) rfl rfl rfl (r_move (v := .bool _) rfl) (fun hs7_10 => ?_) (fun hs7_10 => ?_)
     ·
      try with_reducible replace hs7_10 := of_decide_eq_true hs7_10
      refine WL_call (dd := some 63) rfl rfl rfl (r_call0 tb_c44) (C_drawknifelaw20_knows _) (fun v7_11 W32 hE33 hP7_11 => ?_)
      have hsz34 := (Below.size hB)
      replace hB := below_ext hB hE33 (Nat.le_refl _)
      replace hD := Dia.ext hE33 hD
      replace hz := hE33.at hz
      replace hP5_1 := hE33.ow hP5_1
      replace hP5_3 := hE33.ow hP5_3
      clear hE33
      obtain rfl := hP7_11
      clear hsz34
      refine WL_val (dd := some 64) rfl rfl rfl (r_pick_t rfl (v := .bool true) rfl) ?_
      refine WL_val (dd := some 4) rfl rfl rfl (r_assign (v := .bool true) rfl) ?_
      refine WL_nil ?_
      refine hK31 _ _ ?_
      clear hK31 K30
      refine WC_ret ?_
      repeat (first | refine thenQ_ret ?_ | refine blockQ_ret ?_)
      try clear hK27 K26
      refine ret_t (v := .bool true) rfl ?_
      refine ⟨hB, ?_⟩
      rfl
     ·
      try with_reducible replace hs7_10 := of_decide_eq_false hs7_10
      omega
    ·
     try with_reducible replace hs7_6 := of_decide_eq_false hs7_6
     omega
   ·
    try with_reducible replace hs7_2 := of_decide_eq_false hs7_2
    omega
  ·
   try with_reducible replace hc1 := of_decide_eq_false hc1
   refine WC_skip ?_
   refine hK27 _ _ ?_
   clear hK27 K26
   refine WC_seq (fun K35 hK36 => ?_)
   have hb0 : ¬ b = 0 := fun e => by
     subst e
     have := is_0 hIb
     rw [this] at hc1
     exact hc1 rfl
   have hdv := dvx_ok hg4_3 hb0
   have hB0 := is_ne hIb hb0 hw4_3
   have hoq := dv_outq hdv hw4_3 hIa hIb hB0
   have hor := dv_outr hdv hw4_3 hIa hIb hB0
   have hrm : fewB f g = true → er4_3 = 0 := fun k => by
     have h1 := hfn k
     exact (dv_rm hdv (few_s1 k hw4_3 hIa) (few_s2 k hw4_3 hIb) (by omega)).1
   have hwl := ofI_len (quoL (ofI f) (ofI g) (ofI f).length)
   have hql := quoL_len (F := ofI f) (G := ofI g) (i := (ofI f).length)
   have hwr := quo_rng hif hig hB0
   refine WC_region ?_
   refine WL_val (dd := some 65) rfl rfl rfl (r_move (v := v5_1) rfl) ?_
   refine WL_val (dd := some 66) rfl rfl rfl (r_move (v := v5_3) rfl) ?_
   refine WL_call (dd := some 67) rfl rfl rfl (r_call2 tb_c46 (v0 := v5_1) rfl (v1 := v5_3) rfl) (C_drawkniferef20_Quotient _ _ _ _ _ hP5_1.sl hP5_3.sl (by first | assumption | omega) (by first | assumption | omega) (by assumption) (by assumption) (by first | assumption | omega)) (fun v8_2 W37 hE38 hP8_2 => ?_)
   have hlt39 := OwT.lt2 hP5_1
   have hlt40 := OwT.lt2 hP5_3
   have hsz41 := (Below.size hB)
   replace hB := below_ext hB hE38 (Nat.le_refl _)
   replace hD := Dia.ext hE38 hD
   replace hz := hE38.at hz
   replace hP5_1 := hE38.ow hP5_1
   replace hP5_3 := hE38.ow hP5_3
   clear hE38
   have hap42 := Apart.new hlt39 hP8_2
   have hap43 := Apart.new hlt40 hP8_2
   replace hP8_2 := OwT.mono hP8_2 hsz41
   clear hsz41
   refine WL_val (dd := some 14) rfl rfl rfl (r_assign (v := v8_2) rfl) ?_
   refine WL_nil ?_
   refine hK36 _ _ ?_
   clear hK36 K35
   refine WC_seq (fun K44 hK45 => ?_)
   refine WC_region ?_
   refine WL_val (dd := some 15) rfl rfl rfl (r_assign (v := .slice none 0 0) rfl) ?_
   refine WL_nil ?_
   refine hK45 _ _ ?_
   clear hK45 K44
   refine WC_seq (fun K46 hK47 => ?_)
   refine WC_seq (fun K48 hK49 => ?_)
   refine WC_region ?_
   refine WL_val (dd := some 16) rfl rfl rfl (r_assign (v := .int .i64 0) rfl) ?_
   refine WL_nil ?_
   refine hK49 _ _ ?_
   clear hK49 K48
   refine WC_block ?_
   refine WC_loop (σ := (Nat) × (Value)) [15, 16, 17, 68, 69, 70, 71, 72, 73, 74, 75, 76, 77, 78, 79, 80, 81, 82, 83, 84, 85, 86, 87, 88, 89, 90] (fun (i, v0) => [(16, .int .i64 (i : Int)), (15, v0)]) (fun sg W => match sg with | (i, v0) => (Below w.heap.size w W) ∧ (Dia 147 150 w.heap.size ba bm 20000 W ns4_3) ∧ (At W bz _ 100) ∧ (OwT encI 1 3 W w.heap.size v5_1 _) ∧ (Apart v5_1 v5_3) ∧ (OwT encI 1 3 W w.heap.size v5_3 _) ∧ (Apart v5_1 v8_2) ∧ (Apart v5_3 v8_2) ∧ (OwT encI 1 3 W w.heap.size v8_2 _) ∧ (OwT encI 1 3 W w.heap.size v0 (ofI (allJT (ofI (quoL (ofI f) (ofI g) (ofI f).length)) (ofI g) i 0))) ∧ (i ≤ ((ofI (quoL (ofI f) (ofI g) (ofI f).length))).length) ∧ (True)) (fun (i, v0) => ((ofI (quoL (ofI f) (ofI g) (ofI f).length))).length - i) ((0, .slice none 0 0)) ⟨rfl, rfl, trivial⟩ ⟨hB, hD, hz, hP5_1, hap25, hP5_3, hap42, hap43, hP8_2, OwT.nil, (Nat.zero_le _), trivial⟩ ?_
   clear hB hD hz hP5_1 hap25 hP5_3 hap42 hap43 hP8_2
   rintro ⟨i, v0⟩ g51 W50 ⟨hB, hD, hz, hP5_1, hap25, hP5_3, hap42, hap43, hP8_2, ho, hi, _⟩ J52 hJ53
   refine WC_seq (fun K54 hK55 => ?_)
   refine WC_seq (fun K56 hK57 => ?_)
   refine WC_region ?_
   refine WL_val (dd := some 68) rfl rfl rfl (r_move (v := .int .i64 _) rfl) ?_
   refine WL_val (dd := some 69) rfl rfl rfl (r_move (v := v8_2) rfl) ?_
   refine WL_val (dd := some 70) rfl rfl rfl (r_lenS (v := v8_2) rfl hP8_2.sl tb_el22) ?_
   refine WL_val (dd := some 71) rfl rfl rfl (r_lss rfl rfl) ?_
   refine WL_nil ?_
   refine hK57 _ _ ?_
   clear hK57 K56
   refine WC_cond (b := _) rfl (fun hc2 => ?_) (fun hc2 => ?_)
   ·
    try with_reducible replace hc2 := of_decide_eq_true hc2
    refine WC_skip ?_
    refine hK55 _ _ ?_
    clear hK55 K54
    refine WC_seq (fun K58 hK59 => ?_)
    refine WC_block ?_
    refine WC_seq (fun K60 hK61 => ?_)
    refine WC_region ?_
    refine WL_val (dd := some 17) rfl rfl rfl (r_assign (v := .int .i64 0) rfl) ?_
    refine WL_nil ?_
    refine hK61 _ _ ?_
    clear hK61 K60
    refine WC_block ?_
    refine WC_loop (σ := (Nat) × (Value)) [15, 17, 74, 75, 76, 77, 78, 79, 80, 81, 82, 83, 84, 85, 86, 87, 88, 89, 90] (fun (k, v1) => [(17, .int .i64 (k : Int)), (15, v1)]) (fun sg W => match sg with | (k, v1) => (Below w.heap.size w W) ∧ (Dia 147 150 w.heap.size ba bm 20000 W ns4_3) ∧ (At W bz _ 100) ∧ (OwT encI 1 3 W w.heap.size v5_1 _) ∧ (Apart v5_1 v5_3) ∧ (OwT encI 1 3 W w.heap.size v5_3 _) ∧ (Apart v5_1 v8_2) ∧ (Apart v5_3 v8_2) ∧ (OwT encI 1 3 W w.heap.size v8_2 _) ∧ (OwT encI 1 3 W w.heap.size v1 (ofI (allJT (ofI (quoL (ofI f) (ofI g) (ofI f).length)) (ofI g) i k))) ∧ (k ≤ (ofI g).length) ∧ (True)) (fun (k, v1) => (ofI g).length - k) ((0, v0)) ⟨rfl, rfl, trivial⟩ ⟨hB, hD, hz, hP5_1, hap25, hP5_3, hap42, hap43, hP8_2, ho, (Nat.zero_le _), trivial⟩ ?_
    clear hB hD hz hP5_1 hap25 hP5_3 hap42 hap43 hP8_2 ho
    rintro ⟨k, v1⟩ g63 W62 ⟨hB, hD, hz, hP5_1, hap25, hP5_3, hap42, hap43, hP8_2, ho2, hk, _⟩ J64 hJ65
    refine WC_seq (fun K66 hK67 => ?_)
    refine WC_seq (fun K68 hK69 => ?_)
    refine WC_region ?_
    refine WL_val (dd := some 74) rfl rfl rfl (r_move (v := .int .i64 _) rfl) ?_
    refine WL_val (dd := some 75) rfl rfl rfl (r_move (v := v5_3) rfl) ?_
    refine WL_val (dd := some 76) rfl rfl rfl (r_lenS (v := v5_3) rfl hP5_3.sl tb_el22) ?_
    refine WL_val (dd := some 77) rfl rfl rfl (r_lss rfl rfl) ?_
    refine WL_nil ?_
    refine hK69 _ _ ?_
    clear hK69 K68
    refine WC_cond (b := _) rfl (fun hc3 => ?_) (fun hc3 => ?_)
    ·
     try with_reducible replace hc3 := of_decide_eq_true hc3
     refine WC_skip ?_
     refine hK67 _ _ ?_
     clear hK67 K66
     refine WC_seq (fun K70 hK71 => ?_)
     refine WC_block ?_
     have hik := hwr _ (getD_mem (l := (ofI (quoL (ofI f) (ofI g) (ofI f).length))) (i := i) (d := 0) (by omega))
     have hkk := hig _ (getD_mem (l := ofI g) (i := k) (d := 0) (by omega))
     have hal := allJT_len24 (A := (ofI (quoL (ofI f) (ofI g) (ofI f).length))) (B := ofI g) i k (by omega) (by omega) (by omega) (by omega)
     refine WC_draw Ext tb_mix (fun W72 hE73 => ?_)
     replace hB := below_ext hB hE73 (Nat.le_refl _)
     replace hD := Dia.ext hE73 hD
     replace hz := hE73.at hz
     replace hP5_1 := hE73.ow hP5_1
     replace hP5_3 := hE73.ow hP5_3
     replace hP8_2 := hE73.ow hP8_2
     replace ho2 := hE73.ow ho2
     have hS := Ext.refl W72
     refine WT_take (dd := some 80) 0 rfl (by kernel_rfl) (by kernel_rfl) (by kernel_rfl) rfl rfl rfl (fun _wq _hq => r_move (v := v1) rfl) hS ?_
     refine WT_take (dd := some 81) 1 rfl (by kernel_rfl) (by kernel_rfl) (by kernel_rfl) rfl rfl rfl (fun _wq _hq => r_move (v := v8_2) rfl) hS ?_
     refine WT_take (dd := some 82) 2 rfl (by kernel_rfl) (by kernel_rfl) (by kernel_rfl) rfl rfl rfl (fun _wq _hq => r_move (v := .int .i64 _) rfl) hS ?_
     refine WT_take (dd := some 83) 3 rfl (by kernel_rfl) (by kernel_rfl) (by kernel_rfl) rfl rfl rfl (fun _wq hq => r_idxS (v := v8_2) rfl ((hq.ow hP8_2)).sl rfl tb_el22 (by omega) (by omega)) hS ?_
     refine WT_take (dd := some 84) 4 rfl (by kernel_rfl) (by kernel_rfl) (by kernel_rfl) rfl rfl rfl (fun _wq hq => r_load1 (v := .int .i64 _) rfl tb_sc3 (SlT.cell ((hq.ow hP8_2)).sl encI_len 0 (by omega) (by omega) 0 rfl)) hS ?_
     refine WT_take (dd := some 85) 5 rfl (by kernel_rfl) (by kernel_rfl) (by kernel_rfl) rfl rfl rfl (fun _wq _hq => r_move (v := v5_3) rfl) hS ?_
     refine WT_take (dd := some 86) 6 rfl (by kernel_rfl) (by kernel_rfl) (by kernel_rfl) rfl rfl rfl (fun _wq _hq => r_move (v := .int .i64 _) rfl) hS ?_
     refine WT_take (dd := some 87) 7 rfl (by kernel_rfl) (by kernel_rfl) (by kernel_rfl) rfl rfl rfl (fun _wq hq => r_idxS (v := v5_3) rfl ((hq.ow hP5_3)).sl rfl tb_el22 (by omega) (by omega)) hS ?_
     refine WT_take (dd := some 88) 8 rfl (by kernel_rfl) (by kernel_rfl) (by kernel_rfl) rfl rfl rfl (fun _wq hq => r_load1 (v := .int .i64 _) rfl tb_sc3 (SlT.cell ((hq.ow hP5_3)).sl encI_len 0 (by omega) (by omega) 0 rfl)) hS ?_
     refine WT_one (dd := some 89) 9 (by kernel_rfl) rfl rfl rfl rfl (Yd.call (r_call2 tb_c22 (v0 := .int .i64 _) rfl (v1 := .int .i64 _) rfl) (C_drawkniferef08_Both ((ofI (quoL (ofI f) (ofI g) (ofI f).length)).getD i 0) ((ofI g).getD k 0) _ hik.1 hik.2 hkk.1 hkk.2) (fun v16_9 W74 hE75 hP16_9 => ⟨.inl (hS.trans hE75), ?_⟩))
     have hsz76 := (Below.size hB)
     have sv77_hB := hB
     have sv77_hz := hz
     have sv77_hP5_1 := hP5_1
     have sv77_hP5_3 := hP5_3
     have sv77_hP8_2 := hP8_2
     have sv77_ho2 := ho2
     replace hB := below_ext hB hE75 (Nat.le_refl _)
     replace hD := Dia.ext hE75 hD
     replace hz := hE75.at hz
     replace hP5_1 := hE75.ow hP5_1
     replace hP5_3 := hE75.ow hP5_3
     replace hP8_2 := hE75.ow hP8_2
     replace ho2 := hE75.ow ho2
     replace hS := hS.trans hE75
     clear hE75
     clear hsz76
     obtain rfl := hP16_9
     refine WT_one (dd := some 90) 10 (by kernel_rfl) rfl rfl rfl rfl (Yd.call (r_call2 tb_c21 (v0 := v1) rfl (v1 := .int .i64 _) rfl) (C_drawkniferef08_With _ _ (ofI (allJT (ofI (quoL (ofI f) (ofI g) (ofI f).length)) (ofI g) i k)) (joI ((ofI (quoL (ofI f) (ofI g) (ofI f).length)).getD i 0) ((ofI g).getD k 0)) _ ho2 (Below.size hB) (by omega)) (fun v16_10 W78 hE79 hP16_10 => ⟨.inl (hS.trans hE79), ?_⟩))
     have hlt80 := OwT.lt2 hP5_1
     have hlt81 := OwT.lt2 hP5_3
     have hlt82 := OwT.lt2 hP8_2
     have hlt83 := OwT.lt2 ho2
     have hsz84 := (Below.size hB)
     replace hB := below_ext hB hE79 (Nat.le_refl _)
     replace hD := Dia.ext hE79 hD
     replace hz := hE79.at hz
     replace hP5_1 := hE79.ow hP5_1
     replace hP5_3 := hE79.ow hP5_3
     replace hP8_2 := hE79.ow hP8_2
     replace ho2 := hE79.ow ho2
     replace hS := hS.trans hE79
     clear hE79
     clear ho2
     clear hsz84
     refine WT_take (dd := some 15) 11 rfl (by kernel_rfl) (by kernel_rfl) (by kernel_rfl) rfl rfl rfl (fun _wq _hq => r_assign (v := v16_10) rfl) hS ?_
     refine WT_done (by kernel_rfl) ?_
     try clear sv77_hB sv77_hz sv77_hP5_1 sv77_hP5_3 sv77_hP8_2 sv77_ho2
     refine hK71 _ _ ?_
     clear hK71 K70
     refine WC_region ?_
     refine WL_val (dd := some 78) rfl rfl rfl (r_move (v := .int .i64 _) rfl) ?_
     refine WL_val (dd := some 79) rfl rfl rfl (r_addI rfl rfl (by omega) (by omega)) ?_
     refine WL_val (dd := some 17) rfl rfl rfl (r_assign (v := .int .i64 _) rfl) ?_
     refine WL_nil ?_
     refine hJ65 _ _ ((k + 1, v16_10)) ?_ ?_ ?_ ?_
     · repeat (first | exact agree.mask _ _ _ | refine agree.updo ?_ rfl _ | refine agree.updL ?_ _ rfl | refine agree.maskS rfl ?_)
     · exact ⟨rfl, rfl, trivial⟩
     · exact ⟨hB, hD, hz, hP5_1, hap25, hP5_3, hap42, hap43, hP8_2, (by rw [← allJT_s (by omega)]; exact hP16_10), (by omega), trivial⟩
     · show (ofI g).length - (k + 1) < (ofI g).length - k; omega
    ·
     try with_reducible replace hc3 := of_decide_eq_false hc3
     refine WC_exit ?_
     refine hK59 _ _ ?_
     clear hK67 K66
     clear hJ65 J64
     clear hK59 K58
     obtain rfl : k = (ofI g).length := by omega
     refine WC_region ?_
     refine WL_val (dd := some 72) rfl rfl rfl (r_move (v := .int .i64 _) rfl) ?_
     refine WL_val (dd := some 73) rfl rfl rfl (r_addI rfl rfl (by omega) (by omega)) ?_
     refine WL_val (dd := some 16) rfl rfl rfl (r_assign (v := .int .i64 _) rfl) ?_
     refine WL_nil ?_
     refine hJ53 _ _ ((i + 1, v1)) ?_ ?_ ?_ ?_
     · repeat (first | exact agree.mask _ _ _ | refine agree.updo ?_ rfl _ | refine agree.updL ?_ _ rfl | refine agree.maskS rfl ?_)
     · exact ⟨rfl, rfl, trivial⟩
     · exact ⟨hB, hD, hz, hP5_1, hap25, hP5_3, hap42, hap43, hP8_2, (by rw [← allJT_r (by omega)]; exact ho2), (by omega), trivial⟩
     · show ((ofI (quoL (ofI f) (ofI g) (ofI f).length))).length - (i + 1) < ((ofI (quoL (ofI f) (ofI g) (ofI f).length))).length - i; omega
   ·
    try with_reducible replace hc2 := of_decide_eq_false hc2
    refine WC_exit ?_
    refine hK47 _ _ ?_
    clear hK55 K54
    clear hJ53 J52
    clear hK47 K46
    refine WC_seq (fun K85 hK86 => ?_)
    obtain rfl : i = ((ofI (quoL (ofI f) (ofI g) (ofI f).length))).length := by omega
    rw [allJT_e] at ho
    have hal := allJT_len24 (A := (ofI (quoL (ofI f) (ofI g) (ofI f).length))) (B := ofI g) ((ofI (quoL (ofI f) (ofI g) (ofI f).length))).length 0 (by omega) (by omega) (by omega) (by omega)
    rw [allJT_e] at hal
    have hpl := pickI_len (ofI f) (ofI (allJ (ofI (quoL (ofI f) (ofI g) (ofI f).length)) (ofI g))) false
    refine WC_region ?_
    refine WL_val (dd := some 91) rfl rfl rfl (r_move (v := .pointer (some ⟨bz, 0, none⟩)) rfl) ?_
    refine WL_val (dd := some 92) rfl rfl rfl (r_move (v := .int .i64 _) rfl) ?_
    refine WL_val (dd := some 93) rfl rfl rfl (r_move (v := .int .i64 _) rfl) ?_
    refine WL_val (dd := some 94) rfl rfl rfl (r_move (v := v8_2) rfl) ?_
    refine WL_val (dd := some 95) rfl rfl rfl (r_move (v := xf) rfl) ?_
    refine WL_val (dd := some 96) rfl rfl rfl (r_move (v := xg) rfl) ?_
    refine WL_call (dd := some 97) rfl rfl rfl (r_call2 tb_c48 (v0 := xf) rfl (v1 := xg) rfl) (C_drawknifelaw20_few _ _ _ _ _ (Below.slT hB hf) (Below.slT hB hg)) (fun v17_6 W87 hE88 hP17_6 => ?_)
    have hsz89 := (Below.size hB)
    replace hB := below_ext hB hE88 (Nat.le_refl _)
    replace hD := Dia.ext hE88 hD
    replace hz := hE88.at hz
    replace hP5_1 := hE88.ow hP5_1
    replace hP5_3 := hE88.ow hP5_3
    replace hP8_2 := hE88.ow hP8_2
    replace ho := hE88.ow ho
    clear hE88
    clear hsz89
    obtain rfl := hP17_6
    refine WL_call (dd := some 98) rfl rfl rfl (r_call5 tb_c47 (v0 := .pointer (some ⟨bz, 0, none⟩)) rfl (v1 := .int .i64 _) rfl (v2 := .int .i64 _) rfl (v3 := v8_2) rfl (v4 := .bool _) rfl) (C_drawknifelaw20_is _ _ _ _ _ _ _ _ _ ((ofI (quoL (ofI f) (ofI g) (ofI f).length))) _ _ hz hD hP8_2.sl (by omega) (is_of hoq (List.prefix_refl _) hrm)) (fun v17_7 W90 hE91 hP17_7 => ?_)
    have hsz92 := (Below.size hB)
    replace hB := below_ext hB hE91 (Nat.le_refl _)
    replace hD := Dia.ext hE91 hD
    replace hz := hE91.at hz
    replace hP5_1 := hE91.ow hP5_1
    replace hP5_3 := hE91.ow hP5_3
    replace hP8_2 := hE91.ow hP8_2
    replace ho := hE91.ow ho
    clear hE91
    obtain rfl := hP17_7
    clear hsz92
    refine WL_val (dd := some 99) rfl rfl rfl (r_move (v := .bool true) rfl) ?_
    refine WL_val (dd := some 100) rfl rfl rfl (r_move (v := .pointer (some ⟨bz, 0, none⟩)) rfl) ?_
    refine WL_val (dd := some 101) rfl rfl rfl (r_move (v := .int .i64 _) rfl) ?_
    refine WL_val (dd := some 102) rfl rfl rfl (r_move (v := .int .i64 _) rfl) ?_
    refine WL_val (dd := some 103) rfl rfl rfl (r_move (v := v5_1) rfl) ?_
    refine WL_val (dd := some 104) rfl rfl rfl (r_move (v := v0) rfl) ?_
    refine WL_call (dd := some 105) rfl rfl rfl (r_call3 tb_c36 (v0 := v5_1) rfl (v1 := v0) rfl (v2 := .bool false) rfl) (C_drawkniferef08_Pick _ _ _ _ _ _ hP5_1.sl ho.sl (by first | assumption | omega) (by first | assumption | omega)) (fun v17_14 W93 hE94 hP17_14 => ?_)
    have hlt95 := OwT.lt2 hP5_1
    have hlt96 := OwT.lt2 hP5_3
    have hlt97 := OwT.lt2 hP8_2
    have hlt98 := OwT.lt2 ho
    have hsz99 := (Below.size hB)
    replace hB := below_ext hB hE94 (Nat.le_refl _)
    replace hD := Dia.ext hE94 hD
    replace hz := hE94.at hz
    replace hP5_1 := hE94.ow hP5_1
    replace hP5_3 := hE94.ow hP5_3
    replace hP8_2 := hE94.ow hP8_2
    replace ho := hE94.ow ho
    clear hE94
    have hap100 := Apart.new hlt95 hP17_14
    have hap101 := Apart.new hlt96 hP17_14
    have hap102 := Apart.new hlt97 hP17_14
    have hap103 := Apart.new hlt98 hP17_14
    replace hP17_14 := OwT.mono hP17_14 hsz99
    clear hsz99
    refine WL_val (dd := some 106) rfl rfl rfl (r_move (v := xf) rfl) ?_
    refine WL_val (dd := some 107) rfl rfl rfl (r_move (v := xg) rfl) ?_
    refine WL_call (dd := some 108) rfl rfl rfl (r_call2 tb_c48 (v0 := xf) rfl (v1 := xg) rfl) (C_drawknifelaw20_few _ _ _ _ _ (Below.slT hB hf) (Below.slT hB hg)) (fun v17_17 W104 hE105 hP17_17 => ?_)
    have hsz106 := (Below.size hB)
    replace hB := below_ext hB hE105 (Nat.le_refl _)
    replace hD := Dia.ext hE105 hD
    replace hz := hE105.at hz
    replace hP5_1 := hE105.ow hP5_1
    replace hP5_3 := hE105.ow hP5_3
    replace hP8_2 := hE105.ow hP8_2
    replace ho := hE105.ow ho
    replace hP17_14 := hE105.ow hP17_14
    clear hE105
    clear hsz106
    obtain rfl := hP17_17
    refine WL_call (dd := some 109) rfl rfl rfl (r_call5 tb_c47 (v0 := .pointer (some ⟨bz, 0, none⟩)) rfl (v1 := .int .i64 _) rfl (v2 := .int .i64 _) rfl (v3 := v17_14) rfl (v4 := .bool _) rfl) (C_drawknifelaw20_is _ _ _ _ _ _ _ _ _ (pickI (ofI f) (ofI (allJ (ofI (quoL (ofI f) (ofI g) (ofI f).length)) (ofI g))) false) _ _ hz hD hP17_14.sl (by omega) (is_of hor (List.prefix_refl _) hrm)) (fun v17_18 W107 hE108 hP17_18 => ?_)
    have hsz109 := (Below.size hB)
    replace hB := below_ext hB hE108 (Nat.le_refl _)
    replace hD := Dia.ext hE108 hD
    replace hz := hE108.at hz
    replace hP5_1 := hE108.ow hP5_1
    replace hP5_3 := hE108.ow hP5_3
    replace hP8_2 := hE108.ow hP8_2
    replace ho := hE108.ow ho
    replace hP17_14 := hE108.ow hP17_14
    clear hE108
    obtain rfl := hP17_18
    clear hsz109
    refine WL_val (dd := some 110) rfl rfl rfl (r_pick_t rfl (v := .bool true) rfl) ?_
    refine WL_val (dd := some 111) rfl rfl rfl (r_move (v := .bool true) rfl) ?_
    refine WL_call (dd := some 112) rfl rfl rfl (r_call0 tb_c44) (C_drawknifelaw20_knows _) (fun v17_21 W110 hE111 hP17_21 => ?_)
    have hsz112 := (Below.size hB)
    replace hB := below_ext hB hE111 (Nat.le_refl _)
    replace hD := Dia.ext hE111 hD
    replace hz := hE111.at hz
    replace hP5_1 := hE111.ow hP5_1
    replace hP5_3 := hE111.ow hP5_3
    replace hP8_2 := hE111.ow hP8_2
    replace ho := hE111.ow ho
    replace hP17_14 := hE111.ow hP17_14
    clear hE111
    obtain rfl := hP17_21
    clear hsz112
    refine WL_val (dd := some 113) rfl rfl rfl (r_pick_t rfl (v := .bool true) rfl) ?_
    refine WL_val (dd := some 4) rfl rfl rfl (r_assign (v := .bool true) rfl) ?_
    refine WL_nil ?_
    refine hK86 _ _ ?_
    clear hK86 K85
    refine WC_ret ?_
    repeat (first | refine thenQ_ret ?_ | refine blockQ_ret ?_)
    refine ret_t (v := .bool true) rfl ?_
    refine ⟨hB, ?_⟩
    rfl
 ·
  obtain rfl := hP1_2
  refine WL_val (dd := some 18) rfl rfl rfl (r_move (v := .tuple #[.pointer none, .int .i64 0, .int .i64 0, .bool false]) rfl) ?_
  refine WL_val (dd := some 22) rfl rfl rfl (r_ext4_0 (h := rfl)) ?_
  refine WL_val (dd := some 23) rfl rfl rfl (r_ext4_1 (h := rfl)) ?_
  refine WL_val (dd := some 24) rfl rfl rfl (r_ext4_2 (h := rfl)) ?_
  refine WL_val (dd := some 25) rfl rfl rfl (r_ext4_3 (h := rfl)) ?_
  refine WL_val (dd := some 5) rfl rfl rfl (r_assign (v := .pointer none) rfl) ?_
  refine WL_val (dd := some 6) rfl rfl rfl (r_assign (v := .int .i64 0) rfl) ?_
  refine WL_val (dd := some 7) rfl rfl rfl (r_assign (v := .int .i64 0) rfl) ?_
  refine WL_val (dd := some 8) rfl rfl rfl (r_assign (v := .bool false) rfl) ?_
  refine WL_nil ?_
  refine hK4 _ _ ?_
  clear hK4 K3
  refine WC_seq (fun K113 hK114 => ?_)
  refine WC_seq (fun K115 hK116 => ?_)
  refine WC_region ?_
  refine WL_val (dd := some 26) rfl rfl rfl (r_move (v := .bool false) rfl) ?_
  refine WL_val (dd := some 27) rfl rfl rfl (r_not rfl) ?_
  refine WL_val (dd := some 28) rfl rfl rfl (r_move (v := .bool true) rfl) ?_
  refine WL_skip (dd := some 29) rfl rfl rfl ?_
  refine WL_skip (dd := some 30) rfl rfl rfl ?_
  refine WL_val (dd := some 31) rfl rfl rfl (r_pick_t rfl (v := .bool true) rfl) ?_
  refine WL_nil ?_
  refine hK116 _ _ ?_
  clear hK116 K115
  refine WC_cond_true rfl ?_
  refine WC_seq (fun K117 hK118 => ?_)
  refine WC_region ?_
  refine WL_val (dd := some 32) rfl rfl rfl (r_move (v := .bool false) rfl) ?_
  refine WL_val (dd := some 33) rfl rfl rfl (r_not rfl) ?_
  refine WL_val (dd := some 34) rfl rfl rfl (r_move (v := .bool true) rfl) ?_
  refine WL_call (dd := some 35) rfl rfl rfl (r_call0 tb_c44) (C_drawknifelaw20_knows _) (fun v3_3 W119 hE120 hP3_3 => ?_)
  have hsz121 := (Below.size hB)
  replace hB := below_ext hB hE120 (Nat.le_refl _)
  clear hE120
  obtain rfl := hP3_3
  clear hsz121
  refine WL_val (dd := some 36) rfl rfl rfl (r_pick_t rfl (v := .bool true) rfl) ?_
  refine WL_val (dd := some 4) rfl rfl rfl (r_assign (v := .bool true) rfl) ?_
  refine WL_nil ?_
  refine hK118 _ _ ?_
  clear hK118 K117
  refine WC_ret ?_
  repeat (first | refine thenQ_ret ?_ | refine blockQ_ret ?_)
  try clear hK114 K113
  refine ret_t (v := .bool true) rfl ?_
  refine ⟨hB, ?_⟩
  rfl

end Go.Proofs.Ytpamgfbecgjjeaa
