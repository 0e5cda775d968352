/-
  The walk of the statement about the room of the family of a spec's primes.
-/
import Derived.Test.YtpamgfbecgjjeaaProg
import Derived.Test.YtpamgfbecgjjeaaWLaw11
import Derived.Test.YtpamgfbecgjjeaaWTag3
namespace Go.Proofs.Ytpamgfbecgjjeaa
set_option linter.unusedVariables false
set_option linter.unusedSimpArgs false
open Go Go.RowKit

theorem tb_c65 : callB Try.prog 65 = true := by kernel_rfl
theorem tb_c53 : callB Try.prog 53 = true := by kernel_rfl
theorem tb_c64 : callB Try.prog 64 = true := by kernel_rfl
theorem tb_c66 : callB Try.prog 66 = true := by kernel_rfl
theorem tb_c67 : callB Try.prog 67 = true := by kernel_rfl
theorem tb_c63 : callB Try.prog 63 = true := by kernel_rfl

theorem C_drawknifelaw10_Great (S : Sp) (onV mayV : Value) (w : World) (hon : SlT encS 4 w onV S.on) (hmay : SlT encS 4 w mayV S.may) :
    Fn Try.prog 65 #[.agg #[.int .i64 S.n, onV, mayV]] w fun v w' => v = .bool (great11 S) := by
 refine Fn_intro (n := 13) Try.func65 rfl rfl (Nat.le_of_ble_eq_true rfl) ?_
 have hB : Below w.heap.size w w := Below.refl _ _
 refine WC_seq (fun K1 hK2 => ?_)
 refine WC_region ?_
 refine WL_step (dd := some 1) rfl rfl rfl (Y_box (c := #[_, _, _]) rfl rfl (fun b0_0 W3 hb4 hE5 hm0_0 => ?_))
 have lo_b0_0 : w.heap.size ≤ b0_0 := hb4 ▸ (Below.size hB)
 clear hb4
 replace hB := below_ext hB hE5 (Nat.le_refl _)
 clear hE5
 refine WL_val (dd := some 2) rfl rfl rfl (r_assign (v := .bool false) rfl) ?_
 refine WL_nil ?_
 refine hK2 _ _ ?_
 clear hK2 K1
 refine WC_seq (fun K6 hK7 => ?_)
 refine WC_region ?_
 refine WL_val (dd := some 3) rfl rfl rfl (r_fieldAddr (b := _) (o := _) rfl tb_fo79_1) ?_
 refine WL_val (dd := some 4) rfl rfl rfl (r_load1 (v := onV) rfl tb_sc77 (At.cell hm0_0 rfl)) ?_
 refine WL_val (dd := some 5) rfl rfl rfl (r_lenS (v := onV) rfl (Below.slT hB hon) tb_el77) ?_
 refine WL_val (dd := some 6) rfl rfl rfl (r_gtr rfl rfl) ?_
 refine WL_split (dd := some 7) rfl rfl rfl (r_move (v := .bool _) rfl) (fun hs1_4 => ?_) (fun hs1_4 => ?_)
 ·
  try with_reducible replace hs1_4 := of_decide_eq_true hs1_4
  refine WL_skip (dd := some 8) rfl rfl rfl ?_
  refine WL_skip (dd := some 9) rfl rfl rfl ?_
  refine WL_skip (dd := some 10) rfl rfl rfl ?_
  refine WL_skip (dd := some 11) rfl rfl rfl ?_
  refine WL_val (dd := some 12) rfl rfl rfl (r_pick_t rfl (v := .bool true) rfl) ?_
  refine WL_val (dd := some 2) rfl rfl rfl (r_assign (v := .bool true) rfl) ?_
  refine WL_nil ?_
  refine hK7 _ _ ?_
  clear hK7 K6
  refine WC_ret ?_
  repeat (first | refine thenQ_ret ?_ | refine blockQ_ret ?_)
  refine ret_t (v := .bool true) rfl ?_
  refine ⟨hB, ?_⟩
  first | exact great11_1 hs1_4 | exact great11_2 hs1_4
 ·
  try with_reducible replace hs1_4 := of_decide_eq_false hs1_4
  refine WL_val (dd := some 8) rfl rfl rfl (r_fieldAddr (b := _) (o := _) rfl tb_fo79_2) ?_
  refine WL_val (dd := some 9) rfl rfl rfl (r_load1 (v := mayV) rfl tb_sc77 (At.cell hm0_0 rfl)) ?_
  refine WL_val (dd := some 10) rfl rfl rfl (r_lenS (v := mayV) rfl (Below.slT hB hmay) tb_el77) ?_
  refine WL_val (dd := some 11) rfl rfl rfl (r_gtr rfl rfl) ?_
  refine WL_val (dd := some 12) rfl rfl rfl (r_pick_f rfl (v := .bool _) rfl) ?_
  refine WL_val (dd := some 2) rfl rfl rfl (r_assign (v := .bool _) rfl) ?_
  refine WL_nil ?_
  refine hK7 _ _ ?_
  clear hK7 K6
  refine WC_ret ?_
  repeat (first | refine thenQ_ret ?_ | refine blockQ_ret ?_)
  refine ret_t (v := .bool _) rfl ?_
  refine ⟨hB, ?_⟩
  first | exact great11_1 hs1_4 | exact great11_2 hs1_4

set_option maxRecDepth 20000 in
theorem C_drawknifelaw11_TaggedRoom (S : Sp) (onV mayV : Value) (t : Nat) (w : World) (hon : SlT encS 4 w onV S.on) (hmay : SlT encS 4 w mayV S.may) (ht : t < 256) :
    Fn Try.prog 18 #[.agg #[.int .i64 S.n, onV, mayV], .int .u8 (t : Int)] w fun v w' => v = .bool true := by
 refine Fn_intro (n := 92) Try.func18 rfl rfl (Nat.le_of_ble_eq_true rfl) ?_
 have hB : Below w.heap.size w w := Below.refl _ _
 refine WC_seq (fun K1 hK2 => ?_)
 refine WC_region ?_
 refine WL_step (dd := some 2) rfl rfl rfl (Y_box (c := #[_, _, _]) rfl rfl (fun b0_0 W3 hb4 hE5 hm0_0 => ?_))
 have lo_b0_0 : w.heap.size ≤ b0_0 := hb4 ▸ (Below.size hB)
 clear hb4
 replace hB := below_ext hB hE5 (Nat.le_refl _)
 clear hE5
 refine WL_val (dd := some 4) rfl rfl rfl (r_assign (v := .bool false) rfl) ?_
 refine WL_nil ?_
 refine hK2 _ _ ?_
 clear hK2 K1
 refine WC_seq (fun K6 hK7 => ?_)
 refine WC_seq (fun K8 hK9 => ?_)
 refine WC_region ?_
 refine WL_val (dd := some 15) rfl rfl rfl (r_loadW rfl tb_ag79 rfl hm0_0) ?_
 refine WL_call (dd := some 16) rfl rfl rfl (r_call1 tb_c65 (v0 := .agg #[_, _, _]) rfl) (C_drawknifelaw10_Great S _ _  _ (Below.slT hB hon) (Below.slT hB hmay) ) (fun v1_1 W10 hE11 hP1_1 => ?_)
 have hsz12 := (Below.size hB)
 replace hB := below_ext hB hE11 (Nat.le_refl _)
 replace hm0_0 := hE11.at hm0_0
 clear hE11
 clear hsz12
 obtain rfl := hP1_1
 refine WL_split (dd := some 17) rfl rfl rfl (r_move (v := .bool _) rfl) (fun hs1_2 => ?_) (fun hs1_2 => ?_)
 ·
  try with_reducible replace hs1_2 := of_decide_eq_true hs1_2
  refine WL_skip (dd := some 18) rfl rfl rfl ?_
  refine WL_skip (dd := some 19) rfl rfl rfl ?_
  refine WL_skip (dd := some 20) rfl rfl rfl ?_
  refine WL_val (dd := some 21) rfl rfl rfl (r_pick_t rfl (v := .bool true) rfl) ?_
  refine WL_val (dd := some 22) rfl rfl rfl (r_move (v := .bool true) rfl) ?_
  refine WL_skip (dd := some 23) rfl rfl rfl ?_
  refine WL_skip (dd := some 24) rfl rfl rfl ?_
  refine WL_skip (dd := some 25) rfl rfl rfl ?_
  refine WL_val (dd := some 26) rfl rfl rfl (r_pick_t rfl (v := .bool true) rfl) ?_
  refine WL_nil ?_
  refine hK9 _ _ ?_
  clear hK9 K8
  refine WC_cond_true rfl ?_
  refine WC_seq (fun K13 hK14 => ?_)
  refine WC_region ?_
  refine WL_call (dd := some 27) rfl rfl rfl (r_call0 tb_c53) (C_drawknifelaw11_knows _) (fun v2_0 W15 hE16 hP2_0 => ?_)
  have hsz17 := (Below.size hB)
  replace hB := below_ext hB hE16 (Nat.le_refl _)
  replace hm0_0 := hE16.at hm0_0
  clear hE16
  obtain rfl := hP2_0
  clear hsz17
  refine WL_val (dd := some 4) rfl rfl rfl (r_assign (v := .bool true) rfl) ?_
  refine WL_nil ?_
  refine hK14 _ _ ?_
  clear hK14 K13
  refine WC_ret ?_
  repeat (first | refine thenQ_ret ?_ | refine blockQ_ret ?_)
  try clear hK7 K6
  refine ret_t (v := .bool true) rfl ?_
  refine ⟨hB, ?_⟩
  rfl
 ·
  try with_reducible replace hs1_2 := of_decide_eq_false hs1_2
  refine WL_val (dd := some 18) rfl rfl rfl (r_loadW rfl tb_ag79 rfl hm0_0) ?_
  refine WL_call (dd := some 19) rfl rfl rfl (r_call1 tb_c64 (v0 := .agg #[_, _, _]) rfl) (C_drawkniferef04_Right S _ _  _ (Below.slT hB hon) (Below.slT hB hmay) ) (fun v1_4 W18 hE19 hP1_4 => ?_)
  have hsz20 := (Below.size hB)
  replace hB := below_ext hB hE19 (Nat.le_refl _)
  replace hm0_0 := hE19.at hm0_0
  clear hE19
  clear hsz20
  obtain rfl := hP1_4
  refine WL_val (dd := some 20) rfl rfl rfl (r_not rfl) ?_
  refine WL_val (dd := some 21) rfl rfl rfl (r_pick_f rfl (v := .bool _) rfl) ?_
  refine WL_split (dd := some 22) rfl rfl rfl (r_move (v := .bool _) rfl) (fun hs1_7 => ?_) (fun hs1_7 => ?_)
  ·
   try with_reducible replace hs1_7 := of_decide_eq_true hs1_7
   refine WL_skip (dd := some 23) rfl rfl rfl ?_
   refine WL_skip (dd := some 24) rfl rfl rfl ?_
   refine WL_skip (dd := some 25) rfl rfl rfl ?_
   refine WL_val (dd := some 26) rfl rfl rfl (r_pick_t rfl (v := .bool true) rfl) ?_
   refine WL_nil ?_
   refine hK9 _ _ ?_
   clear hK9 K8
   refine WC_cond_true rfl ?_
   refine WC_seq (fun K21 hK22 => ?_)
   refine WC_region ?_
   refine WL_call (dd := some 27) rfl rfl rfl (r_call0 tb_c53) (C_drawknifelaw11_knows _) (fun v2_0 W23 hE24 hP2_0 => ?_)
   have hsz25 := (Below.size hB)
   replace hB := below_ext hB hE24 (Nat.le_refl _)
   replace hm0_0 := hE24.at hm0_0
   clear hE24
   obtain rfl := hP2_0
   clear hsz25
   refine WL_val (dd := some 4) rfl rfl rfl (r_assign (v := .bool true) rfl) ?_
   refine WL_nil ?_
   refine hK22 _ _ ?_
   clear hK22 K21
   refine WC_ret ?_
   repeat (first | refine thenQ_ret ?_ | refine blockQ_ret ?_)
   try clear hK7 K6
   refine ret_t (v := .bool true) rfl ?_
   refine ⟨hB, ?_⟩
   rfl
  ·
   try with_reducible replace hs1_7 := of_decide_eq_false hs1_7
   refine WL_val (dd := some 23) rfl rfl rfl (r_fieldAddr (b := _) (o := _) rfl tb_fo79_0) ?_
   refine WL_val (dd := some 24) rfl rfl rfl (r_load1 (v := .int .i64 _) rfl tb_sc3 (At.cell hm0_0 rfl)) ?_
   refine WL_val (dd := some 25) rfl rfl rfl (r_gtr rfl rfl) ?_
   refine WL_val (dd := some 26) rfl rfl rfl (r_pick_f rfl (v := .bool _) rfl) ?_
   refine WL_nil ?_
   refine hK9 _ _ ?_
   clear hK9 K8
   refine WC_cond (b := _) rfl (fun hc0 => ?_) (fun hc0 => ?_)
   ·
    try with_reducible replace hc0 := of_decide_eq_true hc0
    refine WC_seq (fun K26 hK27 => ?_)
    refine WC_region ?_
    refine WL_call (dd := some 27) rfl rfl rfl (r_call0 tb_c53) (C_drawknifelaw11_knows _) (fun v2_0 W28 hE29 hP2_0 => ?_)
    have hsz30 := (Below.size hB)
    replace hB := below_ext hB hE29 (Nat.le_refl _)
    replace hm0_0 := hE29.at hm0_0
    clear hE29
    obtain rfl := hP2_0
    clear hsz30
    refine WL_val (dd := some 4) rfl rfl rfl (r_assign (v := .bool true) rfl) ?_
    refine WL_nil ?_
    refine hK27 _ _ ?_
    clear hK27 K26
    refine WC_ret ?_
    repeat (first | refine thenQ_ret ?_ | refine blockQ_ret ?_)
    try clear hK7 K6
    refine ret_t (v := .bool true) rfl ?_
    refine ⟨hB, ?_⟩
    rfl
   ·
    try with_reducible replace hc0 := of_decide_eq_false hc0
    refine WC_skip ?_
    refine hK7 _ _ ?_
    clear hK7 K6
    refine WC_seq (fun K31 hK32 => ?_)
    have hr : rightS S = true := not_f hs1_7
    refine WC_region ?_
    refine WL_val (dd := some 29) rfl rfl rfl (r_move (v := .int .u8 _) rfl) ?_
    refine WL_val (dd := some 30) rfl rfl rfl (r_convN rfl Try.underlying5 Try.underlying3 (by first | assumption | (simp only [topN]; omega) | (simp only [topN]; decide))) ?_
    refine WL_call (dd := some 31) rfl rfl rfl (r_call1 tb_c31 (v0 := .int .i64 _) rfl) (C_zdd_New t _ (by omega)) (fun v3_2 W33 hE34 hP3_2 => ?_)
    have hsz35 := (Below.size hB)
    replace hB := below_ext hB hE34 (Nat.le_refl _)
    replace hm0_0 := hE34.at hm0_0
    clear hE34
    obtain ⟨bz, ba, bm, rfl, hz, hD⟩ := hP3_2
    replace hD := Dia.mono hD hsz35
    clear hsz35
    refine WL_val (dd := some 28) rfl rfl rfl (r_move (v := .tuple #[.pointer (some ⟨bz, 0, none⟩), .int .i64 0]) rfl) ?_
    refine WL_val (dd := some 32) rfl rfl rfl (r_ext2_0 (h := rfl)) ?_
    refine WL_val (dd := some 33) rfl rfl rfl (r_ext2_1 (h := rfl)) ?_
    refine WL_val (dd := some 5) rfl rfl rfl (r_assign (v := .pointer (some ⟨bz, 0, none⟩)) rfl) ?_
    refine WL_val (dd := some 6) rfl rfl rfl (r_assign (v := .int .i64 0) rfl) ?_
    refine WL_nil ?_
    refine hK32 _ _ ?_
    clear hK32 K31
    refine WC_seq (fun K36 hK37 => ?_)
    refine WC_seq (fun K38 hK39 => ?_)
    refine WC_region ?_
    refine WL_val (dd := some 34) rfl rfl rfl (r_move (v := .pointer (some ⟨bz, 0, none⟩)) rfl) ?_
    refine WL_val (dd := some 35) rfl rfl rfl (r_ptrNil rfl rfl Try.underlying24) ?_
    refine WL_val (dd := some 36) rfl rfl rfl (r_move (v := .bool false) rfl) ?_
    refine WL_val (dd := some 37) rfl rfl rfl (r_move (v := .int .i64 0) rfl) ?_
    refine WL_val (dd := some 38) rfl rfl rfl (r_neq rfl rfl) ?_
    refine WL_val (dd := some 39) rfl rfl rfl (r_pick_f rfl (v := .bool _) rfl) ?_
    refine WL_nil ?_
    refine hK39 _ _ ?_
    clear hK39 K38
    refine WC_cond (b := _) rfl (fun hc1 => ?_) (fun hc1 => ?_)
    ·
     try with_reducible replace hc1 := of_decide_eq_true hc1
     exact absurd rfl hc1
    ·
     try with_reducible replace hc1 := of_decide_eq_false hc1
     refine WC_skip ?_
     refine hK37 _ _ ?_
     clear hK37 K36
     refine WC_seq (fun K40 hK41 => ?_)
     refine WC_region ?_
     refine WL_val (dd := some 41) rfl rfl rfl (r_move (v := .pointer (some ⟨bz, 0, none⟩)) rfl) ?_
     refine WL_val (dd := some 42) rfl rfl rfl (r_loadW rfl tb_ag79 rfl hm0_0) ?_
     refine WL_callG (dd := some 43) rfl rfl rfl (r_call2 tb_c66 (v0 := .pointer (some ⟨bz, 0, none⟩)) rfl (v1 := .agg #[_, _, _]) rfl) (C_tagged_All w _ _ _ _ _ S onV mayV _ hB hz hD hr hon hmay) (fun v6_2 W42 hP6_2 => ?_)
     obtain ⟨ns6_2, id6_2, er6_2, rfl, hx6_2, hDn6_2, hg6_2⟩ := hP6_2
     replace hB := Below.dx hB (Nat.le_refl _) (Nat.le_refl _) hx6_2
     replace hm0_0 := At.dx hD hx6_2 hm0_0 (by decide) (by decide)
     replace hz := At.dx hD hx6_2 hz (by decide) (by decide)
     replace hD := hDn6_2
     refine WL_val (dd := some 40) rfl rfl rfl (r_move (v := .tuple #[.int .i64 (id6_2 : Int), .int .i64 er6_2]) rfl) ?_
     refine WL_val (dd := some 44) rfl rfl rfl (r_ext2_0 (h := rfl)) ?_
     refine WL_val (dd := some 45) rfl rfl rfl (r_ext2_1 (h := rfl)) ?_
     refine WL_val (dd := some 7) rfl rfl rfl (r_assign (v := .int .i64 _) rfl) ?_
     refine WL_val (dd := some 8) rfl rfl rfl (r_assign (v := .int .i64 _) rfl) ?_
     refine WL_nil ?_
     refine hK41 _ _ ?_
     clear hK41 K40
     refine WC_seq (fun K44 hK45 => ?_)
     refine WC_seq (fun K46 hK47 => ?_)
     refine WC_region ?_
     refine WL_val (dd := some 46) rfl rfl rfl (r_move (v := .int .i64 _) rfl) ?_
     refine WL_val (dd := some 47) rfl rfl rfl (r_neq rfl rfl) ?_
     refine WL_nil ?_
     refine hK47 _ _ ?_
     clear hK47 K46
     refine WC_cond (b := _) rfl (fun hc2 => ?_) (fun hc2 => ?_)
     ·
      try with_reducible replace hc2 := of_decide_eq_true hc2
      refine WC_seq (fun K48 hK49 => ?_)
      refine WC_region ?_
      refine WL_val (dd := some 48) rfl rfl rfl (r_move (v := .int .i64 _) rfl) ?_
      refine WL_val (dd := some 49) rfl rfl rfl (r_eql rfl rfl) ?_
      refine WL_split (dd := some 50) rfl rfl rfl (r_move (v := .bool _) rfl) (fun hs8_2 => ?_) (fun hs8_2 => ?_)
      ·
       try with_reducible replace hs8_2 := of_decide_eq_true hs8_2
       refine WL_val (dd := some 51) rfl rfl rfl (r_move (v := .int .i64 _) rfl) ?_
       refine WL_val (dd := some 52) rfl rfl rfl (r_eql rfl rfl) ?_
       refine WL_val (dd := some 53) rfl rfl rfl (r_pick_t rfl (v := .bool _) rfl) ?_
       refine WL_split (dd := some 54) rfl rfl rfl (r_move (v := .bool _) rfl) (fun hs8_6 => ?_) (fun hs8_6 => ?_)
       ·
        try with_reducible replace hs8_6 := of_decide_eq_true hs8_6
        refine WL_call (dd := some 55) rfl rfl rfl (r_call0 tb_c53) (C_drawknifelaw11_knows _) (fun v8_7 W50 hE51 hP8_7 => ?_)
        have hsz52 := (Below.size hB)
        replace hB := below_ext hB hE51 (Nat.le_refl _)
        replace hm0_0 := hE51.at hm0_0
        replace hD := Dia.ext hE51 hD
        replace hz := hE51.at hz
        clear hE51
        obtain rfl := hP8_7
        clear hsz52
        refine WL_val (dd := some 56) rfl rfl rfl (r_pick_t rfl (v := .bool true) rfl) ?_
        refine WL_val (dd := some 4) rfl rfl rfl (r_assign (v := .bool true) rfl) ?_
        refine WL_nil ?_
        refine hK49 _ _ ?_
        clear hK49 K48
        refine WC_ret ?_
        repeat (first | refine thenQ_ret ?_ | refine blockQ_ret ?_)
        try clear hK45 K44
        refine ret_t (v := .bool true) rfl ?_
        refine ⟨hB, ?_⟩
        rfl
       ·
        try with_reducible replace hs8_6 := of_decide_eq_false hs8_6
        exact absurd ((al_ers hg6_2).resolve_left hc2) hs8_6
      ·
       try with_reducible replace hs8_2 := of_decide_eq_false hs8_2
       exact absurd (by rw [hg6_2.2 hc2]; rfl) hs8_2
     ·
      try with_reducible replace hc2 := of_decide_eq_false hc2
      refine WC_skip ?_
      refine hK45 _ _ ?_
      clear hK45 K44
      refine WC_seq (fun K53 hK54 => ?_)
      have he0 : er6_2 = 0 := Decidable.of_not_not hc2
      have hI := al_is hr hg6_2 he0
      have hal := allR_len hr
      refine WC_region ?_
      refine WL_val (dd := some 58) rfl rfl rfl (r_loadW rfl tb_ag79 rfl hm0_0) ?_
      refine WL_call (dd := some 59) rfl rfl rfl (r_call1 tb_c67 (v0 := .agg #[_, _, _]) rfl) (C_multi_All S _ _  _ (Below.slT hB hon) (Below.slT hB hmay) ) (fun v9_1 W55 hE56 hP9_1 => ?_)
      have hsz57 := (Below.size hB)
      replace hB := below_ext hB hE56 (Nat.le_refl _)
      replace hm0_0 := hE56.at hm0_0
      replace hD := Dia.ext hE56 hD
      replace hz := hE56.at hz
      clear hE56
      rw [if_pos hr] at hP9_1
      obtain ⟨xl, rfl, hol⟩ := hP9_1
      replace hol := OwT.mono hol hsz57
      clear hsz57
      refine WL_val (dd := some 57) rfl rfl rfl (r_move (v := .tuple #[xl, .int .i64 0]) rfl) ?_
      refine WL_val (dd := some 60) rfl rfl rfl (r_ext2_0 (h := rfl)) ?_
      refine WL_val (dd := some 61) rfl rfl rfl (r_ext2_1 (h := rfl)) ?_
      refine WL_val (dd := some 9) rfl rfl rfl (r_assign (v := xl) rfl) ?_
      refine WL_val (dd := some 10) rfl rfl rfl (r_assign (v := .int .i64 0) rfl) ?_
      refine WL_nil ?_
      refine hK54 _ _ ?_
      clear hK54 K53
      refine WC_seq (fun K58 hK59 => ?_)
      have hw10 := hD.wf
      have hro10 := hD.room
      have hto10 := hD.top
      have hv10 := hI.v
      refine WC_region ?_
      refine WL_val (dd := some 63) rfl rfl rfl (r_move (v := .pointer (some ⟨bz, 0, none⟩)) rfl) ?_
      refine WL_val (dd := some 64) rfl rfl rfl (r_move (v := .int .i64 _) rfl) ?_
      refine WL_call (dd := some 65) rfl rfl rfl (r_call2 tb_c37 (v0 := .pointer (some ⟨bz, 0, none⟩)) rfl (v1 := .int .i64 _) rfl) (C___zdd_Zdd__List _ _ _ _ _ _ _ _ hz hD (by omega)) (fun v10_2 W60 hE61 hP10_2 => ?_)
      have hsz62 := (Below.size hB)
      replace hB := below_ext hB hE61 (Nat.le_refl _)
      replace hm0_0 := hE61.at hm0_0
      replace hD := Dia.ext hE61 hD
      replace hz := hE61.at hz
      replace hol := hE61.ow hol
      clear hE61
      obtain ⟨x10_2, rfl, hsl10_2, hty10_2⟩ := list_is hI hw10 (allR_few hr (by omega)) hP10_2
      clear hsz62
      refine WL_val (dd := some 62) rfl rfl rfl (r_move (v := .tuple #[x10_2, .int .i64 0]) rfl) ?_
      refine WL_val (dd := some 66) rfl rfl rfl (r_ext2_0 (h := rfl)) ?_
      refine WL_val (dd := some 67) rfl rfl rfl (r_ext2_1 (h := rfl)) ?_
      refine WL_val (dd := some 11) rfl rfl rfl (r_assign (v := x10_2) rfl) ?_
      refine WL_val (dd := some 12) rfl rfl rfl (r_assign (v := .int .i64 0) rfl) ?_
      refine WL_nil ?_
      refine hK59 _ _ ?_
      clear hK59 K58
      refine WC_seq (fun K63 hK64 => ?_)
      refine WC_region ?_
      refine WL_val (dd := some 69) rfl rfl rfl (r_loadW rfl tb_ag79 rfl hm0_0) ?_
      refine WL_call (dd := some 70) rfl rfl rfl (r_call2 tb_c66 (v0 := .pointer none) rfl (v1 := .agg #[_, _, _]) rfl) (C_All_nil S onV mayV _) (fun v11_1 W65 hE66 hP11_1 => ?_)
      have hsz67 := (Below.size hB)
      replace hB := below_ext hB hE66 (Nat.le_refl _)
      replace hm0_0 := hE66.at hm0_0
      replace hD := Dia.ext hE66 hD
      replace hz := hE66.at hz
      replace hol := hE66.ow hol
      replace hsl10_2 := hE66.slT hsl10_2
      replace hty10_2 := TyS.ext hE66 hty10_2
      clear hE66
      obtain rfl := hP11_1
      clear hsz67
      refine WL_val (dd := some 68) rfl rfl rfl (r_move (v := .tuple #[.int .i64 _, .int .i64 _]) rfl) ?_
      refine WL_val (dd := some 71) rfl rfl rfl (r_ext2_0 (h := rfl)) ?_
      refine WL_val (dd := some 72) rfl rfl rfl (r_ext2_1 (h := rfl)) ?_
      refine WL_val (dd := some 13) rfl rfl rfl (r_assign (v := .int .i64 _) rfl) ?_
      refine WL_val (dd := some 14) rfl rfl rfl (r_assign (v := .int .i64 _) rfl) ?_
      refine WL_nil ?_
      refine hK64 _ _ ?_
      clear hK64 K63
      refine WC_seq (fun K68 hK69 => ?_)
      have hml := allR_few hr (by omega)
      refine WC_region ?_
      refine WL_val (dd := some 73) rfl rfl rfl (r_move (v := .int .i64 0) rfl) ?_
      refine WL_val (dd := some 74) rfl rfl rfl (r_eql rfl rfl) ?_
      refine WL_split (dd := some 75) rfl rfl rfl (r_move (v := .bool _) rfl) (fun hs12_2 => ?_) (fun hs12_2 => ?_)
      ·
       try with_reducible replace hs12_2 := of_decide_eq_true hs12_2
       refine WL_val (dd := some 76) rfl rfl rfl (r_move (v := .int .i64 0) rfl) ?_
       refine WL_val (dd := some 77) rfl rfl rfl (r_eql rfl rfl) ?_
       refine WL_val (dd := some 78) rfl rfl rfl (r_pick_t rfl (v := .bool _) rfl) ?_
       refine WL_split (dd := some 79) rfl rfl rfl (r_move (v := .bool _) rfl) (fun hs12_6 => ?_) (fun hs12_6 => ?_)
       ·
        try with_reducible replace hs12_6 := of_decide_eq_true hs12_6
        refine WL_val (dd := some 80) rfl rfl rfl (r_move (v := .int .i64 _) rfl) ?_
        refine WL_val (dd := some 81) rfl rfl rfl (r_eql rfl rfl) ?_
        refine WL_val (dd := some 82) rfl rfl rfl (r_pick_t rfl (v := .bool _) rfl) ?_
        refine WL_split (dd := some 83) rfl rfl rfl (r_move (v := .bool _) rfl) (fun hs12_10 => ?_) (fun hs12_10 => ?_)
        ·
         try with_reducible replace hs12_10 := of_decide_eq_true hs12_10
         refine WL_val (dd := some 84) rfl rfl rfl (r_move (v := x10_2) rfl) ?_
         refine WL_val (dd := some 85) rfl rfl rfl (r_move (v := xl) rfl) ?_
         refine WL_call (dd := some 86) rfl rfl rfl (r_call1 tb_c63 (v0 := xl) rfl) (C_drawkniferef11_Members _ (allR S) _ hol.sl (by omega) (allR_lt hr)) (fun v12_13 W70 hE71 hP12_13 => ?_)
         have hsz72 := (Below.size hB)
         replace hB := below_ext hB hE71 (Nat.le_refl _)
         replace hm0_0 := hE71.at hm0_0
         replace hD := Dia.ext hE71 hD
         replace hz := hE71.at hz
         replace hol := hE71.ow hol
         replace hsl10_2 := hE71.slT hsl10_2
         replace hty10_2 := TyS.ext hE71 hty10_2
         clear hE71
         replace hP12_13 := OwT.mono hP12_13 hsz72
         clear hsz72
         refine WL_call (dd := some 87) rfl rfl rfl (r_call2 tb_c24 (v0 := x10_2) rfl (v1 := v12_13) rfl) (C_drawkniferef08_Same _ _ (memsT (allR S) (allR S).length) (memsT (allR S) (allR S).length) _ hsl10_2 hP12_13.sl (by omega) (by have := mems_len (allR S) (allR S).length; omega)) (fun v12_14 W73 hE74 hP12_14 => ?_)
         have hsz75 := (Below.size hB)
         replace hB := below_ext hB hE74 (Nat.le_refl _)
         replace hm0_0 := hE74.at hm0_0
         replace hD := Dia.ext hE74 hD
         replace hz := hE74.at hz
         replace hol := hE74.ow hol
         replace hsl10_2 := hE74.slT hsl10_2
         replace hty10_2 := TyS.ext hE74 hty10_2
         replace hP12_13 := hE74.ow hP12_13
         clear hE74
         clear hsz75
         obtain rfl := hP12_14
         refine WL_val (dd := some 88) rfl rfl rfl (r_pick_t rfl (v := .bool _) rfl) ?_
         refine WL_split (dd := some 89) rfl rfl rfl (r_move (v := .bool _) rfl) (fun hs12_16 => ?_) (fun hs12_16 => ?_)
         ·
          try with_reducible replace hs12_16 := of_decide_eq_true hs12_16
          refine WL_call (dd := some 90) rfl rfl rfl (r_call0 tb_c53) (C_drawknifelaw11_knows _) (fun v12_17 W76 hE77 hP12_17 => ?_)
          have hsz78 := (Below.size hB)
          replace hB := below_ext hB hE77 (Nat.le_refl _)
          replace hm0_0 := hE77.at hm0_0
          replace hD := Dia.ext hE77 hD
          replace hz := hE77.at hz
          replace hol := hE77.ow hol
          replace hsl10_2 := hE77.slT hsl10_2
          replace hty10_2 := TyS.ext hE77 hty10_2
          replace hP12_13 := hE77.ow hP12_13
          clear hE77
          obtain rfl := hP12_17
          clear hsz78
          refine WL_val (dd := some 91) rfl rfl rfl (r_pick_t rfl (v := .bool true) rfl) ?_
          refine WL_val (dd := some 4) rfl rfl rfl (r_assign (v := .bool true) rfl) ?_
          refine WL_nil ?_
          refine hK69 _ _ ?_
          clear hK69 K68
          refine WC_ret ?_
          repeat (first | refine thenQ_ret ?_ | refine blockQ_ret ?_)
          refine ret_t (v := .bool true) rfl ?_
          refine ⟨hB, ?_⟩
          rfl
         ·
          try with_reducible replace hs12_16 := of_decide_eq_false hs12_16
          exact absurd rfl hs12_16
        ·
         try with_reducible replace hs12_10 := of_decide_eq_false hs12_10
         exact absurd rfl hs12_10
       ·
        try with_reducible replace hs12_6 := of_decide_eq_false hs12_6
        exact absurd rfl hs12_6
      ·
       try with_reducible replace hs12_2 := of_decide_eq_false hs12_2
       exact absurd rfl hs12_2

end Go.Proofs.Ytpamgfbecgjjeaa
