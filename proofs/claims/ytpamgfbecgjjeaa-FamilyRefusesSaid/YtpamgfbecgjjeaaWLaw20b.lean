/-
  The walks of the statements about more deeds with families, part two.
-/
import Derived.Test.YtpamgfbecgjjeaaProg
import Derived.Test.YtpamgfbecgjjeaaWLaw20
namespace Go.Proofs.Ytpamgfbecgjjeaa
set_option linter.unusedVariables false
set_option linter.unusedSimpArgs false
open Go Go.RowKit

theorem tb_c26 : callB Try.prog 26 = true := by kernel_rfl

set_option maxRecDepth 10000 in
theorem C_drawknifelaw20_FamilyBack (xf : Value) (f : List Int) (xg : Value) (g : List Int) (w : World) (hf : SlT encI 1 w xf f) (hg : SlT encI 1 w xg g) :
    Fn Try.prog 11 #[xf, xg] w fun v w' => v = .bool true := by
 refine Fn_intro (n := 103) Try.func11 rfl rfl (Nat.le_of_ble_eq_true rfl) ?_
 have hB : Below w.heap.size w w := Below.refl _ _
 refine WC_seq (fun K1 hK2 => ?_)
 refine WC_region ?_
 refine WL_val (dd := some 4) rfl rfl rfl (r_assign (v := .bool false) rfl) ?_
 refine WL_nil ?_
 refine hK2 _ _ ?_
 clear hK2 K1
 refine WC_seq (fun K3 hK4 => ?_)
 refine WC_region ?_
 refine WL_val (dd := some 19) rfl rfl rfl (r_move (v := xf) rfl) ?_
 refine WL_val (dd := some 20) rfl rfl rfl (r_move (v := xg) rfl) ?_
 refine WL_call (dd := some 21) rfl rfl rfl (r_call2 tb_c43 (v0 := xf) rfl (v1 := xg) rfl) (C_drawknifelaw20_start _ _ _ _ _ (Below.slT hB hf) (Below.slT hB hg)) (fun v1_2 W5 hE6 hP1_2 => ?_)
 have hsz7 := (Below.size hB)
 replace hB := below_ext hB hE6 (Nat.le_refl _)
 clear hE6
 have hszS := hsz7
 rcases hP1_2 with hP1_2 | hP1_2
 clear hsz7
 ·
  obtain ⟨hok, bz, ba, bm, a, b, ns1_2, rfl, hz, hD, hIa, hIb, hnl⟩ := hP1_2
  replace hD := Dia.mono hD hszS
  have hfl := hok.lf
  have hgl := hok.lg
  have hof := hok.f
  have hog := hok.g
  have hif := ofB_mem hof
  have hig := ofB_mem hog
  have hxl := ofI_len f
  have hyl := ofI_len g
  have hfn := fun k => few_len (f := f) (g := g) k hof hog
  refine WL_val (dd := some 18) rfl rfl rfl (r_move (v := .tuple #[.pointer (some ⟨bz, 0, none⟩), .int .i64 (a : Int), .int .i64 (b : Int), .bool true]) rfl) ?_
  refine WL_val (dd := some 22) rfl rfl rfl (r_ext4_0 (h := rfl)) ?_
  refine WL_val (dd := some 23) rfl rfl rfl (r_ext4_1 (h := rfl)) ?_
  refine WL_val (dd := some 24) rfl rfl rfl (r_ext4_2 (h := rfl)) ?_
  refine WL_val (dd := some 25) rfl rfl rfl (r_ext4_3 (h := rfl)) ?_
  refine WL_val (dd := some 5) rfl rfl rfl (r_assign (v := .pointer (some ⟨bz, 0, none⟩)) rfl) ?_
  refine WL_val (dd := some 6) rfl rfl rfl (r_assign (v := .int .i64 _) rfl) ?_
  refine WL_val (dd := some 7) rfl rfl rfl (r_assign (v := .int .i64 _) rfl) ?_
  refine WL_val (dd := some 8) rfl rfl rfl (r_assign (v := .bool true) rfl) ?_
  refine WL_nil ?_
  refine hK4 _ _ ?_
  clear hK4 K3
  refine WC_seq (fun K8 hK9 => ?_)
  refine WC_seq (fun K10 hK11 => ?_)
  refine WC_region ?_
  refine WL_val (dd := some 26) rfl rfl rfl (r_move (v := .bool true) rfl) ?_
  refine WL_val (dd := some 27) rfl rfl rfl (r_move (v := .bool true) rfl) ?_
  refine WL_val (dd := some 28) rfl rfl rfl (r_move (v := xf) rfl) ?_
  refine WL_val (dd := some 29) rfl rfl rfl (r_move (v := xg) rfl) ?_
  refine WL_call (dd := some 30) rfl rfl rfl (r_call2 tb_c48 (v0 := xf) rfl (v1 := xg) rfl) (C_drawknifelaw20_few _ _ _ _ _ (Below.slT hB hf) (Below.slT hB hg)) (fun v2_4 W12 hE13 hP2_4 => ?_)
  have hsz14 := (Below.size hB)
  replace hB := below_ext hB hE13 (Nat.le_refl _)
  replace hD := Dia.ext hE13 hD
  replace hz := hE13.at hz
  clear hE13
  clear hsz14
  obtain rfl := hP2_4
  refine WL_val (dd := some 31) rfl rfl rfl (r_not rfl) ?_
  refine WL_val (dd := some 32) rfl rfl rfl (r_pick_t rfl (v := .bool _) rfl) ?_
  refine WL_nil ?_
  refine hK11 _ _ ?_
  clear hK11 K10
  refine WC_cond (b := _) rfl (fun hc0 => ?_) (fun hc0 => ?_)
  ·
   try with_reducible replace hc0 := of_decide_eq_true hc0
   refine WC_seq (fun K15 hK16 => ?_)
   refine WC_region ?_
   refine WL_call (dd := some 33) rfl rfl rfl (r_call0 tb_c44) (C_drawknifelaw20_knows _) (fun v3_0 W17 hE18 hP3_0 => ?_)
   have hsz19 := (Below.size hB)
   replace hB := below_ext hB hE18 (Nat.le_refl _)
   replace hD := Dia.ext hE18 hD
   replace hz := hE18.at hz
   clear hE18
   obtain rfl := hP3_0
   clear hsz19
   refine WL_val (dd := some 4) rfl rfl rfl (r_assign (v := .bool true) rfl) ?_
   refine WL_nil ?_
   refine hK16 _ _ ?_
   clear hK16 K15
   refine WC_ret ?_
   repeat (first | refine thenQ_ret ?_ | refine blockQ_ret ?_)
   try clear hK9 K8
   refine ret_t (v := .bool true) rfl ?_
   refine ⟨hB, ?_⟩
   rfl
  ·
   try with_reducible replace hc0 := of_decide_eq_false hc0
   refine WC_skip ?_
   refine hK9 _ _ ?_
   clear hK9 K8
   refine WC_seq (fun K20 hK21 => ?_)
   refine WC_seq (fun K22 hK23 => ?_)
   refine WC_region ?_
   refine WL_val (dd := some 34) rfl rfl rfl (r_move (v := .bool true) rfl) ?_
   refine WL_val (dd := some 35) rfl rfl rfl (r_not rfl) ?_
   refine WL_val (dd := some 36) rfl rfl rfl (r_move (v := .bool false) rfl) ?_
   refine WL_val (dd := some 37) rfl rfl rfl (r_move (v := .pointer (some ⟨bz, 0, none⟩)) rfl) ?_
   refine WL_val (dd := some 38) rfl rfl rfl (r_ptrNil rfl rfl Try.underlying24) ?_
   refine WL_val (dd := some 39) rfl rfl rfl (r_pick_f rfl (v := .bool false) rfl) ?_
   refine WL_nil ?_
   refine hK23 _ _ ?_
   clear hK23 K22
   refine WC_cond_false rfl ?_
   refine WC_skip ?_
   refine hK21 _ _ ?_
   clear hK21 K20
   refine WC_seq (fun K24 hK25 => ?_)
   have hnf : fewB f g = true := by simpa using hc0
   have hnn := hfn hnf
   have hw0 := hD.wf
   have hSa := few_s1 hnf hw0 hIa
   have hSb := few_s2 hnf hw0 hIb
   refine WC_region ?_
   refine WL_val (dd := some 46) rfl rfl rfl (r_move (v := .pointer (some ⟨bz, 0, none⟩)) rfl) ?_
   refine WL_val (dd := some 47) rfl rfl rfl (r_move (v := .int .i64 _) rfl) ?_
   refine WL_val (dd := some 48) rfl rfl rfl (r_move (v := .int .i64 _) rfl) ?_
   refine WL_callG (dd := some 49) rfl rfl rfl (r_call3 tb_c45 (v0 := .pointer (some ⟨bz, 0, none⟩)) rfl (v1 := .int .i64 _) rfl (v2 := .int .i64 _) rfl) (C_DivideX _ _ _ _ _ _ a b _ (Below.size hB) hz hD hIa.v hIb.v (by have := hSb.n; omega)) (fun v6_3 W26 hP6_3 => ?_)
   obtain ⟨ns6_3, q6_3, r6_3, er6_3, rfl, hx6_3, hDn6_3, hg6_3⟩ := hP6_3
   replace hB := Below.dx hB (Nat.le_refl _) (Nat.le_refl _) hx6_3
   replace hz := At.dx hD hx6_3 hz (by decide) (by decide)
   replace hD := hDn6_3
   refine WL_val (dd := some 45) rfl rfl rfl (r_move (v := .tuple #[.int .i64 (q6_3 : Int), .int .i64 (r6_3 : Int), .int .i64 er6_3]) rfl) ?_
   refine WL_val (dd := some 50) rfl rfl rfl (r_ext3_0 (h := rfl)) ?_
   refine WL_val (dd := some 51) rfl rfl rfl (r_ext3_1 (h := rfl)) ?_
   refine WL_val (dd := some 52) rfl rfl rfl (r_ext3_2 (h := rfl)) ?_
   refine WL_val (dd := some 9) rfl rfl rfl (r_assign (v := .int .i64 _) rfl) ?_
   refine WL_val (dd := some 10) rfl rfl rfl (r_assign (v := .int .i64 _) rfl) ?_
   refine WL_val (dd := some 11) rfl rfl rfl (r_assign (v := .int .i64 _) rfl) ?_
   refine WL_nil ?_
   refine hK25 _ _ ?_
   clear hK25 K24
   refine WC_seq (fun K28 hK29 => ?_)
   refine WC_seq (fun K30 hK31 => ?_)
   refine WC_region ?_
   refine WL_val (dd := some 53) rfl rfl rfl (r_move (v := .int .i64 _) rfl) ?_
   refine WL_val (dd := some 54) rfl rfl rfl (r_neq rfl rfl) ?_
   refine WL_nil ?_
   refine hK31 _ _ ?_
   clear hK31 K30
   refine WC_cond (b := _) rfl (fun hc2 => ?_) (fun hc2 => ?_)
   ·
    try with_reducible replace hc2 := of_decide_eq_true hc2
    refine WC_seq (fun K32 hK33 => ?_)
    have hb0 : b = 0 := Decidable.byContradiction fun h => hc2 (dv_rm (dvx_ok hg6_3 h) hSa hSb (by omega)).1
    refine WC_region ?_
    refine WL_val (dd := some 55) rfl rfl rfl (r_move (v := .int .i64 _) rfl) ?_
    refine WL_val (dd := some 56) rfl rfl rfl (r_eql rfl rfl) ?_
    refine WL_split (dd := some 57) rfl rfl rfl (r_move (v := .bool _) rfl) (fun hs8_2 => ?_) (fun hs8_2 => ?_)
    ·
     try with_reducible replace hs8_2 := of_decide_eq_true hs8_2
     refine WL_call (dd := some 58) rfl rfl rfl (r_call0 tb_c44) (C_drawknifelaw20_knows _) (fun v8_3 W34 hE35 hP8_3 => ?_)
     have hsz36 := (Below.size hB)
     replace hB := below_ext hB hE35 (Nat.le_refl _)
     replace hD := Dia.ext hE35 hD
     replace hz := hE35.at hz
     clear hE35
     obtain rfl := hP8_3
     clear hsz36
     refine WL_val (dd := some 59) rfl rfl rfl (r_pick_t rfl (v := .bool true) rfl) ?_
     refine WL_val (dd := some 4) rfl rfl rfl (r_assign (v := .bool true) rfl) ?_
     refine WL_nil ?_
     refine hK33 _ _ ?_
     clear hK33 K32
     refine WC_ret ?_
     repeat (first | refine thenQ_ret ?_ | refine blockQ_ret ?_)
     try clear hK29 K28
     refine ret_t (v := .bool true) rfl ?_
     refine ⟨hB, ?_⟩
     rfl
    ·
     try with_reducible replace hs8_2 := of_decide_eq_false hs8_2
     omega
   ·
    try with_reducible replace hc2 := of_decide_eq_false hc2
    refine WC_skip ?_
    refine hK29 _ _ ?_
    clear hK29 K28
    refine WC_seq (fun K37 hK38 => ?_)
    have he0 : er6_3 = 0 := Decidable.of_not_not hc2
    have hb0 : ¬ b = 0 := fun h => by have := (dvx_er hg6_3 h).2.2.1; omega
    have hdv := dvx_ok hg6_3 hb0
    have hB0 := is_ne hIb hb0 hw0
    obtain ⟨_, hl6⟩ := dv_rm hdv hSa hSb (by omega)
    have hIq := (dv_outq hdv hw0 hIa hIb hB0).is he0
    have hIr := (dv_outr hdv hw0 hIa hIb hB0).is he0
    replace hIa := hIa.pre hdv.pre
    replace hIb := hIb.pre hdv.pre
    have hm1 := few_sm1 hnf
    have hm2 := few_sm2 hnf
    have hmq := sml_quo hm1 hig hB0
    have hmr := sml_pick (B := (ofI (allJ (ofI (quoL (ofI f) (ofI g) (ofI f).length)) (ofI g)))) (b := false) hm1
    have ht8 : tri 8 * (10 * 10) = 3600 := by decide
    refine WC_region ?_
    refine WL_val (dd := some 61) rfl rfl rfl (r_move (v := .pointer (some ⟨bz, 0, none⟩)) rfl) ?_
    refine WL_val (dd := some 62) rfl rfl rfl (r_move (v := .int .i64 _) rfl) ?_
    refine WL_val (dd := some 63) rfl rfl rfl (r_move (v := .int .i64 _) rfl) ?_
    have hw9_3 := hD.wf
    refine WL_callG (dd := some 64) rfl rfl rfl (r_call3 tb_c23 (v0 := .pointer (some ⟨bz, 0, none⟩)) rfl (v1 := .int .i64 _) rfl (v2 := .int .i64 _) rfl) (C___zdd_Zdd__Join _ _ _ _ _ _ _ _ _ (Below.size hB) hz hD hIq.v hIb.v) (fun v9_3 W39 hP9_3 => ?_)
    obtain ⟨ns9_3, id9_3, er9_3, rfl, hx9_3, hDn9_3, hg9_3⟩ := hP9_3
    replace hB := Below.dx hB (Nat.le_refl _) (Nat.le_refl _) hx9_3
    replace hz := At.dx hD hx9_3 hz (by decide) (by decide)
    replace hD := hDn9_3
    refine WL_val (dd := some 60) rfl rfl rfl (r_move (v := .tuple #[.int .i64 (id9_3 : Int), .int .i64 er9_3]) rfl) ?_
    refine WL_val (dd := some 65) rfl rfl rfl (r_ext2_0 (h := rfl)) ?_
    refine WL_val (dd := some 66) rfl rfl rfl (r_ext2_1 (h := rfl)) ?_
    refine WL_val (dd := some 12) rfl rfl rfl (r_assign (v := .int .i64 _) rfl) ?_
    refine WL_val (dd := some 13) rfl rfl rfl (r_assign (v := .int .i64 _) rfl) ?_
    refine WL_nil ?_
    refine hK38 _ _ ?_
    clear hK38 K37
    refine WC_seq (fun K41 hK42 => ?_)
    obtain ⟨he9, hIj, hp9, hl9⟩ := roomT_J hg9_3 hw9_3 hIq hIb 8 10 10 (sml_tp hmq.t hIq) (sml_tp hm2.t hIb) hmq.n hm2.n (by omega)
    subst he9
    replace hIa := hIa.pre hp9
    replace hIr := hIr.pre hp9
    refine WC_region ?_
    refine WL_val (dd := some 68) rfl rfl rfl (r_move (v := .pointer (some ⟨bz, 0, none⟩)) rfl) ?_
    refine WL_val (dd := some 69) rfl rfl rfl (r_move (v := .int .i64 _) rfl) ?_
    refine WL_val (dd := some 70) rfl rfl rfl (r_move (v := .int .i64 _) rfl) ?_
    have hw10_3 := hD.wf
    refine WL_callG (dd := some 71) rfl rfl rfl (r_call3 tb_c33 (v0 := .pointer (some ⟨bz, 0, none⟩)) rfl (v1 := .int .i64 _) rfl (v2 := .int .i64 _) rfl) (C___zdd_Zdd__Union _ _ _ _ _ _ _ _ _ (Below.size hB) hz hD hIj.v hIr.v) (fun v10_3 W43 hP10_3 => ?_)
    obtain ⟨ns10_3, id10_3, er10_3, rfl, hx10_3, hDn10_3, hg10_3⟩ := hP10_3
    replace hB := Below.dx hB (Nat.le_refl _) (Nat.le_refl _) hx10_3
    replace hz := At.dx hD hx10_3 hz (by decide) (by decide)
    replace hD := hDn10_3
    refine WL_val (dd := some 67) rfl rfl rfl (r_move (v := .tuple #[.int .i64 (id10_3 : Int), .int .i64 er10_3]) rfl) ?_
    refine WL_val (dd := some 72) rfl rfl rfl (r_ext2_0 (h := rfl)) ?_
    refine WL_val (dd := some 73) rfl rfl rfl (r_ext2_1 (h := rfl)) ?_
    refine WL_val (dd := some 14) rfl rfl rfl (r_assign (v := .int .i64 _) rfl) ?_
    refine WL_val (dd := some 15) rfl rfl rfl (r_assign (v := .int .i64 _) rfl) ?_
    refine WL_nil ?_
    refine hK42 _ _ ?_
    clear hK42 K41
    refine WC_seq (fun K45 hK46 => ?_)
    obtain ⟨he10, hIu, hp10, hl10⟩ := roomT_U hg10_3 hw10_3 hIj hIr 8 10 (sml_tp (sml_jo hm1 (inc_ofI f)) hIj) (sml_tp hmr.t hIr) (.inr hmr.n) (by omega)
    subst he10
    replace hIa := hIa.pre hp10
    replace hIr := hIr.pre hp10
    replace hIj := hIj.pre hp10
    rw [back_un (inc_ofI f) (fun x hx => jo_sub (inc_ofI f) hx)] at hIu
    refine WC_region ?_
    refine WL_val (dd := some 75) rfl rfl rfl (r_move (v := .pointer (some ⟨bz, 0, none⟩)) rfl) ?_
    refine WL_val (dd := some 76) rfl rfl rfl (r_move (v := .int .i64 _) rfl) ?_
    refine WL_val (dd := some 77) rfl rfl rfl (r_move (v := .int .i64 _) rfl) ?_
    have hw11_3 := hD.wf
    refine WL_callG (dd := some 78) rfl rfl rfl (r_call3 tb_c34 (v0 := .pointer (some ⟨bz, 0, none⟩)) rfl (v1 := .int .i64 _) rfl (v2 := .int .i64 _) rfl) (C___zdd_Zdd__Meet _ _ _ _ _ _ _ _ _ (Below.size hB) hz hD hIj.v hIr.v) (fun v11_3 W47 hP11_3 => ?_)
    obtain ⟨ns11_3, id11_3, er11_3, rfl, hx11_3, hDn11_3, hg11_3⟩ := hP11_3
    replace hB := Below.dx hB (Nat.le_refl _) (Nat.le_refl _) hx11_3
    replace hz := At.dx hD hx11_3 hz (by decide) (by decide)
    replace hD := hDn11_3
    refine WL_val (dd := some 74) rfl rfl rfl (r_move (v := .tuple #[.int .i64 (id11_3 : Int), .int .i64 er11_3]) rfl) ?_
    refine WL_val (dd := some 79) rfl rfl rfl (r_ext2_0 (h := rfl)) ?_
    refine WL_val (dd := some 80) rfl rfl rfl (r_ext2_1 (h := rfl)) ?_
    refine WL_val (dd := some 16) rfl rfl rfl (r_assign (v := .int .i64 _) rfl) ?_
    refine WL_val (dd := some 17) rfl rfl rfl (r_assign (v := .int .i64 _) rfl) ?_
    refine WL_nil ?_
    refine hK46 _ _ ?_
    clear hK46 K45
    refine WC_seq (fun K49 hK50 => ?_)
    obtain ⟨he11, hIm, hp11, hl11⟩ := roomT_M hg11_3 hw11_3 hIj hIr 8 10 (sml_tp (sml_jo hm1 (inc_ofI f)) hIj) (sml_tp hmr.t hIr) (.inr hmr.n) (by omega)
    subst he11
    replace hIa := hIa.pre hp11
    replace hIu := hIu.pre hp11
    rw [back_me] at hIm
    have hw12 := hD.wf
    refine WC_region ?_
    refine WL_val (dd := some 81) rfl rfl rfl (r_move (v := .int .i64 _) rfl) ?_
    refine WL_val (dd := some 82) rfl rfl rfl (r_eql rfl rfl) ?_
    refine WL_split (dd := some 83) rfl rfl rfl (r_move (v := .bool _) rfl) (fun hs12_2 => ?_) (fun hs12_2 => ?_)
    ·
     try with_reducible replace hs12_2 := of_decide_eq_true hs12_2
     refine WL_val (dd := some 84) rfl rfl rfl (r_move (v := .int .i64 _) rfl) ?_
     refine WL_val (dd := some 85) rfl rfl rfl (r_eql rfl rfl) ?_
     refine WL_val (dd := some 86) rfl rfl rfl (r_pick_t rfl (v := .bool _) rfl) ?_
     refine WL_split (dd := some 87) rfl rfl rfl (r_move (v := .bool _) rfl) (fun hs12_6 => ?_) (fun hs12_6 => ?_)
     ·
      try with_reducible replace hs12_6 := of_decide_eq_true hs12_6
      refine WL_val (dd := some 88) rfl rfl rfl (r_move (v := .int .i64 _) rfl) ?_
      refine WL_val (dd := some 89) rfl rfl rfl (r_eql rfl rfl) ?_
      refine WL_val (dd := some 90) rfl rfl rfl (r_pick_t rfl (v := .bool _) rfl) ?_
      refine WL_split (dd := some 91) rfl rfl rfl (r_move (v := .bool _) rfl) (fun hs12_10 => ?_) (fun hs12_10 => ?_)
      ·
       try with_reducible replace hs12_10 := of_decide_eq_true hs12_10
       refine WL_val (dd := some 92) rfl rfl rfl (r_move (v := .int .i64 _) rfl) ?_
       refine WL_val (dd := some 93) rfl rfl rfl (r_move (v := .int .i64 _) rfl) ?_
       refine WL_val (dd := some 94) rfl rfl rfl (r_eql rfl rfl) ?_
       refine WL_val (dd := some 95) rfl rfl rfl (r_pick_t rfl (v := .bool _) rfl) ?_
       refine WL_split (dd := some 96) rfl rfl rfl (r_move (v := .bool _) rfl) (fun hs12_15 => ?_) (fun hs12_15 => ?_)
       ·
        try with_reducible replace hs12_15 := of_decide_eq_true hs12_15
        refine WL_val (dd := some 97) rfl rfl rfl (r_move (v := .int .i64 _) rfl) ?_
        refine WL_val (dd := some 98) rfl rfl rfl (r_eql rfl rfl) ?_
        refine WL_val (dd := some 99) rfl rfl rfl (r_pick_t rfl (v := .bool _) rfl) ?_
        refine WL_split (dd := some 100) rfl rfl rfl (r_move (v := .bool _) rfl) (fun hs12_19 => ?_) (fun hs12_19 => ?_)
        ·
         try with_reducible replace hs12_19 := of_decide_eq_true hs12_19
         refine WL_call (dd := some 101) rfl rfl rfl (r_call0 tb_c44) (C_drawknifelaw20_knows _) (fun v12_20 W51 hE52 hP12_20 => ?_)
         have hsz53 := (Below.size hB)
         replace hB := below_ext hB hE52 (Nat.le_refl _)
         replace hD := Dia.ext hE52 hD
         replace hz := hE52.at hz
         clear hE52
         obtain rfl := hP12_20
         clear hsz53
         refine WL_val (dd := some 102) rfl rfl rfl (r_pick_t rfl (v := .bool true) rfl) ?_
         refine WL_val (dd := some 4) rfl rfl rfl (r_assign (v := .bool true) rfl) ?_
         refine WL_nil ?_
         refine hK50 _ _ ?_
         clear hK50 K49
         refine WC_ret ?_
         repeat (first | refine thenQ_ret ?_ | refine blockQ_ret ?_)
         refine ret_t (v := .bool true) rfl ?_
         refine ⟨hB, ?_⟩
         rfl
        ·
         try with_reducible replace hs12_19 := of_decide_eq_false hs12_19
         exact absurd (by rw [is_nil hIm hw12]; rfl) hs12_19
       ·
        try with_reducible replace hs12_15 := of_decide_eq_false hs12_15
        exact absurd (hIu.eq hIa hw12 rfl) hs12_15
      ·
       try with_reducible replace hs12_10 := of_decide_eq_false hs12_10
       exact absurd rfl hs12_10
     ·
      try with_reducible replace hs12_6 := of_decide_eq_false hs12_6
      exact absurd rfl hs12_6
    ·
     try with_reducible replace hs12_2 := of_decide_eq_false hs12_2
     exact absurd rfl hs12_2
 ·
  obtain rfl := hP1_2
  refine WL_val (dd := some 18) rfl rfl rfl (r_move (v := .tuple #[.pointer none, .int .i64 0, .int .i64 0, .bool false]) rfl) ?_
  refine WL_val (dd := some 22) rfl rfl rfl (r_ext4_0 (h := rfl)) ?_
  refine WL_val (dd := some 23) rfl rfl rfl (r_ext4_1 (h := rfl)) ?_
  refine WL_val (dd := some 24) rfl rfl rfl (r_ext4_2 (h := rfl)) ?_
  refine WL_val (dd := some 25) rfl rfl rfl (r_ext4_3 (h := rfl)) ?_
  refine WL_val (dd := some 5) rfl rfl rfl (r_assign (v := .pointer none) rfl) ?_
  refine WL_val (dd := some 6) rfl rfl rfl (r_assign (v := .int .i64 0) rfl) ?_
  refine WL_val (dd := some 7) rfl rfl rfl (r_assign (v := .int .i64 0) rfl) ?_
  refine WL_val (dd := some 8) rfl rfl rfl (r_assign (v := .bool false) rfl) ?_
  refine WL_nil ?_
  refine hK4 _ _ ?_
  clear hK4 K3
  refine WC_seq (fun K54 hK55 => ?_)
  refine WC_seq (fun K56 hK57 => ?_)
  refine WC_region ?_
  refine WL_val (dd := some 26) rfl rfl rfl (r_move (v := .bool false) rfl) ?_
  refine WL_val (dd := some 27) rfl rfl rfl (r_move (v := .bool false) rfl) ?_
  refine WL_skip (dd := some 28) rfl rfl rfl ?_
  refine WL_skip (dd := some 29) rfl rfl rfl ?_
  refine WL_skip (dd := some 30) rfl rfl rfl ?_
  refine WL_skip (dd := some 31) rfl rfl rfl ?_
  refine WL_val (dd := some 32) rfl rfl rfl (r_pick_f rfl (v := .bool false) rfl) ?_
  refine WL_nil ?_
  refine hK57 _ _ ?_
  clear hK57 K56
  refine WC_cond_false rfl ?_
  refine WC_skip ?_
  refine hK55 _ _ ?_
  clear hK55 K54
  refine WC_seq (fun K58 hK59 => ?_)
  refine WC_seq (fun K60 hK61 => ?_)
  refine WC_region ?_
  refine WL_val (dd := some 34) rfl rfl rfl (r_move (v := .bool false) rfl) ?_
  refine WL_val (dd := some 35) rfl rfl rfl (r_not rfl) ?_
  refine WL_val (dd := some 36) rfl rfl rfl (r_move (v := .bool true) rfl) ?_
  refine WL_skip (dd := some 37) rfl rfl rfl ?_
  refine WL_skip (dd := some 38) rfl rfl rfl ?_
  refine WL_val (dd := some 39) rfl rfl rfl (r_pick_t rfl (v := .bool true) rfl) ?_
  refine WL_nil ?_
  refine hK61 _ _ ?_
  clear hK61 K60
  refine WC_cond_true rfl ?_
  refine WC_seq (fun K62 hK63 => ?_)
  refine WC_region ?_
  refine WL_val (dd := some 40) rfl rfl rfl (r_move (v := .bool false) rfl) ?_
  refine WL_val (dd := some 41) rfl rfl rfl (r_not rfl) ?_
  refine WL_val (dd := some 42) rfl rfl rfl (r_move (v := .bool true) rfl) ?_
  refine WL_call (dd := some 43) rfl rfl rfl (r_call0 tb_c44) (C_drawknifelaw20_knows _) (fun v5_3 W64 hE65 hP5_3 => ?_)
  have hsz66 := (Below.size hB)
  replace hB := below_ext hB hE65 (Nat.le_refl _)
  clear hE65
  obtain rfl := hP5_3
  clear hsz66
  refine WL_val (dd := some 44) rfl rfl rfl (r_pick_t rfl (v := .bool true) rfl) ?_
  refine WL_val (dd := some 4) rfl rfl rfl (r_assign (v := .bool true) rfl) ?_
  refine WL_nil ?_
  refine hK63 _ _ ?_
  clear hK63 K62
  refine WC_ret ?_
  repeat (first | refine thenQ_ret ?_ | refine blockQ_ret ?_)
  try clear hK59 K58
  refine ret_t (v := .bool true) rfl ?_
  refine ⟨hB, ?_⟩
  rfl

set_option maxRecDepth 10000 in
theorem C_drawknifelaw20_FamilyParts (xf : Value) (f : List Int) (xg : Value) (g : List Int) (w : World) (hf : SlT encI 1 w xf f) (hg : SlT encI 1 w xg g) :
    Fn Try.prog 16 #[xf, xg] w fun v w' => v = .bool true := by
 refine Fn_intro (n := 158) Try.func16 rfl rfl (Nat.le_of_ble_eq_true rfl) ?_
 have hB : Below w.heap.size w w := Below.refl _ _
 refine WC_seq (fun K1 hK2 => ?_)
 refine WC_region ?_
 refine WL_val (dd := some 4) rfl rfl rfl (r_assign (v := .bool false) rfl) ?_
 refine WL_nil ?_
 refine hK2 _ _ ?_
 clear hK2 K1
 refine WC_seq (fun K3 hK4 => ?_)
 refine WC_region ?_
 refine WL_val (dd := some 26) rfl rfl rfl (r_move (v := xf) rfl) ?_
 refine WL_val (dd := some 27) rfl rfl rfl (r_move (v := xg) rfl) ?_
 refine WL_call (dd := some 28) rfl rfl rfl (r_call2 tb_c43 (v0 := xf) rfl (v1 := xg) rfl) (C_drawknifelaw20_start _ _ _ _ _ (Below.slT hB hf) (Below.slT hB hg)) (fun v1_2 W5 hE6 hP1_2 => ?_)
 have hsz7 := (Below.size hB)
 replace hB := below_ext hB hE6 (Nat.le_refl _)
 clear hE6
 have hszS := hsz7
 rcases hP1_2 with hP1_2 | hP1_2
 clear hsz7
 ·
  obtain ⟨hok, bz, ba, bm, a, b, ns1_2, rfl, hz, hD, hIa, hIb, hnl⟩ := hP1_2
  replace hD := Dia.mono hD hszS
  have hfl := hok.lf
  have hgl := hok.lg
  have hof := hok.f
  have hog := hok.g
  have hif := ofB_mem hof
  have hig := ofB_mem hog
  have hxl := ofI_len f
  have hyl := ofI_len g
  have hfn := fun k => few_len (f := f) (g := g) k hof hog
  refine WL_val (dd := some 25) rfl rfl rfl (r_move (v := .tuple #[.pointer (some ⟨bz, 0, none⟩), .int .i64 (a : Int), .int .i64 (b : Int), .bool true]) rfl) ?_
  refine WL_val (dd := some 29) rfl rfl rfl (r_ext4_0 (h := rfl)) ?_
  refine WL_val (dd := some 30) rfl rfl rfl (r_ext4_1 (h := rfl)) ?_
  refine WL_val (dd := some 31) rfl rfl rfl (r_ext4_2 (h := rfl)) ?_
  refine WL_val (dd := some 32) rfl rfl rfl (r_ext4_3 (h := rfl)) ?_
  refine WL_val (dd := some 5) rfl rfl rfl (r_assign (v := .pointer (some ⟨bz, 0, none⟩)) rfl) ?_
  refine WL_val (dd := some 6) rfl rfl rfl (r_assign (v := .int .i64 _) rfl) ?_
  refine WL_val (dd := some 7) rfl rfl rfl (r_assign (v := .int .i64 _) rfl) ?_
  refine WL_val (dd := some 8) rfl rfl rfl (r_assign (v := .bool true) rfl) ?_
  refine WL_nil ?_
  refine hK4 _ _ ?_
  clear hK4 K3
  refine WC_seq (fun K8 hK9 => ?_)
  refine WC_seq (fun K10 hK11 => ?_)
  refine WC_region ?_
  refine WL_val (dd := some 33) rfl rfl rfl (r_move (v := .bool true) rfl) ?_
  refine WL_val (dd := some 34) rfl rfl rfl (r_move (v := .bool true) rfl) ?_
  refine WL_val (dd := some 35) rfl rfl rfl (r_move (v := xf) rfl) ?_
  refine WL_val (dd := some 36) rfl rfl rfl (r_move (v := xg) rfl) ?_
  refine WL_call (dd := some 37) rfl rfl rfl (r_call2 tb_c48 (v0 := xf) rfl (v1 := xg) rfl) (C_drawknifelaw20_few _ _ _ _ _ (Below.slT hB hf) (Below.slT hB hg)) (fun v2_4 W12 hE13 hP2_4 => ?_)
  have hsz14 := (Below.size hB)
  replace hB := below_ext hB hE13 (Nat.le_refl _)
  replace hD := Dia.ext hE13 hD
  replace hz := hE13.at hz
  clear hE13
  clear hsz14
  obtain rfl := hP2_4
  refine WL_val (dd := some 38) rfl rfl rfl (r_not rfl) ?_
  refine WL_val (dd := some 39) rfl rfl rfl (r_pick_t rfl (v := .bool _) rfl) ?_
  refine WL_nil ?_
  refine hK11 _ _ ?_
  clear hK11 K10
  refine WC_cond (b := _) rfl (fun hc0 => ?_) (fun hc0 => ?_)
  ·
   try with_reducible replace hc0 := of_decide_eq_true hc0
   refine WC_seq (fun K15 hK16 => ?_)
   refine WC_region ?_
   refine WL_call (dd := some 40) rfl rfl rfl (r_call0 tb_c44) (C_drawknifelaw20_knows _) (fun v3_0 W17 hE18 hP3_0 => ?_)
   have hsz19 := (Below.size hB)
   replace hB := below_ext hB hE18 (Nat.le_refl _)
   replace hD := Dia.ext hE18 hD
   replace hz := hE18.at hz
   clear hE18
   obtain rfl := hP3_0
   clear hsz19
   refine WL_val (dd := some 4) rfl rfl rfl (r_assign (v := .bool true) rfl) ?_
   refine WL_nil ?_
   refine hK16 _ _ ?_
   clear hK16 K15
   refine WC_ret ?_
   repeat (first | refine thenQ_ret ?_ | refine blockQ_ret ?_)
   try clear hK9 K8
   refine ret_t (v := .bool true) rfl ?_
   refine ⟨hB, ?_⟩
   rfl
  ·
   try with_reducible replace hc0 := of_decide_eq_false hc0
   refine WC_skip ?_
   refine hK9 _ _ ?_
   clear hK9 K8
   refine WC_seq (fun K20 hK21 => ?_)
   refine WC_seq (fun K22 hK23 => ?_)
   refine WC_region ?_
   refine WL_val (dd := some 41) rfl rfl rfl (r_move (v := .bool true) rfl) ?_
   refine WL_val (dd := some 42) rfl rfl rfl (r_not rfl) ?_
   refine WL_val (dd := some 43) rfl rfl rfl (r_move (v := .bool false) rfl) ?_
   refine WL_val (dd := some 44) rfl rfl rfl (r_move (v := .pointer (some ⟨bz, 0, none⟩)) rfl) ?_
   refine WL_val (dd := some 45) rfl rfl rfl (r_ptrNil rfl rfl Try.underlying24) ?_
   refine WL_val (dd := some 46) rfl rfl rfl (r_pick_f rfl (v := .bool false) rfl) ?_
   refine WL_nil ?_
   refine hK23 _ _ ?_
   clear hK23 K22
   refine WC_cond_false rfl ?_
   refine WC_skip ?_
   refine hK21 _ _ ?_
   clear hK21 K20
   refine WC_seq (fun K24 hK25 => ?_)
   have hnf : fewB f g = true := by simpa using hc0
   have hnn := hfn hnf
   have hw0 := hD.wf
   have hSa := few_s1 hnf hw0 hIa
   have hSb := few_s2 hnf hw0 hIb
   have hS0 := hSa
   have hlt : ∀ x, M ns1_2 a x → x < 16777216 := fun x hx => (mems_bits hw0 a hIa.v x hx).2
   have hMa : Ids ns1_2 a (M ns1_2 a) := ⟨hIa.v, rfl⟩
   have hMb : Ids ns1_2 b (M ns1_2 b) := ⟨hIb.v, rfl⟩
   have hb0 := hSb
   refine WC_region ?_
   refine WL_val (dd := some 53) rfl rfl rfl (r_move (v := .pointer (some ⟨bz, 0, none⟩)) rfl) ?_
   refine WL_val (dd := some 54) rfl rfl rfl (r_move (v := .int .i64 _) rfl) ?_
   have hw6_2 := hD.wf
   refine WL_callG (dd := some 55) rfl rfl rfl (r_call2 tb_c57 (v0 := .pointer (some ⟨bz, 0, none⟩)) rfl (v1 := .int .i64 _) rfl) (C_family_Most _ _ _ _ _ _ a _ (Below.size hB) hz hD hMa.v) (fun v6_2 W26 hP6_2 => ?_)
   obtain ⟨ns6_2, id6_2, er6_2, rfl, hx6_2, hDn6_2, hg6_2⟩ := hP6_2
   replace hB := Below.dx hB (Nat.le_refl _) (Nat.le_refl _) hx6_2
   replace hz := At.dx hD hx6_2 hz (by decide) (by decide)
   replace hD := hDn6_2
   refine WL_val (dd := some 52) rfl rfl rfl (r_move (v := .tuple #[.int .i64 (id6_2 : Int), .int .i64 er6_2]) rfl) ?_
   refine WL_val (dd := some 56) rfl rfl rfl (r_ext2_0 (h := rfl)) ?_
   refine WL_val (dd := some 57) rfl rfl rfl (r_ext2_1 (h := rfl)) ?_
   refine WL_val (dd := some 9) rfl rfl rfl (r_assign (v := .int .i64 _) rfl) ?_
   refine WL_val (dd := some 10) rfl rfl rfl (r_assign (v := .int .i64 _) rfl) ?_
   refine WL_nil ?_
   refine hK25 _ _ ?_
   clear hK25 K24
   refine WC_seq (fun K28 hK29 => ?_)
   obtain ⟨he6, hl6⟩ := mo_rm hg6_2 hw6_2 hMa.v hSa (by omega)
   subst he6
   have hMm := moa_ids hg6_2 rfl hMa
   replace hMa := hMa.pre hg6_2.1.pre
   replace hSb := hSb.pre hMb.v hg6_2.1.pre
   replace hMb := hMb.pre hg6_2.1.pre
   refine WC_region ?_
   refine WL_val (dd := some 59) rfl rfl rfl (r_move (v := .pointer (some ⟨bz, 0, none⟩)) rfl) ?_
   refine WL_val (dd := some 60) rfl rfl rfl (r_move (v := .int .i64 _) rfl) ?_
   have hw7_2 := hD.wf
   refine WL_callG (dd := some 61) rfl rfl rfl (r_call2 tb_c57 (v0 := .pointer (some ⟨bz, 0, none⟩)) rfl (v1 := .int .i64 _) rfl) (C_family_Most _ _ _ _ _ _ _ _ (Below.size hB) hz hD hMm.v) (fun v7_2 W30 hP7_2 => ?_)
   obtain ⟨ns7_2, id7_2, er7_2, rfl, hx7_2, hDn7_2, hg7_2⟩ := hP7_2
   replace hB := Below.dx hB (Nat.le_refl _) (Nat.le_refl _) hx7_2
   replace hz := At.dx hD hx7_2 hz (by decide) (by decide)
   replace hD := hDn7_2
   refine WL_val (dd := some 58) rfl rfl rfl (r_move (v := .tuple #[.int .i64 (id7_2 : Int), .int .i64 er7_2]) rfl) ?_
   refine WL_val (dd := some 62) rfl rfl rfl (r_ext2_0 (h := rfl)) ?_
   refine WL_val (dd := some 63) rfl rfl rfl (r_ext2_1 (h := rfl)) ?_
   refine WL_val (dd := some 11) rfl rfl rfl (r_assign (v := .int .i64 _) rfl) ?_
   refine WL_val (dd := some 12) rfl rfl rfl (r_assign (v := .int .i64 _) rfl) ?_
   refine WL_nil ?_
   refine hK29 _ _ ?_
   clear hK29 K28
   refine WC_seq (fun K32 hK33 => ?_)
   obtain ⟨he7, hl7⟩ := mo_rm hg7_2 hw7_2 hMm.v (hMm.s10 hw7_2 (fun x h => h.1) hS0) (by omega)
   subst he7
   have hMg := (moa_ids hg7_2 rfl hMm).to ms_idem
   replace hSb := hSb.pre hMb.v hg7_2.1.pre
   replace hMa := hMa.pre hg7_2.1.pre
   replace hMb := hMb.pre hg7_2.1.pre
   replace hMm := hMm.pre hg7_2.1.pre
   refine WC_region ?_
   refine WL_val (dd := some 65) rfl rfl rfl (r_move (v := .pointer (some ⟨bz, 0, none⟩)) rfl) ?_
   refine WL_val (dd := some 66) rfl rfl rfl (r_move (v := .int .i64 _) rfl) ?_
   refine WL_val (dd := some 67) rfl rfl rfl (r_move (v := .int .i64 _) rfl) ?_
   have hw8_3 := hD.wf
   refine WL_callG (dd := some 68) rfl rfl rfl (r_call3 tb_c56 (v0 := .pointer (some ⟨bz, 0, none⟩)) rfl (v1 := .int .i64 _) rfl (v2 := .int .i64 _) rfl) (C_family_Below _ _ _ _ _ _ a _ _ (Below.size hB) hz hD hMa.v hMm.v) (fun v8_3 W34 hP8_3 => ?_)
   obtain ⟨ns8_3, id8_3, er8_3, rfl, hx8_3, hDn8_3, hg8_3⟩ := hP8_3
   replace hB := Below.dx hB (Nat.le_refl _) (Nat.le_refl _) hx8_3
   replace hz := At.dx hD hx8_3 hz (by decide) (by decide)
   replace hD := hDn8_3
   refine WL_val (dd := some 64) rfl rfl rfl (r_move (v := .tuple #[.int .i64 (id8_3 : Int), .int .i64 er8_3]) rfl) ?_
   refine WL_val (dd := some 69) rfl rfl rfl (r_ext2_0 (h := rfl)) ?_
   refine WL_val (dd := some 70) rfl rfl rfl (r_ext2_1 (h := rfl)) ?_
   refine WL_val (dd := some 13) rfl rfl rfl (r_assign (v := .int .i64 _) rfl) ?_
   refine WL_val (dd := some 14) rfl rfl rfl (r_assign (v := .int .i64 _) rfl) ?_
   refine WL_nil ?_
   refine hK33 _ _ ?_
   clear hK33 K32
   refine WC_seq (fun K36 hK37 => ?_)
   obtain ⟨he8, hl8⟩ := ab_rm hg8_3 hw8_3 hMa.v (hMa.s10 hw8_3 (fun x h => h) hS0) (hMm.s10 hw8_3 (fun x h => h.1) hS0) (by omega)
   subst he8
   have hMh := (abw_ids hg8_3 rfl hMa hMm).to (below_most hlt)
   replace hSb := hSb.pre hMb.v hg8_3.1.pre
   replace hMa := hMa.pre hg8_3.1.pre
   replace hMb := hMb.pre hg8_3.1.pre
   replace hMm := hMm.pre hg8_3.1.pre
   replace hMg := hMg.pre hg8_3.1.pre
   refine WC_region ?_
   refine WL_val (dd := some 72) rfl rfl rfl (r_move (v := .pointer (some ⟨bz, 0, none⟩)) rfl) ?_
   refine WL_val (dd := some 73) rfl rfl rfl (r_move (v := .int .i64 _) rfl) ?_
   refine WL_val (dd := some 74) rfl rfl rfl (r_move (v := .int .i64 _) rfl) ?_
   have hw9_3 := hD.wf
   refine WL_callG (dd := some 75) rfl rfl rfl (r_call3 tb_c55 (v0 := .pointer (some ⟨bz, 0, none⟩)) rfl (v1 := .int .i64 _) rfl (v2 := .int .i64 _) rfl) (C_family_Above _ _ _ _ _ _ a b _ (Below.size hB) hz hD hMa.v hMb.v) (fun v9_3 W38 hP9_3 => ?_)
   obtain ⟨ns9_3, id9_3, er9_3, rfl, hx9_3, hDn9_3, hg9_3⟩ := hP9_3
   replace hB := Below.dx hB (Nat.le_refl _) (Nat.le_refl _) hx9_3
   replace hz := At.dx hD hx9_3 hz (by decide) (by decide)
   replace hD := hDn9_3
   refine WL_val (dd := some 71) rfl rfl rfl (r_move (v := .tuple #[.int .i64 (id9_3 : Int), .int .i64 er9_3]) rfl) ?_
   refine WL_val (dd := some 76) rfl rfl rfl (r_ext2_0 (h := rfl)) ?_
   refine WL_val (dd := some 77) rfl rfl rfl (r_ext2_1 (h := rfl)) ?_
   refine WL_val (dd := some 15) rfl rfl rfl (r_assign (v := .int .i64 _) rfl) ?_
   refine WL_val (dd := some 16) rfl rfl rfl (r_assign (v := .int .i64 _) rfl) ?_
   refine WL_nil ?_
   refine hK37 _ _ ?_
   clear hK37 K36
   refine WC_seq (fun K40 hK41 => ?_)
   obtain ⟨he9, hl9⟩ := ab_rm hg9_3 hw9_3 hMa.v (hMa.s10 hw9_3 (fun x h => h) hS0) hSb (by omega)
   subst he9
   have hMu := abw_ids hg9_3 rfl hMa hMb
   replace hMa := hMa.pre hg9_3.1.pre
   replace hMm := hMm.pre hg9_3.1.pre
   replace hMg := hMg.pre hg9_3.1.pre
   replace hMh := hMh.pre hg9_3.1.pre
   refine WC_region ?_
   refine WL_val (dd := some 79) rfl rfl rfl (r_move (v := .pointer (some ⟨bz, 0, none⟩)) rfl) ?_
   refine WL_val (dd := some 80) rfl rfl rfl (r_move (v := .int .i64 _) rfl) ?_
   refine WL_val (dd := some 81) rfl rfl rfl (r_move (v := .int .i64 _) rfl) ?_
   have hw10_3 := hD.wf
   refine WL_callG (dd := some 82) rfl rfl rfl (r_call3 tb_c35 (v0 := .pointer (some ⟨bz, 0, none⟩)) rfl (v1 := .int .i64 _) rfl (v2 := .int .i64 _) rfl) (C___zdd_Zdd__Less _ _ _ _ _ _ a _ _ (Below.size hB) hz hD hMa.v hMu.v) (fun v10_3 W42 hP10_3 => ?_)
   obtain ⟨ns10_3, id10_3, er10_3, rfl, hx10_3, hDn10_3, hg10_3⟩ := hP10_3
   replace hB := Below.dx hB (Nat.le_refl _) (Nat.le_refl _) hx10_3
   replace hz := At.dx hD hx10_3 hz (by decide) (by decide)
   replace hD := hDn10_3
   refine WL_val (dd := some 78) rfl rfl rfl (r_move (v := .tuple #[.int .i64 (id10_3 : Int), .int .i64 er10_3]) rfl) ?_
   refine WL_val (dd := some 83) rfl rfl rfl (r_ext2_0 (h := rfl)) ?_
   refine WL_val (dd := some 84) rfl rfl rfl (r_ext2_1 (h := rfl)) ?_
   refine WL_val (dd := some 17) rfl rfl rfl (r_assign (v := .int .i64 _) rfl) ?_
   refine WL_val (dd := some 18) rfl rfl rfl (r_assign (v := .int .i64 _) rfl) ?_
   refine WL_nil ?_
   refine hK41 _ _ ?_
   clear hK41 K40
   refine WC_seq (fun K44 hK45 => ?_)
   obtain ⟨he10, hl10⟩ := got_rm hg10_3 (cst_L hw10_3 hMa.v hMu.v (hMa.s10 hw10_3 (fun x h => h) hS0) (hMu.s10 hw10_3 (fun x h => h.1) hS0)) (by omega)
   subst he10
   have hMl := got_ids hg10_3 rfl
   have hxl10 := hMu.m
   have hxl11 := hMa.m
   replace hMa := hMa.pre hg10_3.pre
   replace hMm := hMm.pre hg10_3.pre
   replace hMg := hMg.pre hg10_3.pre
   replace hMh := hMh.pre hg10_3.pre
   replace hMu := hMu.pre hg10_3.pre
   replace hMl := hMl.to (show opL.res _ _ = (fun x => M ns1_2 a x ∧ ¬ wS true (M ns1_2 a) (M ns1_2 b) x) by rw [hxl10, hxl11]; rfl)
   refine WC_region ?_
   refine WL_val (dd := some 86) rfl rfl rfl (r_move (v := .pointer (some ⟨bz, 0, none⟩)) rfl) ?_
   refine WL_val (dd := some 87) rfl rfl rfl (r_move (v := .int .i64 _) rfl) ?_
   refine WL_val (dd := some 88) rfl rfl rfl (r_move (v := .int .i64 _) rfl) ?_
   have hw11_3 := hD.wf
   refine WL_callG (dd := some 89) rfl rfl rfl (r_call3 tb_c33 (v0 := .pointer (some ⟨bz, 0, none⟩)) rfl (v1 := .int .i64 _) rfl (v2 := .int .i64 _) rfl) (C___zdd_Zdd__Union _ _ _ _ _ _ _ _ _ (Below.size hB) hz hD hMu.v hMl.v) (fun v11_3 W46 hP11_3 => ?_)
   obtain ⟨ns11_3, id11_3, er11_3, rfl, hx11_3, hDn11_3, hg11_3⟩ := hP11_3
   replace hB := Below.dx hB (Nat.le_refl _) (Nat.le_refl _) hx11_3
   replace hz := At.dx hD hx11_3 hz (by decide) (by decide)
   replace hD := hDn11_3
   refine WL_val (dd := some 85) rfl rfl rfl (r_move (v := .tuple #[.int .i64 (id11_3 : Int), .int .i64 er11_3]) rfl) ?_
   refine WL_val (dd := some 90) rfl rfl rfl (r_ext2_0 (h := rfl)) ?_
   refine WL_val (dd := some 91) rfl rfl rfl (r_ext2_1 (h := rfl)) ?_
   refine WL_val (dd := some 19) rfl rfl rfl (r_assign (v := .int .i64 _) rfl) ?_
   refine WL_val (dd := some 20) rfl rfl rfl (r_assign (v := .int .i64 _) rfl) ?_
   refine WL_nil ?_
   refine hK45 _ _ ?_
   clear hK45 K44
   refine WC_seq (fun K48 hK49 => ?_)
   obtain ⟨he11, hl11⟩ := got_rm hg11_3 (cst_U hw11_3 hMu.v hMl.v (hMu.s10 hw11_3 (fun x h => h.1) hS0) (hMl.s10 hw11_3 (fun x h => h.1) hS0)) (by omega)
   subst he11
   have hMx := got_ids hg11_3 rfl
   replace hMx := hMx.to (show opU.res _ _ = M ns1_2 a by rw [hMu.m, hMl.m]; exact parts_all (fun x h => h.1))
   replace hMa := hMa.pre hg11_3.pre
   replace hMm := hMm.pre hg11_3.pre
   replace hMg := hMg.pre hg11_3.pre
   replace hMh := hMh.pre hg11_3.pre
   refine WC_region ?_
   refine WL_val (dd := some 93) rfl rfl rfl (r_move (v := .pointer (some ⟨bz, 0, none⟩)) rfl) ?_
   refine WL_val (dd := some 94) rfl rfl rfl (r_move (v := .int .i64 _) rfl) ?_
   have hw12_2 := hD.wf
   refine WL_callG (dd := some 95) rfl rfl rfl (r_call2 tb_c26 (v0 := .pointer (some ⟨bz, 0, none⟩)) rfl (v1 := .int .i64 _) rfl) (C___zdd_Zdd__Least _ _ _ _ _ _ a _ (Below.size hB) hz hD hMa.v) (fun v12_2 W50 hP12_2 => ?_)
   obtain ⟨ns12_2, id12_2, er12_2, rfl, hx12_2, hDn12_2, hg12_2⟩ := hP12_2
   replace hB := Below.dx hB (Nat.le_refl _) (Nat.le_refl _) hx12_2
   replace hz := At.dx hD hx12_2 hz (by decide) (by decide)
   replace hD := hDn12_2
   refine WL_val (dd := some 92) rfl rfl rfl (r_move (v := .tuple #[.int .i64 (id12_2 : Int), .int .i64 er12_2]) rfl) ?_
   refine WL_val (dd := some 96) rfl rfl rfl (r_ext2_0 (h := rfl)) ?_
   refine WL_val (dd := some 97) rfl rfl rfl (r_ext2_1 (h := rfl)) ?_
   refine WL_val (dd := some 21) rfl rfl rfl (r_assign (v := .int .i64 _) rfl) ?_
   refine WL_val (dd := some 22) rfl rfl rfl (r_assign (v := .int .i64 _) rfl) ?_
   refine WL_nil ?_
   refine hK49 _ _ ?_
   clear hK49 K48
   refine WC_seq (fun K52 hK53 => ?_)
   obtain ⟨he12, hl12⟩ := ls_rm hg12_2 (hMa.s10 hw12_2 (fun x h => h) hS0) (by omega)
   subst he12
   have hMs := got_ids hg12_2 rfl
   replace hMs := hMs.to (show lsS _ = lsS (M ns1_2 a) by rw [hMa.m])
   replace hMa := hMa.pre hg12_2.pre
   replace hMm := hMm.pre hg12_2.pre
   replace hMg := hMg.pre hg12_2.pre
   replace hMh := hMh.pre hg12_2.pre
   replace hMx := hMx.pre hg12_2.pre
   refine WC_region ?_
   refine WL_val (dd := some 99) rfl rfl rfl (r_move (v := .pointer (some ⟨bz, 0, none⟩)) rfl) ?_
   refine WL_val (dd := some 100) rfl rfl rfl (r_move (v := .int .i64 _) rfl) ?_
   refine WL_val (dd := some 101) rfl rfl rfl (r_move (v := .int .i64 _) rfl) ?_
   have hw13_3 := hD.wf
   refine WL_callG (dd := some 102) rfl rfl rfl (r_call3 tb_c55 (v0 := .pointer (some ⟨bz, 0, none⟩)) rfl (v1 := .int .i64 _) rfl (v2 := .int .i64 _) rfl) (C_family_Above _ _ _ _ _ _ a _ _ (Below.size hB) hz hD hMa.v hMs.v) (fun v13_3 W54 hP13_3 => ?_)
   obtain ⟨ns13_3, id13_3, er13_3, rfl, hx13_3, hDn13_3, hg13_3⟩ := hP13_3
   replace hB := Below.dx hB (Nat.le_refl _) (Nat.le_refl _) hx13_3
   replace hz := At.dx hD hx13_3 hz (by decide) (by decide)
   replace hD := hDn13_3
   refine WL_val (dd := some 98) rfl rfl rfl (r_move (v := .tuple #[.int .i64 (id13_3 : Int), .int .i64 er13_3]) rfl) ?_
   refine WL_val (dd := some 103) rfl rfl rfl (r_ext2_0 (h := rfl)) ?_
   refine WL_val (dd := some 104) rfl rfl rfl (r_ext2_1 (h := rfl)) ?_
   refine WL_val (dd := some 23) rfl rfl rfl (r_assign (v := .int .i64 _) rfl) ?_
   refine WL_val (dd := some 24) rfl rfl rfl (r_assign (v := .int .i64 _) rfl) ?_
   refine WL_nil ?_
   refine hK53 _ _ ?_
   clear hK53 K52
   refine WC_seq (fun K56 hK57 => ?_)
   obtain ⟨he13, hl13⟩ := ab_rm hg13_3 hw13_3 hMa.v (hMa.s10 hw13_3 (fun x h => h) hS0) (hMs.s10 hw13_3 (fun x h => h.1) hS0) (by omega)
   subst he13
   have hMy := (abw_ids hg13_3 rfl hMa hMs).to above_least
   replace hMa := hMa.pre hg13_3.1.pre
   replace hMm := hMm.pre hg13_3.1.pre
   replace hMg := hMg.pre hg13_3.1.pre
   replace hMh := hMh.pre hg13_3.1.pre
   replace hMx := hMx.pre hg13_3.1.pre
   have hw14 := hD.wf
   refine WC_region ?_
   refine WL_val (dd := some 105) rfl rfl rfl (r_move (v := .int .i64 _) rfl) ?_
   refine WL_val (dd := some 106) rfl rfl rfl (r_eql rfl rfl) ?_
   refine WL_split (dd := some 107) rfl rfl rfl (r_move (v := .bool _) rfl) (fun hs14_2 => ?_) (fun hs14_2 => ?_)
   ·
    try with_reducible replace hs14_2 := of_decide_eq_true hs14_2
    refine WL_val (dd := some 108) rfl rfl rfl (r_move (v := .int .i64 _) rfl) ?_
    refine WL_val (dd := some 109) rfl rfl rfl (r_eql rfl rfl) ?_
    refine WL_val (dd := some 110) rfl rfl rfl (r_pick_t rfl (v := .bool _) rfl) ?_
    refine WL_split (dd := some 111) rfl rfl rfl (r_move (v := .bool _) rfl) (fun hs14_6 => ?_) (fun hs14_6 => ?_)
    ·
     try with_reducible replace hs14_6 := of_decide_eq_true hs14_6
     refine WL_val (dd := some 112) rfl rfl rfl (r_move (v := .int .i64 _) rfl) ?_
     refine WL_val (dd := some 113) rfl rfl rfl (r_eql rfl rfl) ?_
     refine WL_val (dd := some 114) rfl rfl rfl (r_pick_t rfl (v := .bool _) rfl) ?_
     refine WL_split (dd := some 115) rfl rfl rfl (r_move (v := .bool _) rfl) (fun hs14_10 => ?_) (fun hs14_10 => ?_)
     ·
      try with_reducible replace hs14_10 := of_decide_eq_true hs14_10
      refine WL_val (dd := some 116) rfl rfl rfl (r_move (v := .int .i64 _) rfl) ?_
      refine WL_val (dd := some 117) rfl rfl rfl (r_eql rfl rfl) ?_
      refine WL_val (dd := some 118) rfl rfl rfl (r_pick_t rfl (v := .bool _) rfl) ?_
      refine WL_split (dd := some 119) rfl rfl rfl (r_move (v := .bool _) rfl) (fun hs14_14 => ?_) (fun hs14_14 => ?_)
      ·
       try with_reducible replace hs14_14 := of_decide_eq_true hs14_14
       refine WL_val (dd := some 120) rfl rfl rfl (r_move (v := .int .i64 _) rfl) ?_
       refine WL_val (dd := some 121) rfl rfl rfl (r_eql rfl rfl) ?_
       refine WL_val (dd := some 122) rfl rfl rfl (r_pick_t rfl (v := .bool _) rfl) ?_
       refine WL_split (dd := some 123) rfl rfl rfl (r_move (v := .bool _) rfl) (fun hs14_18 => ?_) (fun hs14_18 => ?_)
       ·
        try with_reducible replace hs14_18 := of_decide_eq_true hs14_18
        refine WL_val (dd := some 124) rfl rfl rfl (r_move (v := .int .i64 _) rfl) ?_
        refine WL_val (dd := some 125) rfl rfl rfl (r_eql rfl rfl) ?_
        refine WL_val (dd := some 126) rfl rfl rfl (r_pick_t rfl (v := .bool _) rfl) ?_
        refine WL_split (dd := some 127) rfl rfl rfl (r_move (v := .bool _) rfl) (fun hs14_22 => ?_) (fun hs14_22 => ?_)
        ·
         try with_reducible replace hs14_22 := of_decide_eq_true hs14_22
         refine WL_val (dd := some 128) rfl rfl rfl (r_move (v := .int .i64 _) rfl) ?_
         refine WL_val (dd := some 129) rfl rfl rfl (r_eql rfl rfl) ?_
         refine WL_val (dd := some 130) rfl rfl rfl (r_pick_t rfl (v := .bool _) rfl) ?_
         refine WL_split (dd := some 131) rfl rfl rfl (r_move (v := .bool _) rfl) (fun hs14_26 => ?_) (fun hs14_26 => ?_)
         ·
          try with_reducible replace hs14_26 := of_decide_eq_true hs14_26
          refine WL_val (dd := some 132) rfl rfl rfl (r_move (v := .int .i64 _) rfl) ?_
          refine WL_val (dd := some 133) rfl rfl rfl (r_eql rfl rfl) ?_
          refine WL_val (dd := some 134) rfl rfl rfl (r_pick_t rfl (v := .bool _) rfl) ?_
          refine WL_split (dd := some 135) rfl rfl rfl (r_move (v := .bool _) rfl) (fun hs14_30 => ?_) (fun hs14_30 => ?_)
          ·
           try with_reducible replace hs14_30 := of_decide_eq_true hs14_30
           refine WL_val (dd := some 136) rfl rfl rfl (r_move (v := .int .i64 _) rfl) ?_
           refine WL_val (dd := some 137) rfl rfl rfl (r_move (v := .int .i64 _) rfl) ?_
           refine WL_val (dd := some 138) rfl rfl rfl (r_eql rfl rfl) ?_
           refine WL_val (dd := some 139) rfl rfl rfl (r_pick_t rfl (v := .bool _) rfl) ?_
           refine WL_split (dd := some 140) rfl rfl rfl (r_move (v := .bool _) rfl) (fun hs14_35 => ?_) (fun hs14_35 => ?_)
           ·
            try with_reducible replace hs14_35 := of_decide_eq_true hs14_35
            refine WL_val (dd := some 141) rfl rfl rfl (r_move (v := .int .i64 _) rfl) ?_
            refine WL_val (dd := some 142) rfl rfl rfl (r_move (v := .int .i64 _) rfl) ?_
            refine WL_val (dd := some 143) rfl rfl rfl (r_eql rfl rfl) ?_
            refine WL_val (dd := some 144) rfl rfl rfl (r_pick_t rfl (v := .bool _) rfl) ?_
            refine WL_split (dd := some 145) rfl rfl rfl (r_move (v := .bool _) rfl) (fun hs14_40 => ?_) (fun hs14_40 => ?_)
            ·
             try with_reducible replace hs14_40 := of_decide_eq_true hs14_40
             refine WL_val (dd := some 146) rfl rfl rfl (r_move (v := .int .i64 _) rfl) ?_
             refine WL_val (dd := some 147) rfl rfl rfl (r_move (v := .int .i64 _) rfl) ?_
             refine WL_val (dd := some 148) rfl rfl rfl (r_eql rfl rfl) ?_
             refine WL_val (dd := some 149) rfl rfl rfl (r_pick_t rfl (v := .bool _) rfl) ?_
             refine WL_split (dd := some 150) rfl rfl rfl (r_move (v := .bool _) rfl) (fun hs14_45 => ?_) (fun hs14_45 => ?_)
             ·
              try with_reducible replace hs14_45 := of_decide_eq_true hs14_45
              refine WL_val (dd := some 151) rfl rfl rfl (r_move (v := .int .i64 _) rfl) ?_
              refine WL_val (dd := some 152) rfl rfl rfl (r_move (v := .int .i64 _) rfl) ?_
              refine WL_val (dd := some 153) rfl rfl rfl (r_eql rfl rfl) ?_
              refine WL_val (dd := some 154) rfl rfl rfl (r_pick_t rfl (v := .bool _) rfl) ?_
              refine WL_split (dd := some 155) rfl rfl rfl (r_move (v := .bool _) rfl) (fun hs14_50 => ?_) (fun hs14_50 => ?_)
              ·
               try with_reducible replace hs14_50 := of_decide_eq_true hs14_50
               refine WL_call (dd := some 156) rfl rfl rfl (r_call0 tb_c44) (C_drawknifelaw20_knows _) (fun v14_51 W58 hE59 hP14_51 => ?_)
               have hsz60 := (Below.size hB)
               replace hB := below_ext hB hE59 (Nat.le_refl _)
               replace hD := Dia.ext hE59 hD
               replace hz := hE59.at hz
               clear hE59
               obtain rfl := hP14_51
               clear hsz60
               refine WL_val (dd := some 157) rfl rfl rfl (r_pick_t rfl (v := .bool true) rfl) ?_
               refine WL_val (dd := some 4) rfl rfl rfl (r_assign (v := .bool true) rfl) ?_
               refine WL_nil ?_
               refine hK57 _ _ ?_
               clear hK57 K56
               refine WC_ret ?_
               repeat (first | refine thenQ_ret ?_ | refine blockQ_ret ?_)
               refine ret_t (v := .bool true) rfl ?_
               refine ⟨hB, ?_⟩
               rfl
              ·
               try with_reducible replace hs14_50 := of_decide_eq_false hs14_50
               exact absurd (hMy.eq hMa hw14) hs14_50
             ·
              try with_reducible replace hs14_45 := of_decide_eq_false hs14_45
              exact absurd (hMx.eq hMa hw14) hs14_45
            ·
             try with_reducible replace hs14_40 := of_decide_eq_false hs14_40
             exact absurd (hMh.eq hMa hw14) hs14_40
           ·
            try with_reducible replace hs14_35 := of_decide_eq_false hs14_35
            exact absurd (hMg.eq hMm hw14) hs14_35
          ·
           try with_reducible replace hs14_30 := of_decide_eq_false hs14_30
           exact absurd rfl hs14_30
         ·
          try with_reducible replace hs14_26 := of_decide_eq_false hs14_26
          exact absurd rfl hs14_26
        ·
         try with_reducible replace hs14_22 := of_decide_eq_false hs14_22
         exact absurd rfl hs14_22
       ·
        try with_reducible replace hs14_18 := of_decide_eq_false hs14_18
        exact absurd rfl hs14_18
      ·
       try with_reducible replace hs14_14 := of_decide_eq_false hs14_14
       exact absurd rfl hs14_14
     ·
      try with_reducible replace hs14_10 := of_decide_eq_false hs14_10
      exact absurd rfl hs14_10
    ·
     try with_reducible replace hs14_6 := of_decide_eq_false hs14_6
     exact absurd rfl hs14_6
   ·
    try with_reducible replace hs14_2 := of_decide_eq_false hs14_2
    exact absurd rfl hs14_2
 ·
  obtain rfl := hP1_2
  refine WL_val (dd := some 25) rfl rfl rfl (r_move (v := .tuple #[.pointer none, .int .i64 0, .int .i64 0, .bool false]) rfl) ?_
  refine WL_val (dd := some 29) rfl rfl rfl (r_ext4_0 (h := rfl)) ?_
  refine WL_val (dd := some 30) rfl rfl rfl (r_ext4_1 (h := rfl)) ?_
  refine WL_val (dd := some 31) rfl rfl rfl (r_ext4_2 (h := rfl)) ?_
  refine WL_val (dd := some 32) rfl rfl rfl (r_ext4_3 (h := rfl)) ?_
  refine WL_val (dd := some 5) rfl rfl rfl (r_assign (v := .pointer none) rfl) ?_
  refine WL_val (dd := some 6) rfl rfl rfl (r_assign (v := .int .i64 0) rfl) ?_
  refine WL_val (dd := some 7) rfl rfl rfl (r_assign (v := .int .i64 0) rfl) ?_
  refine WL_val (dd := some 8) rfl rfl rfl (r_assign (v := .bool false) rfl) ?_
  refine WL_nil ?_
  refine hK4 _ _ ?_
  clear hK4 K3
  refine WC_seq (fun K61 hK62 => ?_)
  refine WC_seq (fun K63 hK64 => ?_)
  refine WC_region ?_
  refine WL_val (dd := some 33) rfl rfl rfl (r_move (v := .bool false) rfl) ?_
  refine WL_val (dd := some 34) rfl rfl rfl (r_move (v := .bool false) rfl) ?_
  refine WL_skip (dd := some 35) rfl rfl rfl ?_
  refine WL_skip (dd := some 36) rfl rfl rfl ?_
  refine WL_skip (dd := some 37) rfl rfl rfl ?_
  refine WL_skip (dd := some 38) rfl rfl rfl ?_
  refine WL_val (dd := some 39) rfl rfl rfl (r_pick_f rfl (v := .bool false) rfl) ?_
  refine WL_nil ?_
  refine hK64 _ _ ?_
  clear hK64 K63
  refine WC_cond_false rfl ?_
  refine WC_skip ?_
  refine hK62 _ _ ?_
  clear hK62 K61
  refine WC_seq (fun K65 hK66 => ?_)
  refine WC_seq (fun K67 hK68 => ?_)
  refine WC_region ?_
  refine WL_val (dd := some 41) rfl rfl rfl (r_move (v := .bool false) rfl) ?_
  refine WL_val (dd := some 42) rfl rfl rfl (r_not rfl) ?_
  refine WL_val (dd := some 43) rfl rfl rfl (r_move (v := .bool true) rfl) ?_
  refine WL_skip (dd := some 44) rfl rfl rfl ?_
  refine WL_skip (dd := some 45) rfl rfl rfl ?_
  refine WL_val (dd := some 46) rfl rfl rfl (r_pick_t rfl (v := .bool true) rfl) ?_
  refine WL_nil ?_
  refine hK68 _ _ ?_
  clear hK68 K67
  refine WC_cond_true rfl ?_
  refine WC_seq (fun K69 hK70 => ?_)
  refine WC_region ?_
  refine WL_val (dd := some 47) rfl rfl rfl (r_move (v := .bool false) rfl) ?_
  refine WL_val (dd := some 48) rfl rfl rfl (r_not rfl) ?_
  refine WL_val (dd := some 49) rfl rfl rfl (r_move (v := .bool true) rfl) ?_
  refine WL_call (dd := some 50) rfl rfl rfl (r_call0 tb_c44) (C_drawknifelaw20_knows _) (fun v5_3 W71 hE72 hP5_3 => ?_)
  have hsz73 := (Below.size hB)
  replace hB := below_ext hB hE72 (Nat.le_refl _)
  clear hE72
  obtain rfl := hP5_3
  clear hsz73
  refine WL_val (dd := some 51) rfl rfl rfl (r_pick_t rfl (v := .bool true) rfl) ?_
  refine WL_val (dd := some 4) rfl rfl rfl (r_assign (v := .bool true) rfl) ?_
  refine WL_nil ?_
  refine hK70 _ _ ?_
  clear hK70 K69
  refine WC_ret ?_
  repeat (first | refine thenQ_ret ?_ | refine blockQ_ret ?_)
  try clear hK66 K65
  refine ret_t (v := .bool true) rfl ?_
  refine ⟨hB, ?_⟩
  rfl

set_option maxRecDepth 10000 in
theorem C_drawknifelaw20_FamilyRefuses (xf : Value) (f : List Int) (xg : Value) (g : List Int) (t : Nat) (w : World) (hf : SlT encI 1 w xf f) (hg : SlT encI 1 w xg g) (ht : t < 256) :
    Fn Try.prog 14 #[xf, xg, .int .u8 (t : Int)] w fun v w' => v = .bool true := by
 refine Fn_intro (n := 129) Try.func14 rfl rfl (Nat.le_of_ble_eq_true rfl) ?_
 have hB : Below w.heap.size w w := Below.refl _ _
 refine WC_seq (fun K1 hK2 => ?_)
 refine WC_region ?_
 refine WL_val (dd := some 6) rfl rfl rfl (r_assign (v := .bool false) rfl) ?_
 refine WL_nil ?_
 refine hK2 _ _ ?_
 clear hK2 K1
 refine WC_seq (fun K3 hK4 => ?_)
 refine WC_region ?_
 refine WL_val (dd := some 27) rfl rfl rfl (r_move (v := xf) rfl) ?_
 refine WL_val (dd := some 28) rfl rfl rfl (r_move (v := xg) rfl) ?_
 refine WL_call (dd := some 29) rfl rfl rfl (r_call2 tb_c43 (v0 := xf) rfl (v1 := xg) rfl) (C_drawknifelaw20_start _ _ _ _ _ (Below.slT hB hf) (Below.slT hB hg)) (fun v1_2 W5 hE6 hP1_2 => ?_)
 have hsz7 := (Below.size hB)
 replace hB := below_ext hB hE6 (Nat.le_refl _)
 clear hE6
 rcases hP1_2 with hP1_2 | hP1_2
 clear hsz7
 ·
  obtain ⟨hok, bz0, ba0, bm0, a0, b0, ns0, rfl, _⟩ := hP1_2
  have hfl := hok.lf
  have hgl := hok.lg
  have hof := hok.f
  have hog := hok.g
  have hif := ofB_mem hof
  have hig := ofB_mem hog
  have hxl := ofI_len f
  have hyl := ofI_len g
  refine WL_val (dd := some 26) rfl rfl rfl (r_move (v := .tuple #[.pointer (some ⟨bz0, 0, none⟩), .int .i64 (a0 : Int), .int .i64 (b0 : Int), .bool true]) rfl) ?_
  refine WL_val (dd := some 30) rfl rfl rfl (r_ext4_0 (h := rfl)) ?_
  refine WL_val (dd := some 31) rfl rfl rfl (r_ext4_1 (h := rfl)) ?_
  refine WL_val (dd := some 32) rfl rfl rfl (r_ext4_2 (h := rfl)) ?_
  refine WL_val (dd := some 33) rfl rfl rfl (r_ext4_3 (h := rfl)) ?_
  refine WL_val (dd := some 7) rfl rfl rfl (r_assign (v := .pointer (some ⟨bz0, 0, none⟩)) rfl) ?_
  refine WL_val (dd := some 8) rfl rfl rfl (r_assign (v := .int .i64 _) rfl) ?_
  refine WL_val (dd := some 9) rfl rfl rfl (r_assign (v := .int .i64 _) rfl) ?_
  refine WL_val (dd := some 10) rfl rfl rfl (r_assign (v := .bool true) rfl) ?_
  refine WL_nil ?_
  refine hK4 _ _ ?_
  clear hK4 K3
  refine WC_seq (fun K8 hK9 => ?_)
  refine WC_region ?_
  refine WL_val (dd := some 35) rfl rfl rfl (r_move (v := .int .u8 _) rfl) ?_
  refine WL_val (dd := some 36) rfl rfl rfl (r_convN rfl Try.underlying5 Try.underlying3 (by first | assumption | (simp only [topN]; omega) | (simp only [topN]; decide))) ?_
  refine WL_call (dd := some 37) rfl rfl rfl (r_call1 tb_c31 (v0 := .int .i64 _) rfl) (C_zdd_New t _ (by omega)) (fun v2_2 W10 hE11 hP2_2 => ?_)
  have hsz12 := (Below.size hB)
  replace hB := below_ext hB hE11 (Nat.le_refl _)
  clear hE11
  obtain ⟨bz, ba, bm, rfl, hz, hD⟩ := hP2_2
  replace hD := Dia.mono hD hsz12
  clear hsz12
  refine WL_val (dd := some 34) rfl rfl rfl (r_move (v := .tuple #[.pointer (some ⟨bz, 0, none⟩), .int .i64 0]) rfl) ?_
  refine WL_val (dd := some 38) rfl rfl rfl (r_ext2_0 (h := rfl)) ?_
  refine WL_val (dd := some 39) rfl rfl rfl (r_ext2_1 (h := rfl)) ?_
  refine WL_val (dd := some 11) rfl rfl rfl (r_assign (v := .pointer (some ⟨bz, 0, none⟩)) rfl) ?_
  refine WL_val (dd := some 12) rfl rfl rfl (r_assign (v := .int .i64 0) rfl) ?_
  refine WL_nil ?_
  refine hK9 _ _ ?_
  clear hK9 K8
  refine WC_seq (fun K13 hK14 => ?_)
  refine WC_seq (fun K15 hK16 => ?_)
  refine WC_region ?_
  refine WL_val (dd := some 40) rfl rfl rfl (r_move (v := .bool true) rfl) ?_
  refine WL_val (dd := some 41) rfl rfl rfl (r_not rfl) ?_
  refine WL_val (dd := some 42) rfl rfl rfl (r_move (v := .bool false) rfl) ?_
  refine WL_val (dd := some 43) rfl rfl rfl (r_move (v := .pointer (some ⟨bz, 0, none⟩)) rfl) ?_
  refine WL_val (dd := some 44) rfl rfl rfl (r_ptrNil rfl rfl Try.underlying24) ?_
  refine WL_val (dd := some 45) rfl rfl rfl (r_pick_f rfl (v := .bool false) rfl) ?_
  refine WL_val (dd := some 46) rfl rfl rfl (r_move (v := .bool false) rfl) ?_
  refine WL_val (dd := some 47) rfl rfl rfl (r_move (v := .int .i64 0) rfl) ?_
  refine WL_val (dd := some 48) rfl rfl rfl (r_neq rfl rfl) ?_
  refine WL_val (dd := some 49) rfl rfl rfl (r_pick_f rfl (v := .bool _) rfl) ?_
  refine WL_nil ?_
  refine hK16 _ _ ?_
  clear hK16 K15
  refine WC_cond (b := _) rfl (fun hc0 => ?_) (fun hc0 => ?_)
  ·
   try with_reducible replace hc0 := of_decide_eq_true hc0
   exact absurd rfl hc0
  ·
   try with_reducible replace hc0 := of_decide_eq_false hc0
   refine WC_skip ?_
   refine hK14 _ _ ?_
   clear hK14 K13
   refine WC_seq (fun K17 hK18 => ?_)
   refine WC_region ?_
   refine WL_call (dd := some 56) rfl rfl rfl (r_call3 tb_c55 (v0 := .pointer none) rfl (v1 := .int .i64 0) rfl (v2 := .int .i64 0) rfl) (C_Above_nil 0 0 _) (fun v5_0 W19 hE20 hP5_0 => ?_)
   have hsz21 := (Below.size hB)
   replace hB := below_ext hB hE20 (Nat.le_refl _)
   replace hD := Dia.ext hE20 hD
   replace hz := hE20.at hz
   clear hE20
   obtain rfl := hP5_0
   clear hsz21
   refine WL_val (dd := some 55) rfl rfl rfl (r_move (v := .tuple #[.int .i64 _, .int .i64 _]) rfl) ?_
   refine WL_val (dd := some 57) rfl rfl rfl (r_ext2_0 (h := rfl)) ?_
   refine WL_val (dd := some 58) rfl rfl rfl (r_ext2_1 (h := rfl)) ?_
   refine WL_val (dd := some 13) rfl rfl rfl (r_assign (v := .int .i64 _) rfl) ?_
   refine WL_val (dd := some 14) rfl rfl rfl (r_assign (v := .int .i64 _) rfl) ?_
   refine WL_nil ?_
   refine hK18 _ _ ?_
   clear hK18 K17
   refine WC_seq (fun K22 hK23 => ?_)
   refine WC_region ?_
   refine WL_val (dd := some 60) rfl rfl rfl (r_move (v := .pointer (some ⟨bz, 0, none⟩)) rfl) ?_
   refine WL_call (dd := some 61) rfl rfl rfl (r_call2 tb_c57 (v0 := .pointer (some ⟨bz, 0, none⟩)) rfl (v1 := .int .i64 999999) rfl) (C_Most_arg _ _ _ _ _ [] 999999 _ hz hD (by decide) (by decide)) (fun v6_1 W24 hE25 hP6_1 => ?_)
   have hsz26 := (Below.size hB)
   replace hB := below_ext hB hE25 (Nat.le_refl _)
   replace hD := Dia.ext hE25 hD
   replace hz := hE25.at hz
   clear hE25
   obtain rfl := hP6_1
   clear hsz26
   refine WL_val (dd := some 59) rfl rfl rfl (r_move (v := .tuple #[.int .i64 _, .int .i64 _]) rfl) ?_
   refine WL_val (dd := some 62) rfl rfl rfl (r_ext2_0 (h := rfl)) ?_
   refine WL_val (dd := some 63) rfl rfl rfl (r_ext2_1 (h := rfl)) ?_
   refine WL_val (dd := some 15) rfl rfl rfl (r_assign (v := .int .i64 _) rfl) ?_
   refine WL_val (dd := some 16) rfl rfl rfl (r_assign (v := .int .i64 _) rfl) ?_
   refine WL_nil ?_
   refine hK23 _ _ ?_
   clear hK23 K22
   refine WC_seq (fun K27 hK28 => ?_)
   refine WC_region ?_
   refine WL_val (dd := some 65) rfl rfl rfl (r_move (v := .pointer (some ⟨bz, 0, none⟩)) rfl) ?_
   refine WL_call (dd := some 66) rfl rfl rfl (r_call3 tb_c45 (v0 := .pointer (some ⟨bz, 0, none⟩)) rfl (v1 := .int .i64 1) rfl (v2 := .int .i64 999999) rfl) (C_Divide_arg _ _ _ _ _ [] 1 999999 _ hz hD (by decide) (by decide) (.inl (by decide))) (fun v7_1 W29 hE30 hP7_1 => ?_)
   have hsz31 := (Below.size hB)
   replace hB := below_ext hB hE30 (Nat.le_refl _)
   replace hD := Dia.ext hE30 hD
   replace hz := hE30.at hz
   clear hE30
   obtain rfl := hP7_1
   clear hsz31
   refine WL_val (dd := some 64) rfl rfl rfl (r_move (v := .tuple #[.int .i64 _, .int .i64 _, .int .i64 _]) rfl) ?_
   refine WL_val (dd := some 67) rfl rfl rfl (r_ext3_0 (h := rfl)) ?_
   refine WL_val (dd := some 68) rfl rfl rfl (r_ext3_1 (h := rfl)) ?_
   refine WL_val (dd := some 69) rfl rfl rfl (r_ext3_2 (h := rfl)) ?_
   refine WL_val (dd := some 17) rfl rfl rfl (r_assign (v := .int .i64 _) rfl) ?_
   refine WL_val (dd := some 18) rfl rfl rfl (r_assign (v := .int .i64 _) rfl) ?_
   refine WL_val (dd := some 19) rfl rfl rfl (r_assign (v := .int .i64 _) rfl) ?_
   refine WL_nil ?_
   refine hK28 _ _ ?_
   clear hK28 K27
   refine WC_seq (fun K32 hK33 => ?_)
   refine WC_seq (fun K34 hK35 => ?_)
   refine WC_region ?_
   refine WL_val (dd := some 70) rfl rfl rfl (r_move (v := .int .i64 _) rfl) ?_
   refine WL_val (dd := some 71) rfl rfl rfl (r_neq rfl rfl) ?_
   refine WL_split (dd := some 72) rfl rfl rfl (r_move (v := .bool _) rfl) (fun hs8_2 => ?_) (fun hs8_2 => ?_)
   ·
    try with_reducible replace hs8_2 := of_decide_eq_true hs8_2
    exact absurd rfl hs8_2
   ·
    try with_reducible replace hs8_2 := of_decide_eq_false hs8_2
    refine WL_val (dd := some 73) rfl rfl rfl (r_move (v := .int .i64 _) rfl) ?_
    refine WL_val (dd := some 74) rfl rfl rfl (r_neq rfl rfl) ?_
    refine WL_val (dd := some 75) rfl rfl rfl (r_pick_f rfl (v := .bool _) rfl) ?_
    refine WL_split (dd := some 76) rfl rfl rfl (r_move (v := .bool _) rfl) (fun hs8_6 => ?_) (fun hs8_6 => ?_)
    ·
     try with_reducible replace hs8_6 := of_decide_eq_true hs8_6
     exact absurd rfl hs8_6
    ·
     try with_reducible replace hs8_6 := of_decide_eq_false hs8_6
     refine WL_val (dd := some 77) rfl rfl rfl (r_move (v := .int .i64 _) rfl) ?_
     refine WL_val (dd := some 78) rfl rfl rfl (r_neq rfl rfl) ?_
     refine WL_val (dd := some 79) rfl rfl rfl (r_pick_f rfl (v := .bool _) rfl) ?_
     refine WL_nil ?_
     refine hK35 _ _ ?_
     clear hK35 K34
     refine WC_cond (b := _) rfl (fun hc1 => ?_) (fun hc1 => ?_)
     ·
      try with_reducible replace hc1 := of_decide_eq_true hc1
      exact absurd rfl hc1
     ·
      try with_reducible replace hc1 := of_decide_eq_false hc1
      refine WC_skip ?_
      refine hK33 _ _ ?_
      clear hK33 K32
      refine WC_seq (fun K36 hK37 => ?_)
      refine WC_region ?_
      refine WL_val (dd := some 81) rfl rfl rfl (r_move (v := .pointer (some ⟨bz, 0, none⟩)) rfl) ?_
      refine WL_val (dd := some 82) rfl rfl rfl (r_move (v := xf) rfl) ?_
      refine WL_callG (dd := some 83) rfl rfl rfl (r_call2 tb_c32 (v0 := .pointer (some ⟨bz, 0, none⟩)) rfl (v1 := xf) rfl) (C___zdd_Zdd__Of _ _ _ _ _ _ _ _ _ (Below.size hB) hz hD (Below.slT hB hf) (by first | assumption | omega)) (fun v10_2 W38 hP10_2 => ?_)
      obtain ⟨ns10_2, id10_2, er10_2, rfl, hx10_2, hDn10_2, hg10_2⟩ := hP10_2
      replace hB := Below.dx hB (Nat.le_refl _) (Nat.le_refl _) hx10_2
      replace hz := At.dx hD hx10_2 hz (by decide) (by decide)
      replace hD := hDn10_2
      refine WL_val (dd := some 80) rfl rfl rfl (r_move (v := .tuple #[.int .i64 (id10_2 : Int), .int .i64 er10_2]) rfl) ?_
      refine WL_val (dd := some 84) rfl rfl rfl (r_ext2_0 (h := rfl)) ?_
      refine WL_val (dd := some 85) rfl rfl rfl (r_ext2_1 (h := rfl)) ?_
      refine WL_val (dd := some 20) rfl rfl rfl (r_assign (v := .int .i64 _) rfl) ?_
      refine WL_val (dd := some 21) rfl rfl rfl (r_assign (v := .int .i64 _) rfl) ?_
      refine WL_nil ?_
      refine hK37 _ _ ?_
      clear hK37 K36
      refine WC_seq (fun K40 hK41 => ?_)
      have hgA := pe_ok hg10_2 hof
      have hvA := hgA.valid
      refine WC_region ?_
      refine WL_val (dd := some 87) rfl rfl rfl (r_move (v := .pointer (some ⟨bz, 0, none⟩)) rfl) ?_
      refine WL_val (dd := some 88) rfl rfl rfl (r_move (v := xg) rfl) ?_
      refine WL_callG (dd := some 89) rfl rfl rfl (r_call2 tb_c32 (v0 := .pointer (some ⟨bz, 0, none⟩)) rfl (v1 := xg) rfl) (C___zdd_Zdd__Of _ _ _ _ _ _ _ _ _ (Below.size hB) hz hD (Below.slT hB hg) (by first | assumption | omega)) (fun v11_2 W42 hP11_2 => ?_)
      obtain ⟨ns11_2, id11_2, er11_2, rfl, hx11_2, hDn11_2, hg11_2⟩ := hP11_2
      replace hB := Below.dx hB (Nat.le_refl _) (Nat.le_refl _) hx11_2
      replace hz := At.dx hD hx11_2 hz (by decide) (by decide)
      replace hD := hDn11_2
      refine WL_val (dd := some 86) rfl rfl rfl (r_move (v := .tuple #[.int .i64 (id11_2 : Int), .int .i64 er11_2]) rfl) ?_
      refine WL_val (dd := some 90) rfl rfl rfl (r_ext2_0 (h := rfl)) ?_
      refine WL_val (dd := some 91) rfl rfl rfl (r_ext2_1 (h := rfl)) ?_
      refine WL_val (dd := some 22) rfl rfl rfl (r_assign (v := .int .i64 _) rfl) ?_
      refine WL_val (dd := some 23) rfl rfl rfl (r_assign (v := .int .i64 _) rfl) ?_
      refine WL_nil ?_
      refine hK41 _ _ ?_
      clear hK41 K40
      refine WC_seq (fun K44 hK45 => ?_)
      refine WC_seq (fun K46 hK47 => ?_)
      have hgB := pe_ok hg11_2 hog
      have hvB := hgB.valid
      refine WC_region ?_
      refine WL_val (dd := some 92) rfl rfl rfl (r_move (v := .int .i64 _) rfl) ?_
      refine WL_val (dd := some 93) rfl rfl rfl (r_neq rfl rfl) ?_
      refine WL_split (dd := some 94) rfl rfl rfl (r_move (v := .bool _) rfl) (fun hs12_2 => ?_) (fun hs12_2 => ?_)
      ·
       try with_reducible replace hs12_2 := of_decide_eq_true hs12_2
       refine WL_skip (dd := some 95) rfl rfl rfl ?_
       refine WL_skip (dd := some 96) rfl rfl rfl ?_
       refine WL_val (dd := some 97) rfl rfl rfl (r_pick_t rfl (v := .bool true) rfl) ?_
       refine WL_nil ?_
       refine hK47 _ _ ?_
       clear hK47 K46
       refine WC_cond_true rfl ?_
       refine WC_seq (fun K48 hK49 => ?_)
       refine WC_region ?_
       refine WL_call (dd := some 98) rfl rfl rfl (r_call0 tb_c44) (C_drawknifelaw20_knows _) (fun v13_0 W50 hE51 hP13_0 => ?_)
       have hsz52 := (Below.size hB)
       replace hB := below_ext hB hE51 (Nat.le_refl _)
       replace hD := Dia.ext hE51 hD
       replace hz := hE51.at hz
       clear hE51
       obtain rfl := hP13_0
       clear hsz52
       refine WL_val (dd := some 6) rfl rfl rfl (r_assign (v := .bool true) rfl) ?_
       refine WL_nil ?_
       refine hK49 _ _ ?_
       clear hK49 K48
       refine WC_ret ?_
       repeat (first | refine thenQ_ret ?_ | refine blockQ_ret ?_)
       try clear hK45 K44
       refine ret_t (v := .bool true) rfl ?_
       refine ⟨hB, ?_⟩
       rfl
      ·
       try with_reducible replace hs12_2 := of_decide_eq_false hs12_2
       refine WL_val (dd := some 95) rfl rfl rfl (r_move (v := .int .i64 _) rfl) ?_
       refine WL_val (dd := some 96) rfl rfl rfl (r_neq rfl rfl) ?_
       refine WL_val (dd := some 97) rfl rfl rfl (r_pick_f rfl (v := .bool _) rfl) ?_
       refine WL_nil ?_
       refine hK47 _ _ ?_
       clear hK47 K46
       refine WC_cond (b := _) rfl (fun hc2 => ?_) (fun hc2 => ?_)
       ·
        try with_reducible replace hc2 := of_decide_eq_true hc2
        refine WC_seq (fun K53 hK54 => ?_)
        refine WC_region ?_
        refine WL_call (dd := some 98) rfl rfl rfl (r_call0 tb_c44) (C_drawknifelaw20_knows _) (fun v13_0 W55 hE56 hP13_0 => ?_)
        have hsz57 := (Below.size hB)
        replace hB := below_ext hB hE56 (Nat.le_refl _)
        replace hD := Dia.ext hE56 hD
        replace hz := hE56.at hz
        clear hE56
        obtain rfl := hP13_0
        clear hsz57
        refine WL_val (dd := some 6) rfl rfl rfl (r_assign (v := .bool true) rfl) ?_
        refine WL_nil ?_
        refine hK54 _ _ ?_
        clear hK54 K53
        refine WC_ret ?_
        repeat (first | refine thenQ_ret ?_ | refine blockQ_ret ?_)
        try clear hK45 K44
        refine ret_t (v := .bool true) rfl ?_
        refine ⟨hB, ?_⟩
        rfl
       ·
        try with_reducible replace hc2 := of_decide_eq_false hc2
        refine WC_skip ?_
        refine hK45 _ _ ?_
        clear hK45 K44
        refine WC_seq (fun K58 hK59 => ?_)
        have hea : er10_2 = 0 := Decidable.of_not_not hs12_2
        have heb : er11_2 = 0 := Decidable.of_not_not hc2
        have hIa := (got_of hgA hof hea).pre hgB.pre
        have hIb := got_of hgB hog heb
        refine WC_region ?_
        refine WL_val (dd := some 100) rfl rfl rfl (r_move (v := .pointer (some ⟨bz, 0, none⟩)) rfl) ?_
        refine WL_val (dd := some 101) rfl rfl rfl (r_move (v := .int .i64 _) rfl) ?_
        refine WL_val (dd := some 102) rfl rfl rfl (r_move (v := .int .i64 _) rfl) ?_
        have hw14_3 := hD.wf
        refine WL_callG (dd := some 103) rfl rfl rfl (r_call3 tb_c55 (v0 := .pointer (some ⟨bz, 0, none⟩)) rfl (v1 := .int .i64 _) rfl (v2 := .int .i64 _) rfl) (C_family_Above _ _ _ _ _ _ _ _ _ (Below.size hB) hz hD hIa.v hIb.v) (fun v14_3 W60 hP14_3 => ?_)
        obtain ⟨ns14_3, id14_3, er14_3, rfl, hx14_3, hDn14_3, hg14_3⟩ := hP14_3
        replace hB := Below.dx hB (Nat.le_refl _) (Nat.le_refl _) hx14_3
        replace hz := At.dx hD hx14_3 hz (by decide) (by decide)
        replace hD := hDn14_3
        refine WL_val (dd := some 99) rfl rfl rfl (r_move (v := .tuple #[.int .i64 (id14_3 : Int), .int .i64 er14_3]) rfl) ?_
        refine WL_val (dd := some 104) rfl rfl rfl (r_ext2_0 (h := rfl)) ?_
        refine WL_val (dd := some 105) rfl rfl rfl (r_ext2_1 (h := rfl)) ?_
        refine WL_val (dd := some 24) rfl rfl rfl (r_assign (v := .int .i64 _) rfl) ?_
        refine WL_val (dd := some 25) rfl rfl rfl (r_assign (v := .int .i64 _) rfl) ?_
        refine WL_nil ?_
        refine hK59 _ _ ?_
        clear hK59 K58
        refine WC_seq (fun K62 hK63 => ?_)
        refine WC_seq (fun K64 hK65 => ?_)
        have ho := ab_out hg14_3 hw14_3 hIa hIb
        refine WC_region ?_
        refine WL_val (dd := some 106) rfl rfl rfl (r_move (v := .int .i64 _) rfl) ?_
        refine WL_val (dd := some 107) rfl rfl rfl (r_neq rfl rfl) ?_
        refine WL_nil ?_
        refine hK65 _ _ ?_
        clear hK65 K64
        refine WC_cond (b := _) rfl (fun hc3 => ?_) (fun hc3 => ?_)
        ·
         try with_reducible replace hc3 := of_decide_eq_true hc3
         refine WC_seq (fun K66 hK67 => ?_)
         refine WC_region ?_
         refine WL_val (dd := some 108) rfl rfl rfl (r_move (v := .int .i64 _) rfl) ?_
         refine WL_val (dd := some 109) rfl rfl rfl (r_eql rfl rfl) ?_
         refine WL_split (dd := some 110) rfl rfl rfl (r_move (v := .bool _) rfl) (fun hs16_2 => ?_) (fun hs16_2 => ?_)
         ·
          try with_reducible replace hs16_2 := of_decide_eq_true hs16_2
          refine WL_val (dd := some 111) rfl rfl rfl (r_move (v := .int .i64 _) rfl) ?_
          refine WL_val (dd := some 112) rfl rfl rfl (r_eql rfl rfl) ?_
          refine WL_val (dd := some 113) rfl rfl rfl (r_pick_t rfl (v := .bool _) rfl) ?_
          refine WL_split (dd := some 114) rfl rfl rfl (r_move (v := .bool _) rfl) (fun hs16_6 => ?_) (fun hs16_6 => ?_)
          ·
           try with_reducible replace hs16_6 := of_decide_eq_true hs16_6
           refine WL_call (dd := some 115) rfl rfl rfl (r_call0 tb_c44) (C_drawknifelaw20_knows _) (fun v16_7 W68 hE69 hP16_7 => ?_)
           have hsz70 := (Below.size hB)
           replace hB := below_ext hB hE69 (Nat.le_refl _)
           replace hD := Dia.ext hE69 hD
           replace hz := hE69.at hz
           clear hE69
           obtain rfl := hP16_7
           clear hsz70
           refine WL_val (dd := some 116) rfl rfl rfl (r_pick_t rfl (v := .bool true) rfl) ?_
           refine WL_val (dd := some 6) rfl rfl rfl (r_assign (v := .bool true) rfl) ?_
           refine WL_nil ?_
           refine hK67 _ _ ?_
           clear hK67 K66
           refine WC_ret ?_
           repeat (first | refine thenQ_ret ?_ | refine blockQ_ret ?_)
           try clear hK63 K62
           refine ret_t (v := .bool true) rfl ?_
           refine ⟨hB, ?_⟩
           rfl
          ·
           try with_reducible replace hs16_6 := of_decide_eq_false hs16_6
           exact absurd (ho.e5.resolve_left hc3) hs16_6
         ·
          try with_reducible replace hs16_2 := of_decide_eq_false hs16_2
          exact absurd (by rw [ho.z hc3]; rfl) hs16_2
        ·
         try with_reducible replace hc3 := of_decide_eq_false hc3
         refine WC_skip ?_
         refine hK63 _ _ ?_
         clear hK63 K62
         refine WC_seq (fun K71 hK72 => ?_)
         have he0 : er14_3 = 0 := Decidable.of_not_not hc3
         have hI := ho.is he0
         have hl1 := aboveI_len (F := ofI f) (G := ofI g) (ab := true)
         refine WC_region ?_
         refine WL_val (dd := some 117) rfl rfl rfl (r_move (v := .pointer (some ⟨bz, 0, none⟩)) rfl) ?_
         refine WL_val (dd := some 118) rfl rfl rfl (r_move (v := .int .i64 _) rfl) ?_
         refine WL_val (dd := some 119) rfl rfl rfl (r_move (v := .int .i64 _) rfl) ?_
         refine WL_val (dd := some 120) rfl rfl rfl (r_move (v := xf) rfl) ?_
         refine WL_call (dd := some 121) rfl rfl rfl (r_call1 tb_c27 (v0 := xf) rfl) (C_drawkniferef08_Of _ _ _ (Below.slT hB hf) (by first | assumption | omega)) (fun v17_4 W73 hE74 hP17_4 => ?_)
         have hsz75 := (Below.size hB)
         replace hB := below_ext hB hE74 (Nat.le_refl _)
         replace hD := Dia.ext hE74 hD
         replace hz := hE74.at hz
         clear hE74
         replace hP17_4 := OwT.mono hP17_4 hsz75
         clear hsz75
         refine WL_val (dd := some 122) rfl rfl rfl (r_move (v := xg) rfl) ?_
         refine WL_call (dd := some 123) rfl rfl rfl (r_call1 tb_c27 (v0 := xg) rfl) (C_drawkniferef08_Of _ _ _ (Below.slT hB hg) (by first | assumption | omega)) (fun v17_6 W76 hE77 hP17_6 => ?_)
         have hlt78 := OwT.lt2 hP17_4
         have hsz79 := (Below.size hB)
         replace hB := below_ext hB hE77 (Nat.le_refl _)
         replace hD := Dia.ext hE77 hD
         replace hz := hE77.at hz
         replace hP17_4 := hE77.ow hP17_4
         clear hE77
         have hap80 := Apart.new hlt78 hP17_6
         replace hP17_6 := OwT.mono hP17_6 hsz79
         clear hsz79
         refine WL_call (dd := some 124) rfl rfl rfl (r_call3 tb_c58 (v0 := v17_4) rfl (v1 := v17_6) rfl (v2 := .bool true) rfl) (C_drawkniferef20_Above _ _ _ _ _ _ hP17_4.sl hP17_6.sl (by first | assumption | omega) (by first | assumption | omega) (by assumption) (by assumption)) (fun v17_7 W81 hE82 hP17_7 => ?_)
         have hlt83 := OwT.lt2 hP17_4
         have hlt84 := OwT.lt2 hP17_6
         have hsz85 := (Below.size hB)
         replace hB := below_ext hB hE82 (Nat.le_refl _)
         replace hD := Dia.ext hE82 hD
         replace hz := hE82.at hz
         replace hP17_4 := hE82.ow hP17_4
         replace hP17_6 := hE82.ow hP17_6
         clear hE82
         have hap86 := Apart.new hlt83 hP17_7
         have hap87 := Apart.new hlt84 hP17_7
         replace hP17_7 := OwT.mono hP17_7 hsz85
         clear hsz85
         refine WL_call (dd := some 125) rfl rfl rfl (r_call5 tb_c47 (v0 := .pointer (some ⟨bz, 0, none⟩)) rfl (v1 := .int .i64 _) rfl (v2 := .int .i64 _) rfl (v3 := v17_7) rfl (v4 := .bool true) rfl) (C_drawknifelaw20_is _ _ _ _ _ _ _ _ _ (aboveI (ofI f) (ofI g) true) _ _ hz hD hP17_7.sl (by omega) (.inl ⟨he0, hI⟩)) (fun v17_8 W88 hE89 hP17_8 => ?_)
         have hsz90 := (Below.size hB)
         replace hB := below_ext hB hE89 (Nat.le_refl _)
         replace hD := Dia.ext hE89 hD
         replace hz := hE89.at hz
         replace hP17_4 := hE89.ow hP17_4
         replace hP17_6 := hE89.ow hP17_6
         replace hP17_7 := hE89.ow hP17_7
         clear hE89
         obtain rfl := hP17_8
         clear hsz90
         refine WL_val (dd := some 126) rfl rfl rfl (r_move (v := .bool true) rfl) ?_
         refine WL_call (dd := some 127) rfl rfl rfl (r_call0 tb_c44) (C_drawknifelaw20_knows _) (fun v17_10 W91 hE92 hP17_10 => ?_)
         have hsz93 := (Below.size hB)
         replace hB := below_ext hB hE92 (Nat.le_refl _)
         replace hD := Dia.ext hE92 hD
         replace hz := hE92.at hz
         replace hP17_4 := hE92.ow hP17_4
         replace hP17_6 := hE92.ow hP17_6
         replace hP17_7 := hE92.ow hP17_7
         clear hE92
         obtain rfl := hP17_10
         clear hsz93
         refine WL_val (dd := some 128) rfl rfl rfl (r_pick_t rfl (v := .bool true) rfl) ?_
         refine WL_val (dd := some 6) rfl rfl rfl (r_assign (v := .bool true) rfl) ?_
         refine WL_nil ?_
         refine hK72 _ _ ?_
         clear hK72 K71
         refine WC_ret ?_
         repeat (first | refine thenQ_ret ?_ | refine blockQ_ret ?_)
         refine ret_t (v := .bool true) rfl ?_
         refine ⟨hB, ?_⟩
         rfl
 ·
  obtain rfl := hP1_2
  refine WL_val (dd := some 26) rfl rfl rfl (r_move (v := .tuple #[.pointer none, .int .i64 0, .int .i64 0, .bool false]) rfl) ?_
  refine WL_val (dd := some 30) rfl rfl rfl (r_ext4_0 (h := rfl)) ?_
  refine WL_val (dd := some 31) rfl rfl rfl (r_ext4_1 (h := rfl)) ?_
  refine WL_val (dd := some 32) rfl rfl rfl (r_ext4_2 (h := rfl)) ?_
  refine WL_val (dd := some 33) rfl rfl rfl (r_ext4_3 (h := rfl)) ?_
  refine WL_val (dd := some 7) rfl rfl rfl (r_assign (v := .pointer none) rfl) ?_
  refine WL_val (dd := some 8) rfl rfl rfl (r_assign (v := .int .i64 0) rfl) ?_
  refine WL_val (dd := some 9) rfl rfl rfl (r_assign (v := .int .i64 0) rfl) ?_
  refine WL_val (dd := some 10) rfl rfl rfl (r_assign (v := .bool false) rfl) ?_
  refine WL_nil ?_
  refine hK4 _ _ ?_
  clear hK4 K3
  refine WC_seq (fun K94 hK95 => ?_)
  refine WC_region ?_
  refine WL_val (dd := some 35) rfl rfl rfl (r_move (v := .int .u8 _) rfl) ?_
  refine WL_val (dd := some 36) rfl rfl rfl (r_convN rfl Try.underlying5 Try.underlying3 (by first | assumption | (simp only [topN]; omega) | (simp only [topN]; decide))) ?_
  refine WL_call (dd := some 37) rfl rfl rfl (r_call1 tb_c31 (v0 := .int .i64 _) rfl) (C_zdd_New t _ (by omega)) (fun v2_2 W96 hE97 hP2_2 => ?_)
  have hsz98 := (Below.size hB)
  replace hB := below_ext hB hE97 (Nat.le_refl _)
  clear hE97
  obtain ⟨bz, ba, bm, rfl, hz, hD⟩ := hP2_2
  replace hD := Dia.mono hD hsz98
  clear hsz98
  refine WL_val (dd := some 34) rfl rfl rfl (r_move (v := .tuple #[.pointer (some ⟨bz, 0, none⟩), .int .i64 0]) rfl) ?_
  refine WL_val (dd := some 38) rfl rfl rfl (r_ext2_0 (h := rfl)) ?_
  refine WL_val (dd := some 39) rfl rfl rfl (r_ext2_1 (h := rfl)) ?_
  refine WL_val (dd := some 11) rfl rfl rfl (r_assign (v := .pointer (some ⟨bz, 0, none⟩)) rfl) ?_
  refine WL_val (dd := some 12) rfl rfl rfl (r_assign (v := .int .i64 0) rfl) ?_
  refine WL_nil ?_
  refine hK95 _ _ ?_
  clear hK95 K94
  refine WC_seq (fun K99 hK100 => ?_)
  refine WC_seq (fun K101 hK102 => ?_)
  refine WC_region ?_
  refine WL_val (dd := some 40) rfl rfl rfl (r_move (v := .bool false) rfl) ?_
  refine WL_val (dd := some 41) rfl rfl rfl (r_not rfl) ?_
  refine WL_val (dd := some 42) rfl rfl rfl (r_move (v := .bool true) rfl) ?_
  refine WL_skip (dd := some 43) rfl rfl rfl ?_
  refine WL_skip (dd := some 44) rfl rfl rfl ?_
  refine WL_val (dd := some 45) rfl rfl rfl (r_pick_t rfl (v := .bool true) rfl) ?_
  refine WL_val (dd := some 46) rfl rfl rfl (r_move (v := .bool true) rfl) ?_
  refine WL_skip (dd := some 47) rfl rfl rfl ?_
  refine WL_skip (dd := some 48) rfl rfl rfl ?_
  refine WL_val (dd := some 49) rfl rfl rfl (r_pick_t rfl (v := .bool true) rfl) ?_
  refine WL_nil ?_
  refine hK102 _ _ ?_
  clear hK102 K101
  refine WC_cond_true rfl ?_
  refine WC_seq (fun K103 hK104 => ?_)
  refine WC_region ?_
  refine WL_val (dd := some 50) rfl rfl rfl (r_move (v := .bool false) rfl) ?_
  refine WL_val (dd := some 51) rfl rfl rfl (r_not rfl) ?_
  refine WL_val (dd := some 52) rfl rfl rfl (r_move (v := .bool true) rfl) ?_
  refine WL_call (dd := some 53) rfl rfl rfl (r_call0 tb_c44) (C_drawknifelaw20_knows _) (fun v4_3 W105 hE106 hP4_3 => ?_)
  have hsz107 := (Below.size hB)
  replace hB := below_ext hB hE106 (Nat.le_refl _)
  replace hD := Dia.ext hE106 hD
  replace hz := hE106.at hz
  clear hE106
  obtain rfl := hP4_3
  clear hsz107
  refine WL_val (dd := some 54) rfl rfl rfl (r_pick_t rfl (v := .bool true) rfl) ?_
  refine WL_val (dd := some 6) rfl rfl rfl (r_assign (v := .bool true) rfl) ?_
  refine WL_nil ?_
  refine hK104 _ _ ?_
  clear hK104 K103
  refine WC_ret ?_
  repeat (first | refine thenQ_ret ?_ | refine blockQ_ret ?_)
  try clear hK100 K99
  refine ret_t (v := .bool true) rfl ?_
  refine ⟨hB, ?_⟩
  rfl

end Go.Proofs.Ytpamgfbecgjjeaa
