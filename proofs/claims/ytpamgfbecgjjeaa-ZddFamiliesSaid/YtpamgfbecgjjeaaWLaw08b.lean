/-
  The walks of the statements about families, part two.
-/
import Derived.Test.YtpamgfbecgjjeaaProg
import Derived.Test.YtpamgfbecgjjeaaWLaw08
namespace Go.Proofs.Ytpamgfbecgjjeaa
set_option linter.unusedVariables false
set_option linter.unusedSimpArgs false
open Go Go.RowKit

theorem tb_c38 : callB Try.prog 38 = true := by kernel_rfl
theorem tb_c28 : callB Try.prog 28 = true := by kernel_rfl

set_option maxRecDepth 10000 in
theorem C_drawknifelaw08_ZddFamilies (xf : Value) (f : List Int) (id : Int) (w : World) (hf : SlT encI 1 w xf f) (hid : id ≤ 9223372036854775807) :
    Fn Try.prog 8 #[xf, .int .i64 id] w fun v w' => v = .bool true := by
  refine Fn_intro (n := 94) Try.func8 rfl rfl (Nat.le_of_ble_eq_true rfl) ?_
  have hB : Below w.heap.size w w := Below.refl _ _
  refine WC_seq (fun K1 hK2 => ?_)
  refine WC_region ?_
  refine WL_val (dd := some 4) rfl rfl rfl (r_assign (v := .bool false) rfl) ?_
  refine WL_nil ?_
  refine hK2 _ _ ?_
  clear hK2 K1
  refine WC_seq (fun K3 hK4 => ?_)
  refine WC_seq (fun K5 hK6 => ?_)
  refine WC_region ?_
  refine WL_val (dd := some 13) rfl rfl rfl (r_move (v := xf) rfl) ?_
  refine WL_call (dd := some 14) rfl rfl rfl (r_call2 tb_c29 (v0 := xf) rfl (v1 := .slice none 0 0) rfl) (C_drawknifelaw08_great _ _ _ _ _ (Below.slT hB hf) SlT.nil) (fun v1_1 W7 hE8 hP1_1 => ?_)
  have hsz9 := (Below.size hB)
  replace hB := below_ext hB hE8 (Nat.le_refl _)
  clear hE8
  clear hsz9
  obtain rfl := hP1_1
  refine WL_nil ?_
  refine hK6 _ _ ?_
  clear hK6 K5
  refine WC_cond (b := _) rfl (fun hc0 => ?_) (fun hc0 => ?_)
  ·
    try with_reducible replace hc0 := of_decide_eq_true hc0
    refine WC_seq (fun K10 hK11 => ?_)
    refine WC_region ?_
    refine WL_call (dd := some 15) rfl rfl rfl (r_call0 tb_c19) (C_drawknifelaw08_knows _) (fun v2_0 W12 hE13 hP2_0 => ?_)
    have hsz14 := (Below.size hB)
    replace hB := below_ext hB hE13 (Nat.le_refl _)
    clear hE13
    clear hsz14
    obtain rfl := hP2_0
    refine WL_val (dd := some 4) rfl rfl rfl (r_assign (v := .bool _) rfl) ?_
    refine WL_nil ?_
    refine hK11 _ _ ?_
    clear hK11 K10
    refine WC_ret ?_
    repeat (first | refine thenQ_ret ?_ | refine blockQ_ret ?_)
    try clear hK4 K3
    refine ret_t (v := .bool _) rfl ?_
    refine ⟨hB, ?_⟩
    rfl
  ·
    try with_reducible replace hc0 := of_decide_eq_false hc0
    refine WC_skip ?_
    refine hK4 _ _ ?_
    clear hK4 K3
    refine WC_seq (fun K15 hK16 => ?_)
    obtain ⟨hfl, hgl⟩ := g8_no hc0
    refine WC_region ?_
    refine WL_val (dd := some 17) rfl rfl rfl (r_move (v := xf) rfl) ?_
    refine WL_call (dd := some 18) rfl rfl rfl (r_call2 tb_c20 (v0 := xf) rfl (v1 := .slice none 0 0) rfl) (C_drawknifelaw08_start _ _ _ _ _ (Below.slT hB hf) SlT.nil (by first | assumption | omega) (by first | assumption | omega)) (fun v3_1 W17 hE18 hP3_1 => ?_)
    have hsz19 := (Below.size hB)
    replace hB := below_ext hB hE18 (Nat.le_refl _)
    clear hE18
    obtain ⟨bz, ba, bm, a, b, ns3_1, rfl, hz, hD, hst⟩ := hP3_1
    replace hD := Dia.mono hD hsz19
    clear hsz19
    refine WL_val (dd := some 16) rfl rfl rfl (r_move (v := .tuple #[.pointer (some ⟨bz, 0, none⟩), .int .i64 (a : Int), .int .i64 (b : Int), .bool _, .bool true]) rfl) ?_
    refine WL_val (dd := some 19) rfl rfl rfl (r_ext5_0 (h := rfl)) ?_
    refine WL_val (dd := some 20) rfl rfl rfl (r_ext5_1 (h := rfl)) ?_
    refine WL_val (dd := some 21) rfl rfl rfl (r_ext5_2 (h := rfl)) ?_
    refine WL_val (dd := some 22) rfl rfl rfl (r_ext5_3 (h := rfl)) ?_
    refine WL_val (dd := some 23) rfl rfl rfl (r_ext5_4 (h := rfl)) ?_
    refine WL_val (dd := some 5) rfl rfl rfl (r_assign (v := .pointer (some ⟨bz, 0, none⟩)) rfl) ?_
    refine WL_val (dd := some 6) rfl rfl rfl (r_assign (v := .int .i64 _) rfl) ?_
    refine WL_val (dd := some 7) rfl rfl rfl (r_assign (v := .int .i64 _) rfl) ?_
    refine WL_val (dd := some 8) rfl rfl rfl (r_assign (v := .bool _) rfl) ?_
    refine WL_val (dd := some 9) rfl rfl rfl (r_assign (v := .bool true) rfl) ?_
    refine WL_nil ?_
    refine hK16 _ _ ?_
    clear hK16 K15
    refine WC_seq (fun K20 hK21 => ?_)
    refine WC_seq (fun K22 hK23 => ?_)
    refine WC_region ?_
    refine WL_val (dd := some 24) rfl rfl rfl (r_move (v := .bool _) rfl) ?_
    refine WL_val (dd := some 25) rfl rfl rfl (r_not rfl) ?_
    refine WL_split (dd := some 26) rfl rfl rfl (r_move (v := .bool _) rfl) (fun hs4_2 => ?_) (fun hs4_2 => ?_)
    ·
      try with_reducible replace hs4_2 := of_decide_eq_true hs4_2
      refine WL_skip (dd := some 27) rfl rfl rfl ?_
      refine WL_skip (dd := some 28) rfl rfl rfl ?_
      refine WL_val (dd := some 29) rfl rfl rfl (r_pick_t rfl (v := .bool true) rfl) ?_
      refine WL_nil ?_
      refine hK23 _ _ ?_
      clear hK23 K22
      refine WC_cond_true rfl ?_
      refine WC_seq (fun K24 hK25 => ?_)
      refine WC_region ?_
      refine WL_val (dd := some 30) rfl rfl rfl (r_move (v := .bool true) rfl) ?_
      refine WL_val (dd := some 31) rfl rfl rfl (r_move (v := .bool true) rfl) ?_
      refine WL_call (dd := some 32) rfl rfl rfl (r_call0 tb_c19) (C_drawknifelaw08_knows _) (fun v5_2 W26 hE27 hP5_2 => ?_)
      have hsz28 := (Below.size hB)
      replace hB := below_ext hB hE27 (Nat.le_refl _)
      replace hD := Dia.ext hE27 hD
      replace hz := hE27.at hz
      clear hE27
      clear hsz28
      obtain rfl := hP5_2
      refine WL_val (dd := some 33) rfl rfl rfl (r_pick_t rfl (v := .bool _) rfl) ?_
      refine WL_val (dd := some 4) rfl rfl rfl (r_assign (v := .bool _) rfl) ?_
      refine WL_nil ?_
      refine hK25 _ _ ?_
      clear hK25 K24
      refine WC_ret ?_
      repeat (first | refine thenQ_ret ?_ | refine blockQ_ret ?_)
      try clear hK21 K20
      refine ret_t (v := .bool _) rfl ?_
      refine ⟨hB, ?_⟩
      rfl
    ·
      try with_reducible replace hs4_2 := of_decide_eq_false hs4_2
      refine WL_val (dd := some 27) rfl rfl rfl (r_move (v := .bool true) rfl) ?_
      refine WL_val (dd := some 28) rfl rfl rfl (r_not rfl) ?_
      refine WL_val (dd := some 29) rfl rfl rfl (r_pick_f rfl (v := .bool _) rfl) ?_
      refine WL_nil ?_
      refine hK23 _ _ ?_
      clear hK23 K22
      refine WC_cond (b := _) rfl (fun hc1 => ?_) (fun hc1 => ?_)
      ·
        try with_reducible replace hc1 := of_decide_eq_true hc1
        refine WC_seq (fun K29 hK30 => ?_)
        refine WC_region ?_
        refine WL_val (dd := some 30) rfl rfl rfl (r_move (v := .bool true) rfl) ?_
        refine WL_val (dd := some 31) rfl rfl rfl (r_move (v := .bool true) rfl) ?_
        refine WL_call (dd := some 32) rfl rfl rfl (r_call0 tb_c19) (C_drawknifelaw08_knows _) (fun v5_2 W31 hE32 hP5_2 => ?_)
        have hsz33 := (Below.size hB)
        replace hB := below_ext hB hE32 (Nat.le_refl _)
        replace hD := Dia.ext hE32 hD
        replace hz := hE32.at hz
        clear hE32
        clear hsz33
        obtain rfl := hP5_2
        refine WL_val (dd := some 33) rfl rfl rfl (r_pick_t rfl (v := .bool _) rfl) ?_
        refine WL_val (dd := some 4) rfl rfl rfl (r_assign (v := .bool _) rfl) ?_
        refine WL_nil ?_
        refine hK30 _ _ ?_
        clear hK30 K29
        refine WC_ret ?_
        repeat (first | refine thenQ_ret ?_ | refine blockQ_ret ?_)
        try clear hK21 K20
        refine ret_t (v := .bool _) rfl ?_
        refine ⟨hB, ?_⟩
        rfl
      ·
        try with_reducible replace hc1 := of_decide_eq_false hc1
        refine WC_skip ?_
        refine hK21 _ _ ?_
        clear hK21 K20
        refine WC_seq (fun K34 hK35 => ?_)
        have hok : (ofZB f && ofZB []) = true := by simpa using hs4_2
        obtain ⟨hIa, hIb, hnl⟩ := hst hok
        have hof : ofZB f = true := (Bool.and_eq_true_iff.1 hok).1
        have hog : ofZB [] = true := (Bool.and_eq_true_iff.1 hok).2
        have hxl := ofI_len f
        have hyl := ofI_len ([] : List Int)
        have hw6 := hD.wf
        have hv6 := hIa.v
        have hro6 := hD.room
        have hto6 := hD.top
        refine WC_region ?_
        refine WL_val (dd := some 34) rfl rfl rfl (r_move (v := xf) rfl) ?_
        refine WL_call (dd := some 35) rfl rfl rfl (r_call1 tb_c27 (v0 := xf) rfl) (C_drawkniferef08_Of _ _ _ (Below.slT hB hf) (by first | assumption | omega)) (fun v6_1 W36 hE37 hP6_1 => ?_)
        have hsz38 := (Below.size hB)
        replace hB := below_ext hB hE37 (Nat.le_refl _)
        replace hD := Dia.ext hE37 hD
        replace hz := hE37.at hz
        clear hE37
        replace hP6_1 := OwT.mono hP6_1 hsz38
        clear hsz38
        refine WL_val (dd := some 10) rfl rfl rfl (r_assign (v := v6_1) rfl) ?_
        refine WL_nil ?_
        refine hK35 _ _ ?_
        clear hK35 K34
        refine WC_seq (fun K39 hK40 => ?_)
        refine WC_region ?_
        refine WL_val (dd := some 37) rfl rfl rfl (r_move (v := .pointer (some ⟨bz, 0, none⟩)) rfl) ?_
        refine WL_val (dd := some 38) rfl rfl rfl (r_move (v := .int .i64 _) rfl) ?_
        refine WL_call (dd := some 39) rfl rfl rfl (r_call2 tb_c37 (v0 := .pointer (some ⟨bz, 0, none⟩)) rfl (v1 := .int .i64 _) rfl) (C___zdd_Zdd__List _ _ _ _ _ _ _ _ hz hD (by first | assumption | omega)) (fun v7_2 W41 hE42 hP7_2 => ?_)
        have hlt43 := OwT.lt2 hP6_1
        have hsz44 := (Below.size hB)
        replace hB := below_ext hB hE42 (Nat.le_refl _)
        replace hD := Dia.ext hE42 hD
        replace hz := hE42.at hz
        replace hP6_1 := hE42.ow hP6_1
        clear hE42
        obtain ⟨x7_2, er7_2, L7_2, rfl, hsl7_2, hany7_2⟩ := list_any hP7_2
        clear hsz44
        refine WL_val (dd := some 36) rfl rfl rfl (r_move (v := .tuple #[x7_2, .int .i64 er7_2]) rfl) ?_
        refine WL_val (dd := some 40) rfl rfl rfl (r_ext2_0 (h := rfl)) ?_
        refine WL_val (dd := some 41) rfl rfl rfl (r_ext2_1 (h := rfl)) ?_
        refine WL_val (dd := some 11) rfl rfl rfl (r_assign (v := x7_2) rfl) ?_
        refine WL_val (dd := some 12) rfl rfl rfl (r_assign (v := .int .i64 _) rfl) ?_
        refine WL_nil ?_
        refine hK40 _ _ ?_
        clear hK40 K39
        refine WC_seq (fun K45 hK46 => ?_)
        refine WC_seq (fun K47 hK48 => ?_)
        refine WC_region ?_
        refine WL_val (dd := some 42) rfl rfl rfl (r_move (v := .pointer (some ⟨bz, 0, none⟩)) rfl) ?_
        refine WL_val (dd := some 43) rfl rfl rfl (r_move (v := .int .i64 _) rfl) ?_
        refine WL_call (dd := some 44) rfl rfl rfl (r_call2 tb_c38 (v0 := .pointer (some ⟨bz, 0, none⟩)) rfl (v1 := .int .i64 _) rfl) (C___zdd_Zdd__Size _ _ _ _ _ _ _ _ hz hD (by first | assumption | omega)) (fun v8_2 W49 hE50 hP8_2 => ?_)
        have hsz51 := (Below.size hB)
        replace hB := below_ext hB hE50 (Nat.le_refl _)
        replace hD := Dia.ext hE50 hD
        replace hz := hE50.at hz
        replace hP6_1 := hE50.ow hP6_1
        replace hsl7_2 := hE50.slT hsl7_2
        clear hE50
        obtain ⟨k8_2, rfl, hk18_2, hk28_2⟩ := hP8_2
        clear hsz51
        refine WL_val (dd := some 45) rfl rfl rfl (r_eql rfl rfl) ?_
        refine WL_split (dd := some 46) rfl rfl rfl (r_move (v := .bool _) rfl) (fun hs8_4 => ?_) (fun hs8_4 => ?_)
        ·
          try with_reducible replace hs8_4 := of_decide_eq_true hs8_4
          refine WL_val (dd := some 47) rfl rfl rfl (r_move (v := .int .i64 _) rfl) ?_
          refine WL_val (dd := some 48) rfl rfl rfl (r_neq rfl rfl) ?_
          refine WL_val (dd := some 49) rfl rfl rfl (r_pick_t rfl (v := .bool _) rfl) ?_
          refine WL_split (dd := some 50) rfl rfl rfl (r_move (v := .bool _) rfl) (fun hs8_8 => ?_) (fun hs8_8 => ?_)
          ·
            try with_reducible replace hs8_8 := of_decide_eq_true hs8_8
            refine WL_val (dd := some 51) rfl rfl rfl (r_move (v := .int .i64 _) rfl) ?_
            refine WL_val (dd := some 52) rfl rfl rfl (r_neq rfl rfl) ?_
            refine WL_val (dd := some 53) rfl rfl rfl (r_pick_t rfl (v := .bool _) rfl) ?_
            refine WL_split (dd := some 54) rfl rfl rfl (r_move (v := .bool _) rfl) (fun hs8_12 => ?_) (fun hs8_12 => ?_)
            ·
              try with_reducible replace hs8_12 := of_decide_eq_true hs8_12
              refine WL_val (dd := some 55) rfl rfl rfl (r_move (v := x7_2) rfl) ?_
              refine WL_val (dd := some 56) rfl rfl rfl (r_lenS (v := x7_2) rfl hsl7_2 tb_el22) ?_
              refine WL_val (dd := some 57) rfl rfl rfl (r_neq rfl rfl) ?_
              refine WL_split (dd := some 58) rfl rfl rfl (r_move (v := .bool _) rfl) (fun hs8_16 => ?_) (fun hs8_16 => ?_)
              ·
                try with_reducible replace hs8_16 := of_decide_eq_true hs8_16
                have hq := (hany7_2 (size_0 hk28_2 hs8_4 hs8_8 hs8_12)).1
                rw [hq] at hs8_16
                exact absurd rfl hs8_16
              ·
                try with_reducible replace hs8_16 := of_decide_eq_false hs8_16
                refine WL_val (dd := some 59) rfl rfl rfl (r_move (v := .int .i64 _) rfl) ?_
                refine WL_val (dd := some 60) rfl rfl rfl (r_neq rfl rfl) ?_
                refine WL_val (dd := some 61) rfl rfl rfl (r_pick_f rfl (v := .bool _) rfl) ?_
                refine WL_split (dd := some 62) rfl rfl rfl (r_move (v := .bool _) rfl) (fun hs8_20 => ?_) (fun hs8_20 => ?_)
                ·
                  try with_reducible replace hs8_20 := of_decide_eq_true hs8_20
                  have hq := (hany7_2 (size_0 hk28_2 hs8_4 hs8_8 hs8_12)).2
                  exact absurd hq hs8_20
                ·
                  try with_reducible replace hs8_20 := of_decide_eq_false hs8_20
                  refine WL_val (dd := some 63) rfl rfl rfl (r_move (v := .pointer (some ⟨bz, 0, none⟩)) rfl) ?_
                  refine WL_val (dd := some 64) rfl rfl rfl (r_move (v := .int .i64 _) rfl) ?_
                  refine WL_call (dd := some 65) rfl rfl rfl (r_call2 tb_c39 (v0 := .pointer (some ⟨bz, 0, none⟩)) rfl (v1 := .int .i64 _) rfl) (CountAll (id.toNat + 1) _ _ _ _ _ _ _ _ hz hD hid (by omega)) (fun v8_23 W52 hE53 hP8_23 => ?_)
                  have hsz54 := (Below.size hB)
                  replace hB := below_ext hB hE53 (Nat.le_refl _)
                  replace hD := Dia.ext hE53 hD
                  replace hz := hE53.at hz
                  replace hP6_1 := hE53.ow hP6_1
                  replace hsl7_2 := hE53.slT hsl7_2
                  clear hE53
                  clear hsz54
                  obtain rfl := hP8_23
                  refine WL_val (dd := some 66) rfl rfl rfl (r_neq rfl rfl) ?_
                  refine WL_val (dd := some 67) rfl rfl rfl (r_pick_f rfl (v := .bool _) rfl) ?_
                  refine WL_val (dd := some 68) rfl rfl rfl (r_pick_t rfl (v := .bool _) rfl) ?_
                  refine WL_nil ?_
                  refine hK48 _ _ ?_
                  clear hK48 K47
                  refine WC_cond (b := _) rfl (fun hc2 => ?_) (fun hc2 => ?_)
                  ·
                    try with_reducible replace hc2 := of_decide_eq_true hc2
                    exact absurd (cnt_0 (size_0 hk28_2 hs8_4 hs8_8 hs8_12)) hc2
                  ·
                    try with_reducible replace hc2 := of_decide_eq_false hc2
                    refine WC_skip ?_
                    refine hK46 _ _ ?_
                    clear hK46 K45
                    refine WC_seq (fun K55 hK56 => ?_)
                    refine WC_region ?_
                    refine WL_val (dd := some 69) rfl rfl rfl (r_move (v := .pointer (some ⟨bz, 0, none⟩)) rfl) ?_
                    refine WL_val (dd := some 70) rfl rfl rfl (r_move (v := .int .i64 _) rfl) ?_
                    refine WL_call (dd := some 71) rfl rfl rfl (r_call3 tb_c25 (v0 := .pointer (some ⟨bz, 0, none⟩)) rfl (v1 := .int .i64 _) rfl (v2 := .int .i64 0) rfl) (C_drawknifelaw08_list _ _ _ _ _ _ _ (ofI f) _ hz hD hIa (by omega)) (fun v10_2 W57 hE58 hP10_2 => ?_)
                    have hlt59 := OwT.lt2 hP6_1
                    have hsz60 := (Below.size hB)
                    replace hB := below_ext hB hE58 (Nat.le_refl _)
                    replace hD := Dia.ext hE58 hD
                    replace hz := hE58.at hz
                    replace hP6_1 := hE58.ow hP6_1
                    replace hsl7_2 := hE58.slT hsl7_2
                    clear hE58
                    obtain ⟨hP10_2, hty10_2⟩ := hP10_2
                    clear hsz60
                    refine WL_val (dd := some 72) rfl rfl rfl (r_move (v := v6_1) rfl) ?_
                    refine WL_call (dd := some 73) rfl rfl rfl (r_call2 tb_c24 (v0 := v10_2) rfl (v1 := v6_1) rfl) (C_drawkniferef08_Same _ _ _ _ _ hP10_2 hP6_1.sl (by first | assumption | omega) (by first | assumption | omega)) (fun v10_4 W61 hE62 hP10_4 => ?_)
                    have hsz63 := (Below.size hB)
                    replace hB := below_ext hB hE62 (Nat.le_refl _)
                    replace hD := Dia.ext hE62 hD
                    replace hz := hE62.at hz
                    replace hP6_1 := hE62.ow hP6_1
                    replace hsl7_2 := hE62.slT hsl7_2
                    replace hP10_2 := hE62.slT hP10_2
                    replace hty10_2 := TyS.ext hE62 hty10_2
                    clear hE62
                    clear hsz63
                    obtain rfl := hP10_4
                    refine WL_split (dd := some 74) rfl rfl rfl (r_move (v := .bool _) rfl) (fun hs10_5 => ?_) (fun hs10_5 => ?_)
                    ·
                      try with_reducible replace hs10_5 := of_decide_eq_true hs10_5
                      refine WL_val (dd := some 75) rfl rfl rfl (r_move (v := .pointer (some ⟨bz, 0, none⟩)) rfl) ?_
                      refine WL_val (dd := some 76) rfl rfl rfl (r_move (v := .int .i64 _) rfl) ?_
                      refine WL_call (dd := some 77) rfl rfl rfl (r_call2 tb_c39 (v0 := .pointer (some ⟨bz, 0, none⟩)) rfl (v1 := .int .i64 _) rfl) (CountAll (a + 1) _ _ _ _ _ _ _ _ hz hD (by omega) (by omega)) (fun v10_8 W64 hE65 hP10_8 => ?_)
                      have hsz66 := (Below.size hB)
                      replace hB := below_ext hB hE65 (Nat.le_refl _)
                      replace hD := Dia.ext hE65 hD
                      replace hz := hE65.at hz
                      replace hP6_1 := hE65.ow hP6_1
                      replace hsl7_2 := hE65.slT hsl7_2
                      replace hP10_2 := hE65.slT hP10_2
                      replace hty10_2 := TyS.ext hE65 hty10_2
                      clear hE65
                      clear hsz66
                      obtain rfl := hP10_8
                      refine WL_val (dd := some 78) rfl rfl rfl (r_move (v := v6_1) rfl) ?_
                      refine WL_val (dd := some 79) rfl rfl rfl (r_lenS (v := v6_1) rfl hP6_1.sl tb_el22) ?_
                      refine WL_val (dd := some 80) rfl rfl rfl (r_eql rfl rfl) ?_
                      refine WL_val (dd := some 81) rfl rfl rfl (r_pick_t rfl (v := .bool _) rfl) ?_
                      refine WL_split (dd := some 82) rfl rfl rfl (r_move (v := .bool _) rfl) (fun hs10_13 => ?_) (fun hs10_13 => ?_)
                      ·
                        try with_reducible replace hs10_13 := of_decide_eq_true hs10_13
                        refine WL_val (dd := some 83) rfl rfl rfl (r_move (v := .pointer (some ⟨bz, 0, none⟩)) rfl) ?_
                        refine WL_val (dd := some 84) rfl rfl rfl (r_move (v := .int .i64 _) rfl) ?_
                        refine WL_call (dd := some 85) rfl rfl rfl (r_call2 tb_c38 (v0 := .pointer (some ⟨bz, 0, none⟩)) rfl (v1 := .int .i64 _) rfl) (C___zdd_Zdd__Size _ _ _ _ _ _ _ _ hz hD (by omega)) (fun v10_16 W67 hE68 hP10_16 => ?_)
                        have hsz69 := (Below.size hB)
                        replace hB := below_ext hB hE68 (Nat.le_refl _)
                        replace hD := Dia.ext hE68 hD
                        replace hz := hE68.at hz
                        replace hP6_1 := hE68.ow hP6_1
                        replace hsl7_2 := hE68.slT hsl7_2
                        replace hP10_2 := hE68.slT hP10_2
                        replace hty10_2 := TyS.ext hE68 hty10_2
                        clear hE68
                        obtain ⟨k10_16, rfl, hk110_16, hk210_16⟩ := hP10_16
                        clear hsz69
                        refine WL_val (dd := some 86) rfl rfl rfl (r_move (v := v6_1) rfl) ?_
                        refine WL_val (dd := some 87) rfl rfl rfl (r_lenS (v := v6_1) rfl hP6_1.sl tb_el22) ?_
                        refine WL_val (dd := some 88) rfl rfl rfl (r_mulI rfl rfl (by omega) (by omega)) ?_
                        refine WL_val (dd := some 89) rfl rfl rfl (r_leq rfl rfl) ?_
                        refine WL_val (dd := some 90) rfl rfl rfl (r_pick_t rfl (v := .bool _) rfl) ?_
                        refine WL_split (dd := some 91) rfl rfl rfl (r_move (v := .bool _) rfl) (fun hs10_22 => ?_) (fun hs10_22 => ?_)
                        ·
                          try with_reducible replace hs10_22 := of_decide_eq_true hs10_22
                          refine WL_call (dd := some 92) rfl rfl rfl (r_call0 tb_c19) (C_drawknifelaw08_knows _) (fun v10_23 W70 hE71 hP10_23 => ?_)
                          have hsz72 := (Below.size hB)
                          replace hB := below_ext hB hE71 (Nat.le_refl _)
                          replace hD := Dia.ext hE71 hD
                          replace hz := hE71.at hz
                          replace hP6_1 := hE71.ow hP6_1
                          replace hsl7_2 := hE71.slT hsl7_2
                          replace hP10_2 := hE71.slT hP10_2
                          replace hty10_2 := TyS.ext hE71 hty10_2
                          clear hE71
                          clear hsz72
                          obtain rfl := hP10_23
                          refine WL_val (dd := some 93) rfl rfl rfl (r_pick_t rfl (v := .bool _) rfl) ?_
                          refine WL_val (dd := some 4) rfl rfl rfl (r_assign (v := .bool _) rfl) ?_
                          refine WL_nil ?_
                          refine hK56 _ _ ?_
                          clear hK56 K55
                          refine WC_ret ?_
                          repeat (first | refine thenQ_ret ?_ | refine blockQ_ret ?_)
                          refine ret_t (v := .bool _) rfl ?_
                          refine ⟨hB, ?_⟩
                          rfl
                        ·
                          try with_reducible replace hs10_22 := of_decide_eq_false hs10_22
                          have hq := bnd_is hIa hw6
                          omega
                      ·
                        try with_reducible replace hs10_13 := of_decide_eq_false hs10_13
                        exact absurd (hIa.cnt hw6) hs10_13
                    ·
                      try with_reducible replace hs10_5 := of_decide_eq_false hs10_5
                      exact absurd rfl hs10_5
            ·
              try with_reducible replace hs8_12 := of_decide_eq_false hs8_12
              refine WL_skip (dd := some 55) rfl rfl rfl ?_
              refine WL_skip (dd := some 56) rfl rfl rfl ?_
              refine WL_skip (dd := some 57) rfl rfl rfl ?_
              refine WL_skip (dd := some 58) rfl rfl rfl ?_
              refine WL_skip (dd := some 59) rfl rfl rfl ?_
              refine WL_skip (dd := some 60) rfl rfl rfl ?_
              refine WL_skip (dd := some 61) rfl rfl rfl ?_
              refine WL_skip (dd := some 62) rfl rfl rfl ?_
              refine WL_skip (dd := some 63) rfl rfl rfl ?_
              refine WL_skip (dd := some 64) rfl rfl rfl ?_
              refine WL_skip (dd := some 65) rfl rfl rfl ?_
              refine WL_skip (dd := some 66) rfl rfl rfl ?_
              refine WL_skip (dd := some 67) rfl rfl rfl ?_
              refine WL_val (dd := some 68) rfl rfl rfl (r_pick_f rfl (v := .bool false) rfl) ?_
              refine WL_nil ?_
              refine hK48 _ _ ?_
              clear hK48 K47
              refine WC_cond_false rfl ?_
              refine WC_skip ?_
              refine hK46 _ _ ?_
              clear hK46 K45
              refine WC_seq (fun K73 hK74 => ?_)
              refine WC_region ?_
              refine WL_val (dd := some 69) rfl rfl rfl (r_move (v := .pointer (some ⟨bz, 0, none⟩)) rfl) ?_
              refine WL_val (dd := some 70) rfl rfl rfl (r_move (v := .int .i64 _) rfl) ?_
              refine WL_call (dd := some 71) rfl rfl rfl (r_call3 tb_c25 (v0 := .pointer (some ⟨bz, 0, none⟩)) rfl (v1 := .int .i64 _) rfl (v2 := .int .i64 0) rfl) (C_drawknifelaw08_list _ _ _ _ _ _ _ (ofI f) _ hz hD hIa (by omega)) (fun v10_2 W75 hE76 hP10_2 => ?_)
              have hlt77 := OwT.lt2 hP6_1
              have hsz78 := (Below.size hB)
              replace hB := below_ext hB hE76 (Nat.le_refl _)
              replace hD := Dia.ext hE76 hD
              replace hz := hE76.at hz
              replace hP6_1 := hE76.ow hP6_1
              replace hsl7_2 := hE76.slT hsl7_2
              clear hE76
              obtain ⟨hP10_2, hty10_2⟩ := hP10_2
              clear hsz78
              refine WL_val (dd := some 72) rfl rfl rfl (r_move (v := v6_1) rfl) ?_
              refine WL_call (dd := some 73) rfl rfl rfl (r_call2 tb_c24 (v0 := v10_2) rfl (v1 := v6_1) rfl) (C_drawkniferef08_Same _ _ _ _ _ hP10_2 hP6_1.sl (by first | assumption | omega) (by first | assumption | omega)) (fun v10_4 W79 hE80 hP10_4 => ?_)
              have hsz81 := (Below.size hB)
              replace hB := below_ext hB hE80 (Nat.le_refl _)
              replace hD := Dia.ext hE80 hD
              replace hz := hE80.at hz
              replace hP6_1 := hE80.ow hP6_1
              replace hsl7_2 := hE80.slT hsl7_2
              replace hP10_2 := hE80.slT hP10_2
              replace hty10_2 := TyS.ext hE80 hty10_2
              clear hE80
              clear hsz81
              obtain rfl := hP10_4
              refine WL_split (dd := some 74) rfl rfl rfl (r_move (v := .bool _) rfl) (fun hs10_5 => ?_) (fun hs10_5 => ?_)
              ·
                try with_reducible replace hs10_5 := of_decide_eq_true hs10_5
                refine WL_val (dd := some 75) rfl rfl rfl (r_move (v := .pointer (some ⟨bz, 0, none⟩)) rfl) ?_
                refine WL_val (dd := some 76) rfl rfl rfl (r_move (v := .int .i64 _) rfl) ?_
                refine WL_call (dd := some 77) rfl rfl rfl (r_call2 tb_c39 (v0 := .pointer (some ⟨bz, 0, none⟩)) rfl (v1 := .int .i64 _) rfl) (CountAll (a + 1) _ _ _ _ _ _ _ _ hz hD (by omega) (by omega)) (fun v10_8 W82 hE83 hP10_8 => ?_)
                have hsz84 := (Below.size hB)
                replace hB := below_ext hB hE83 (Nat.le_refl _)
                replace hD := Dia.ext hE83 hD
                replace hz := hE83.at hz
                replace hP6_1 := hE83.ow hP6_1
                replace hsl7_2 := hE83.slT hsl7_2
                replace hP10_2 := hE83.slT hP10_2
                replace hty10_2 := TyS.ext hE83 hty10_2
                clear hE83
                clear hsz84
                obtain rfl := hP10_8
                refine WL_val (dd := some 78) rfl rfl rfl (r_move (v := v6_1) rfl) ?_
                refine WL_val (dd := some 79) rfl rfl rfl (r_lenS (v := v6_1) rfl hP6_1.sl tb_el22) ?_
                refine WL_val (dd := some 80) rfl rfl rfl (r_eql rfl rfl) ?_
                refine WL_val (dd := some 81) rfl rfl rfl (r_pick_t rfl (v := .bool _) rfl) ?_
                refine WL_split (dd := some 82) rfl rfl rfl (r_move (v := .bool _) rfl) (fun hs10_13 => ?_) (fun hs10_13 => ?_)
                ·
                  try with_reducible replace hs10_13 := of_decide_eq_true hs10_13
                  refine WL_val (dd := some 83) rfl rfl rfl (r_move (v := .pointer (some ⟨bz, 0, none⟩)) rfl) ?_
                  refine WL_val (dd := some 84) rfl rfl rfl (r_move (v := .int .i64 _) rfl) ?_
                  refine WL_call (dd := some 85) rfl rfl rfl (r_call2 tb_c38 (v0 := .pointer (some ⟨bz, 0, none⟩)) rfl (v1 := .int .i64 _) rfl) (C___zdd_Zdd__Size _ _ _ _ _ _ _ _ hz hD (by omega)) (fun v10_16 W85 hE86 hP10_16 => ?_)
                  have hsz87 := (Below.size hB)
                  replace hB := below_ext hB hE86 (Nat.le_refl _)
                  replace hD := Dia.ext hE86 hD
                  replace hz := hE86.at hz
                  replace hP6_1 := hE86.ow hP6_1
                  replace hsl7_2 := hE86.slT hsl7_2
                  replace hP10_2 := hE86.slT hP10_2
                  replace hty10_2 := TyS.ext hE86 hty10_2
                  clear hE86
                  obtain ⟨k10_16, rfl, hk110_16, hk210_16⟩ := hP10_16
                  clear hsz87
                  refine WL_val (dd := some 86) rfl rfl rfl (r_move (v := v6_1) rfl) ?_
                  refine WL_val (dd := some 87) rfl rfl rfl (r_lenS (v := v6_1) rfl hP6_1.sl tb_el22) ?_
                  refine WL_val (dd := some 88) rfl rfl rfl (r_mulI rfl rfl (by omega) (by omega)) ?_
                  refine WL_val (dd := some 89) rfl rfl rfl (r_leq rfl rfl) ?_
                  refine WL_val (dd := some 90) rfl rfl rfl (r_pick_t rfl (v := .bool _) rfl) ?_
                  refine WL_split (dd := some 91) rfl rfl rfl (r_move (v := .bool _) rfl) (fun hs10_22 => ?_) (fun hs10_22 => ?_)
                  ·
                    try with_reducible replace hs10_22 := of_decide_eq_true hs10_22
                    refine WL_call (dd := some 92) rfl rfl rfl (r_call0 tb_c19) (C_drawknifelaw08_knows _) (fun v10_23 W88 hE89 hP10_23 => ?_)
                    have hsz90 := (Below.size hB)
                    replace hB := below_ext hB hE89 (Nat.le_refl _)
                    replace hD := Dia.ext hE89 hD
                    replace hz := hE89.at hz
                    replace hP6_1 := hE89.ow hP6_1
                    replace hsl7_2 := hE89.slT hsl7_2
                    replace hP10_2 := hE89.slT hP10_2
                    replace hty10_2 := TyS.ext hE89 hty10_2
                    clear hE89
                    clear hsz90
                    obtain rfl := hP10_23
                    refine WL_val (dd := some 93) rfl rfl rfl (r_pick_t rfl (v := .bool _) rfl) ?_
                    refine WL_val (dd := some 4) rfl rfl rfl (r_assign (v := .bool _) rfl) ?_
                    refine WL_nil ?_
                    refine hK74 _ _ ?_
                    clear hK74 K73
                    refine WC_ret ?_
                    repeat (first | refine thenQ_ret ?_ | refine blockQ_ret ?_)
                    refine ret_t (v := .bool _) rfl ?_
                    refine ⟨hB, ?_⟩
                    rfl
                  ·
                    try with_reducible replace hs10_22 := of_decide_eq_false hs10_22
                    have hq := bnd_is hIa hw6
                    omega
                ·
                  try with_reducible replace hs10_13 := of_decide_eq_false hs10_13
                  exact absurd (hIa.cnt hw6) hs10_13
              ·
                try with_reducible replace hs10_5 := of_decide_eq_false hs10_5
                exact absurd rfl hs10_5
          ·
            try with_reducible replace hs8_8 := of_decide_eq_false hs8_8
            refine WL_skip (dd := some 51) rfl rfl rfl ?_
            refine WL_skip (dd := some 52) rfl rfl rfl ?_
            refine WL_val (dd := some 53) rfl rfl rfl (r_pick_f rfl (v := .bool false) rfl) ?_
            refine WL_val (dd := some 54) rfl rfl rfl (r_move (v := .bool false) rfl) ?_
            refine WL_skip (dd := some 55) rfl rfl rfl ?_
            refine WL_skip (dd := some 56) rfl rfl rfl ?_
            refine WL_skip (dd := some 57) rfl rfl rfl ?_
            refine WL_skip (dd := some 58) rfl rfl rfl ?_
            refine WL_skip (dd := some 59) rfl rfl rfl ?_
            refine WL_skip (dd := some 60) rfl rfl rfl ?_
            refine WL_skip (dd := some 61) rfl rfl rfl ?_
            refine WL_skip (dd := some 62) rfl rfl rfl ?_
            refine WL_skip (dd := some 63) rfl rfl rfl ?_
            refine WL_skip (dd := some 64) rfl rfl rfl ?_
            refine WL_skip (dd := some 65) rfl rfl rfl ?_
            refine WL_skip (dd := some 66) rfl rfl rfl ?_
            refine WL_skip (dd := some 67) rfl rfl rfl ?_
            refine WL_val (dd := some 68) rfl rfl rfl (r_pick_f rfl (v := .bool false) rfl) ?_
            refine WL_nil ?_
            refine hK48 _ _ ?_
            clear hK48 K47
            refine WC_cond_false rfl ?_
            refine WC_skip ?_
            refine hK46 _ _ ?_
            clear hK46 K45
            refine WC_seq (fun K91 hK92 => ?_)
            refine WC_region ?_
            refine WL_val (dd := some 69) rfl rfl rfl (r_move (v := .pointer (some ⟨bz, 0, none⟩)) rfl) ?_
            refine WL_val (dd := some 70) rfl rfl rfl (r_move (v := .int .i64 _) rfl) ?_
            refine WL_call (dd := some 71) rfl rfl rfl (r_call3 tb_c25 (v0 := .pointer (some ⟨bz, 0, none⟩)) rfl (v1 := .int .i64 _) rfl (v2 := .int .i64 0) rfl) (C_drawknifelaw08_list _ _ _ _ _ _ _ (ofI f) _ hz hD hIa (by omega)) (fun v10_2 W93 hE94 hP10_2 => ?_)
            have hlt95 := OwT.lt2 hP6_1
            have hsz96 := (Below.size hB)
            replace hB := below_ext hB hE94 (Nat.le_refl _)
            replace hD := Dia.ext hE94 hD
            replace hz := hE94.at hz
            replace hP6_1 := hE94.ow hP6_1
            replace hsl7_2 := hE94.slT hsl7_2
            clear hE94
            obtain ⟨hP10_2, hty10_2⟩ := hP10_2
            clear hsz96
            refine WL_val (dd := some 72) rfl rfl rfl (r_move (v := v6_1) rfl) ?_
            refine WL_call (dd := some 73) rfl rfl rfl (r_call2 tb_c24 (v0 := v10_2) rfl (v1 := v6_1) rfl) (C_drawkniferef08_Same _ _ _ _ _ hP10_2 hP6_1.sl (by first | assumption | omega) (by first | assumption | omega)) (fun v10_4 W97 hE98 hP10_4 => ?_)
            have hsz99 := (Below.size hB)
            replace hB := below_ext hB hE98 (Nat.le_refl _)
            replace hD := Dia.ext hE98 hD
            replace hz := hE98.at hz
            replace hP6_1 := hE98.ow hP6_1
            replace hsl7_2 := hE98.slT hsl7_2
            replace hP10_2 := hE98.slT hP10_2
            replace hty10_2 := TyS.ext hE98 hty10_2
            clear hE98
            clear hsz99
            obtain rfl := hP10_4
            refine WL_split (dd := some 74) rfl rfl rfl (r_move (v := .bool _) rfl) (fun hs10_5 => ?_) (fun hs10_5 => ?_)
            ·
              try with_reducible replace hs10_5 := of_decide_eq_true hs10_5
              refine WL_val (dd := some 75) rfl rfl rfl (r_move (v := .pointer (some ⟨bz, 0, none⟩)) rfl) ?_
              refine WL_val (dd := some 76) rfl rfl rfl (r_move (v := .int .i64 _) rfl) ?_
              refine WL_call (dd := some 77) rfl rfl rfl (r_call2 tb_c39 (v0 := .pointer (some ⟨bz, 0, none⟩)) rfl (v1 := .int .i64 _) rfl) (CountAll (a + 1) _ _ _ _ _ _ _ _ hz hD (by omega) (by omega)) (fun v10_8 W100 hE101 hP10_8 => ?_)
              have hsz102 := (Below.size hB)
              replace hB := below_ext hB hE101 (Nat.le_refl _)
              replace hD := Dia.ext hE101 hD
              replace hz := hE101.at hz
              replace hP6_1 := hE101.ow hP6_1
              replace hsl7_2 := hE101.slT hsl7_2
              replace hP10_2 := hE101.slT hP10_2
              replace hty10_2 := TyS.ext hE101 hty10_2
              clear hE101
              clear hsz102
              obtain rfl := hP10_8
              refine WL_val (dd := some 78) rfl rfl rfl (r_move (v := v6_1) rfl) ?_
              refine WL_val (dd := some 79) rfl rfl rfl (r_lenS (v := v6_1) rfl hP6_1.sl tb_el22) ?_
              refine WL_val (dd := some 80) rfl rfl rfl (r_eql rfl rfl) ?_
              refine WL_val (dd := some 81) rfl rfl rfl (r_pick_t rfl (v := .bool _) rfl) ?_
              refine WL_split (dd := some 82) rfl rfl rfl (r_move (v := .bool _) rfl) (fun hs10_13 => ?_) (fun hs10_13 => ?_)
              ·
                try with_reducible replace hs10_13 := of_decide_eq_true hs10_13
                refine WL_val (dd := some 83) rfl rfl rfl (r_move (v := .pointer (some ⟨bz, 0, none⟩)) rfl) ?_
                refine WL_val (dd := some 84) rfl rfl rfl (r_move (v := .int .i64 _) rfl) ?_
                refine WL_call (dd := some 85) rfl rfl rfl (r_call2 tb_c38 (v0 := .pointer (some ⟨bz, 0, none⟩)) rfl (v1 := .int .i64 _) rfl) (C___zdd_Zdd__Size _ _ _ _ _ _ _ _ hz hD (by omega)) (fun v10_16 W103 hE104 hP10_16 => ?_)
                have hsz105 := (Below.size hB)
                replace hB := below_ext hB hE104 (Nat.le_refl _)
                replace hD := Dia.ext hE104 hD
                replace hz := hE104.at hz
                replace hP6_1 := hE104.ow hP6_1
                replace hsl7_2 := hE104.slT hsl7_2
                replace hP10_2 := hE104.slT hP10_2
                replace hty10_2 := TyS.ext hE104 hty10_2
                clear hE104
                obtain ⟨k10_16, rfl, hk110_16, hk210_16⟩ := hP10_16
                clear hsz105
                refine WL_val (dd := some 86) rfl rfl rfl (r_move (v := v6_1) rfl) ?_
                refine WL_val (dd := some 87) rfl rfl rfl (r_lenS (v := v6_1) rfl hP6_1.sl tb_el22) ?_
                refine WL_val (dd := some 88) rfl rfl rfl (r_mulI rfl rfl (by omega) (by omega)) ?_
                refine WL_val (dd := some 89) rfl rfl rfl (r_leq rfl rfl) ?_
                refine WL_val (dd := some 90) rfl rfl rfl (r_pick_t rfl (v := .bool _) rfl) ?_
                refine WL_split (dd := some 91) rfl rfl rfl (r_move (v := .bool _) rfl) (fun hs10_22 => ?_) (fun hs10_22 => ?_)
                ·
                  try with_reducible replace hs10_22 := of_decide_eq_true hs10_22
                  refine WL_call (dd := some 92) rfl rfl rfl (r_call0 tb_c19) (C_drawknifelaw08_knows _) (fun v10_23 W106 hE107 hP10_23 => ?_)
                  have hsz108 := (Below.size hB)
                  replace hB := below_ext hB hE107 (Nat.le_refl _)
                  replace hD := Dia.ext hE107 hD
                  replace hz := hE107.at hz
                  replace hP6_1 := hE107.ow hP6_1
                  replace hsl7_2 := hE107.slT hsl7_2
                  replace hP10_2 := hE107.slT hP10_2
                  replace hty10_2 := TyS.ext hE107 hty10_2
                  clear hE107
                  clear hsz108
                  obtain rfl := hP10_23
                  refine WL_val (dd := some 93) rfl rfl rfl (r_pick_t rfl (v := .bool _) rfl) ?_
                  refine WL_val (dd := some 4) rfl rfl rfl (r_assign (v := .bool _) rfl) ?_
                  refine WL_nil ?_
                  refine hK92 _ _ ?_
                  clear hK92 K91
                  refine WC_ret ?_
                  repeat (first | refine thenQ_ret ?_ | refine blockQ_ret ?_)
                  refine ret_t (v := .bool _) rfl ?_
                  refine ⟨hB, ?_⟩
                  rfl
                ·
                  try with_reducible replace hs10_22 := of_decide_eq_false hs10_22
                  have hq := bnd_is hIa hw6
                  omega
              ·
                try with_reducible replace hs10_13 := of_decide_eq_false hs10_13
                exact absurd (hIa.cnt hw6) hs10_13
            ·
              try with_reducible replace hs10_5 := of_decide_eq_false hs10_5
              exact absurd rfl hs10_5
        ·
          try with_reducible replace hs8_4 := of_decide_eq_false hs8_4
          refine WL_skip (dd := some 47) rfl rfl rfl ?_
          refine WL_skip (dd := some 48) rfl rfl rfl ?_
          refine WL_val (dd := some 49) rfl rfl rfl (r_pick_f rfl (v := .bool false) rfl) ?_
          refine WL_val (dd := some 50) rfl rfl rfl (r_move (v := .bool false) rfl) ?_
          refine WL_skip (dd := some 51) rfl rfl rfl ?_
          refine WL_skip (dd := some 52) rfl rfl rfl ?_
          refine WL_val (dd := some 53) rfl rfl rfl (r_pick_f rfl (v := .bool false) rfl) ?_
          refine WL_val (dd := some 54) rfl rfl rfl (r_move (v := .bool false) rfl) ?_
          refine WL_skip (dd := some 55) rfl rfl rfl ?_
          refine WL_skip (dd := some 56) rfl rfl rfl ?_
          refine WL_skip (dd := some 57) rfl rfl rfl ?_
          refine WL_skip (dd := some 58) rfl rfl rfl ?_
          refine WL_skip (dd := some 59) rfl rfl rfl ?_
          refine WL_skip (dd := some 60) rfl rfl rfl ?_
          refine WL_skip (dd := some 61) rfl rfl rfl ?_
          refine WL_skip (dd := some 62) rfl rfl rfl ?_
          refine WL_skip (dd := some 63) rfl rfl rfl ?_
          refine WL_skip (dd := some 64) rfl rfl rfl ?_
          refine WL_skip (dd := some 65) rfl rfl rfl ?_
          refine WL_skip (dd := some 66) rfl rfl rfl ?_
          refine WL_skip (dd := some 67) rfl rfl rfl ?_
          refine WL_val (dd := some 68) rfl rfl rfl (r_pick_f rfl (v := .bool false) rfl) ?_
          refine WL_nil ?_
          refine hK48 _ _ ?_
          clear hK48 K47
          refine WC_cond_false rfl ?_
          refine WC_skip ?_
          refine hK46 _ _ ?_
          clear hK46 K45
          refine WC_seq (fun K109 hK110 => ?_)
          refine WC_region ?_
          refine WL_val (dd := some 69) rfl rfl rfl (r_move (v := .pointer (some ⟨bz, 0, none⟩)) rfl) ?_
          refine WL_val (dd := some 70) rfl rfl rfl (r_move (v := .int .i64 _) rfl) ?_
          refine WL_call (dd := some 71) rfl rfl rfl (r_call3 tb_c25 (v0 := .pointer (some ⟨bz, 0, none⟩)) rfl (v1 := .int .i64 _) rfl (v2 := .int .i64 0) rfl) (C_drawknifelaw08_list _ _ _ _ _ _ _ (ofI f) _ hz hD hIa (by omega)) (fun v10_2 W111 hE112 hP10_2 => ?_)
          have hlt113 := OwT.lt2 hP6_1
          have hsz114 := (Below.size hB)
          replace hB := below_ext hB hE112 (Nat.le_refl _)
          replace hD := Dia.ext hE112 hD
          replace hz := hE112.at hz
          replace hP6_1 := hE112.ow hP6_1
          replace hsl7_2 := hE112.slT hsl7_2
          clear hE112
          obtain ⟨hP10_2, hty10_2⟩ := hP10_2
          clear hsz114
          refine WL_val (dd := some 72) rfl rfl rfl (r_move (v := v6_1) rfl) ?_
          refine WL_call (dd := some 73) rfl rfl rfl (r_call2 tb_c24 (v0 := v10_2) rfl (v1 := v6_1) rfl) (C_drawkniferef08_Same _ _ _ _ _ hP10_2 hP6_1.sl (by first | assumption | omega) (by first | assumption | omega)) (fun v10_4 W115 hE116 hP10_4 => ?_)
          have hsz117 := (Below.size hB)
          replace hB := below_ext hB hE116 (Nat.le_refl _)
          replace hD := Dia.ext hE116 hD
          replace hz := hE116.at hz
          replace hP6_1 := hE116.ow hP6_1
          replace hsl7_2 := hE116.slT hsl7_2
          replace hP10_2 := hE116.slT hP10_2
          replace hty10_2 := TyS.ext hE116 hty10_2
          clear hE116
          clear hsz117
          obtain rfl := hP10_4
          refine WL_split (dd := some 74) rfl rfl rfl (r_move (v := .bool _) rfl) (fun hs10_5 => ?_) (fun hs10_5 => ?_)
          ·
            try with_reducible replace hs10_5 := of_decide_eq_true hs10_5
            refine WL_val (dd := some 75) rfl rfl rfl (r_move (v := .pointer (some ⟨bz, 0, none⟩)) rfl) ?_
            refine WL_val (dd := some 76) rfl rfl rfl (r_move (v := .int .i64 _) rfl) ?_
            refine WL_call (dd := some 77) rfl rfl rfl (r_call2 tb_c39 (v0 := .pointer (some ⟨bz, 0, none⟩)) rfl (v1 := .int .i64 _) rfl) (CountAll (a + 1) _ _ _ _ _ _ _ _ hz hD (by omega) (by omega)) (fun v10_8 W118 hE119 hP10_8 => ?_)
            have hsz120 := (Below.size hB)
            replace hB := below_ext hB hE119 (Nat.le_refl _)
            replace hD := Dia.ext hE119 hD
            replace hz := hE119.at hz
            replace hP6_1 := hE119.ow hP6_1
            replace hsl7_2 := hE119.slT hsl7_2
            replace hP10_2 := hE119.slT hP10_2
            replace hty10_2 := TyS.ext hE119 hty10_2
            clear hE119
            clear hsz120
            obtain rfl := hP10_8
            refine WL_val (dd := some 78) rfl rfl rfl (r_move (v := v6_1) rfl) ?_
            refine WL_val (dd := some 79) rfl rfl rfl (r_lenS (v := v6_1) rfl hP6_1.sl tb_el22) ?_
            refine WL_val (dd := some 80) rfl rfl rfl (r_eql rfl rfl) ?_
            refine WL_val (dd := some 81) rfl rfl rfl (r_pick_t rfl (v := .bool _) rfl) ?_
            refine WL_split (dd := some 82) rfl rfl rfl (r_move (v := .bool _) rfl) (fun hs10_13 => ?_) (fun hs10_13 => ?_)
            ·
              try with_reducible replace hs10_13 := of_decide_eq_true hs10_13
              refine WL_val (dd := some 83) rfl rfl rfl (r_move (v := .pointer (some ⟨bz, 0, none⟩)) rfl) ?_
              refine WL_val (dd := some 84) rfl rfl rfl (r_move (v := .int .i64 _) rfl) ?_
              refine WL_call (dd := some 85) rfl rfl rfl (r_call2 tb_c38 (v0 := .pointer (some ⟨bz, 0, none⟩)) rfl (v1 := .int .i64 _) rfl) (C___zdd_Zdd__Size _ _ _ _ _ _ _ _ hz hD (by omega)) (fun v10_16 W121 hE122 hP10_16 => ?_)
              have hsz123 := (Below.size hB)
              replace hB := below_ext hB hE122 (Nat.le_refl _)
              replace hD := Dia.ext hE122 hD
              replace hz := hE122.at hz
              replace hP6_1 := hE122.ow hP6_1
              replace hsl7_2 := hE122.slT hsl7_2
              replace hP10_2 := hE122.slT hP10_2
              replace hty10_2 := TyS.ext hE122 hty10_2
              clear hE122
              obtain ⟨k10_16, rfl, hk110_16, hk210_16⟩ := hP10_16
              clear hsz123
              refine WL_val (dd := some 86) rfl rfl rfl (r_move (v := v6_1) rfl) ?_
              refine WL_val (dd := some 87) rfl rfl rfl (r_lenS (v := v6_1) rfl hP6_1.sl tb_el22) ?_
              refine WL_val (dd := some 88) rfl rfl rfl (r_mulI rfl rfl (by omega) (by omega)) ?_
              refine WL_val (dd := some 89) rfl rfl rfl (r_leq rfl rfl) ?_
              refine WL_val (dd := some 90) rfl rfl rfl (r_pick_t rfl (v := .bool _) rfl) ?_
              refine WL_split (dd := some 91) rfl rfl rfl (r_move (v := .bool _) rfl) (fun hs10_22 => ?_) (fun hs10_22 => ?_)
              ·
                try with_reducible replace hs10_22 := of_decide_eq_true hs10_22
                refine WL_call (dd := some 92) rfl rfl rfl (r_call0 tb_c19) (C_drawknifelaw08_knows _) (fun v10_23 W124 hE125 hP10_23 => ?_)
                have hsz126 := (Below.size hB)
                replace hB := below_ext hB hE125 (Nat.le_refl _)
                replace hD := Dia.ext hE125 hD
                replace hz := hE125.at hz
                replace hP6_1 := hE125.ow hP6_1
                replace hsl7_2 := hE125.slT hsl7_2
                replace hP10_2 := hE125.slT hP10_2
                replace hty10_2 := TyS.ext hE125 hty10_2
                clear hE125
                clear hsz126
                obtain rfl := hP10_23
                refine WL_val (dd := some 93) rfl rfl rfl (r_pick_t rfl (v := .bool _) rfl) ?_
                refine WL_val (dd := some 4) rfl rfl rfl (r_assign (v := .bool _) rfl) ?_
                refine WL_nil ?_
                refine hK110 _ _ ?_
                clear hK110 K109
                refine WC_ret ?_
                repeat (first | refine thenQ_ret ?_ | refine blockQ_ret ?_)
                refine ret_t (v := .bool _) rfl ?_
                refine ⟨hB, ?_⟩
                rfl
              ·
                try with_reducible replace hs10_22 := of_decide_eq_false hs10_22
                have hq := bnd_is hIa hw6
                omega
            ·
              try with_reducible replace hs10_13 := of_decide_eq_false hs10_13
              exact absurd (hIa.cnt hw6) hs10_13
          ·
            try with_reducible replace hs10_5 := of_decide_eq_false hs10_5
            exact absurd rfl hs10_5

set_option maxRecDepth 10000 in
theorem C_drawknifelaw08_ZddJoins (xf : Value) (f : List Int) (xg : Value) (g : List Int) (w : World) (hf : SlT encI 1 w xf f) (hg : SlT encI 1 w xg g) :
    Fn Try.prog 3 #[xf, xg] w fun v w' => v = .bool true := by
  refine Fn_intro (n := 82) Try.func3 rfl rfl (Nat.le_of_ble_eq_true rfl) ?_
  have hB : Below w.heap.size w w := Below.refl _ _
  refine WC_seq (fun K1 hK2 => ?_)
  refine WC_region ?_
  refine WL_val (dd := some 4) rfl rfl rfl (r_assign (v := .bool false) rfl) ?_
  refine WL_nil ?_
  refine hK2 _ _ ?_
  clear hK2 K1
  refine WC_seq (fun K3 hK4 => ?_)
  refine WC_seq (fun K5 hK6 => ?_)
  refine WC_region ?_
  refine WL_val (dd := some 15) rfl rfl rfl (r_move (v := xf) rfl) ?_
  refine WL_val (dd := some 16) rfl rfl rfl (r_lenS (v := xf) rfl (Below.slT hB hf) tb_el22) ?_
  refine WL_val (dd := some 17) rfl rfl rfl (r_gtr rfl rfl) ?_
  refine WL_split (dd := some 18) rfl rfl rfl (r_move (v := .bool _) rfl) (fun hs1_3 => ?_) (fun hs1_3 => ?_)
  ·
    try with_reducible replace hs1_3 := of_decide_eq_true hs1_3
    refine WL_skip (dd := some 19) rfl rfl rfl ?_
    refine WL_skip (dd := some 20) rfl rfl rfl ?_
    refine WL_skip (dd := some 21) rfl rfl rfl ?_
    refine WL_val (dd := some 22) rfl rfl rfl (r_pick_t rfl (v := .bool true) rfl) ?_
    refine WL_nil ?_
    refine hK6 _ _ ?_
    clear hK6 K5
    refine WC_cond_true rfl ?_
    refine WC_seq (fun K7 hK8 => ?_)
    refine WC_region ?_
    refine WL_call (dd := some 23) rfl rfl rfl (r_call0 tb_c19) (C_drawknifelaw08_knows _) (fun v2_0 W9 hE10 hP2_0 => ?_)
    have hsz11 := (Below.size hB)
    replace hB := below_ext hB hE10 (Nat.le_refl _)
    clear hE10
    clear hsz11
    obtain rfl := hP2_0
    refine WL_val (dd := some 4) rfl rfl rfl (r_assign (v := .bool _) rfl) ?_
    refine WL_nil ?_
    refine hK8 _ _ ?_
    clear hK8 K7
    refine WC_ret ?_
    repeat (first | refine thenQ_ret ?_ | refine blockQ_ret ?_)
    try clear hK4 K3
    refine ret_t (v := .bool _) rfl ?_
    refine ⟨hB, ?_⟩
    rfl
  ·
    try with_reducible replace hs1_3 := of_decide_eq_false hs1_3
    refine WL_val (dd := some 19) rfl rfl rfl (r_move (v := xg) rfl) ?_
    refine WL_val (dd := some 20) rfl rfl rfl (r_lenS (v := xg) rfl (Below.slT hB hg) tb_el22) ?_
    refine WL_val (dd := some 21) rfl rfl rfl (r_gtr rfl rfl) ?_
    refine WL_val (dd := some 22) rfl rfl rfl (r_pick_f rfl (v := .bool _) rfl) ?_
    refine WL_nil ?_
    refine hK6 _ _ ?_
    clear hK6 K5
    refine WC_cond (b := _) rfl (fun hc0 => ?_) (fun hc0 => ?_)
    ·
      try with_reducible replace hc0 := of_decide_eq_true hc0
      refine WC_seq (fun K12 hK13 => ?_)
      refine WC_region ?_
      refine WL_call (dd := some 23) rfl rfl rfl (r_call0 tb_c19) (C_drawknifelaw08_knows _) (fun v2_0 W14 hE15 hP2_0 => ?_)
      have hsz16 := (Below.size hB)
      replace hB := below_ext hB hE15 (Nat.le_refl _)
      clear hE15
      clear hsz16
      obtain rfl := hP2_0
      refine WL_val (dd := some 4) rfl rfl rfl (r_assign (v := .bool _) rfl) ?_
      refine WL_nil ?_
      refine hK13 _ _ ?_
      clear hK13 K12
      refine WC_ret ?_
      repeat (first | refine thenQ_ret ?_ | refine blockQ_ret ?_)
      try clear hK4 K3
      refine ret_t (v := .bool _) rfl ?_
      refine ⟨hB, ?_⟩
      rfl
    ·
      try with_reducible replace hc0 := of_decide_eq_false hc0
      refine WC_skip ?_
      refine hK4 _ _ ?_
      clear hK4 K3
      refine WC_seq (fun K17 hK18 => ?_)
      refine WC_region ?_
      refine WL_val (dd := some 25) rfl rfl rfl (r_move (v := xf) rfl) ?_
      refine WL_val (dd := some 26) rfl rfl rfl (r_move (v := xg) rfl) ?_
      refine WL_call (dd := some 27) rfl rfl rfl (r_call2 tb_c20 (v0 := xf) rfl (v1 := xg) rfl) (C_drawknifelaw08_start _ _ _ _ _ (Below.slT hB hf) (Below.slT hB hg) (by first | assumption | omega) (by first | assumption | omega)) (fun v3_2 W19 hE20 hP3_2 => ?_)
      have hsz21 := (Below.size hB)
      replace hB := below_ext hB hE20 (Nat.le_refl _)
      clear hE20
      obtain ⟨bz, ba, bm, a, b, ns3_2, rfl, hz, hD, hst⟩ := hP3_2
      replace hD := Dia.mono hD hsz21
      clear hsz21
      refine WL_val (dd := some 24) rfl rfl rfl (r_move (v := .tuple #[.pointer (some ⟨bz, 0, none⟩), .int .i64 (a : Int), .int .i64 (b : Int), .bool _, .bool true]) rfl) ?_
      refine WL_val (dd := some 28) rfl rfl rfl (r_ext5_0 (h := rfl)) ?_
      refine WL_val (dd := some 29) rfl rfl rfl (r_ext5_1 (h := rfl)) ?_
      refine WL_val (dd := some 30) rfl rfl rfl (r_ext5_2 (h := rfl)) ?_
      refine WL_val (dd := some 31) rfl rfl rfl (r_ext5_3 (h := rfl)) ?_
      refine WL_val (dd := some 32) rfl rfl rfl (r_ext5_4 (h := rfl)) ?_
      refine WL_val (dd := some 5) rfl rfl rfl (r_assign (v := .pointer (some ⟨bz, 0, none⟩)) rfl) ?_
      refine WL_val (dd := some 6) rfl rfl rfl (r_assign (v := .int .i64 _) rfl) ?_
      refine WL_val (dd := some 7) rfl rfl rfl (r_assign (v := .int .i64 _) rfl) ?_
      refine WL_val (dd := some 8) rfl rfl rfl (r_assign (v := .bool _) rfl) ?_
      refine WL_val (dd := some 9) rfl rfl rfl (r_assign (v := .bool true) rfl) ?_
      refine WL_nil ?_
      refine hK18 _ _ ?_
      clear hK18 K17
      refine WC_seq (fun K22 hK23 => ?_)
      refine WC_seq (fun K24 hK25 => ?_)
      refine WC_region ?_
      refine WL_val (dd := some 33) rfl rfl rfl (r_move (v := .bool _) rfl) ?_
      refine WL_val (dd := some 34) rfl rfl rfl (r_not rfl) ?_
      refine WL_split (dd := some 35) rfl rfl rfl (r_move (v := .bool _) rfl) (fun hs4_2 => ?_) (fun hs4_2 => ?_)
      ·
        try with_reducible replace hs4_2 := of_decide_eq_true hs4_2
        refine WL_skip (dd := some 36) rfl rfl rfl ?_
        refine WL_skip (dd := some 37) rfl rfl rfl ?_
        refine WL_val (dd := some 38) rfl rfl rfl (r_pick_t rfl (v := .bool true) rfl) ?_
        refine WL_nil ?_
        refine hK25 _ _ ?_
        clear hK25 K24
        refine WC_cond_true rfl ?_
        refine WC_seq (fun K26 hK27 => ?_)
        refine WC_region ?_
        refine WL_val (dd := some 39) rfl rfl rfl (r_move (v := .bool true) rfl) ?_
        refine WL_val (dd := some 40) rfl rfl rfl (r_move (v := .bool true) rfl) ?_
        refine WL_call (dd := some 41) rfl rfl rfl (r_call0 tb_c19) (C_drawknifelaw08_knows _) (fun v5_2 W28 hE29 hP5_2 => ?_)
        have hsz30 := (Below.size hB)
        replace hB := below_ext hB hE29 (Nat.le_refl _)
        replace hD := Dia.ext hE29 hD
        replace hz := hE29.at hz
        clear hE29
        clear hsz30
        obtain rfl := hP5_2
        refine WL_val (dd := some 42) rfl rfl rfl (r_pick_t rfl (v := .bool _) rfl) ?_
        refine WL_val (dd := some 4) rfl rfl rfl (r_assign (v := .bool _) rfl) ?_
        refine WL_nil ?_
        refine hK27 _ _ ?_
        clear hK27 K26
        refine WC_ret ?_
        repeat (first | refine thenQ_ret ?_ | refine blockQ_ret ?_)
        try clear hK23 K22
        refine ret_t (v := .bool _) rfl ?_
        refine ⟨hB, ?_⟩
        rfl
      ·
        try with_reducible replace hs4_2 := of_decide_eq_false hs4_2
        refine WL_val (dd := some 36) rfl rfl rfl (r_move (v := .bool true) rfl) ?_
        refine WL_val (dd := some 37) rfl rfl rfl (r_not rfl) ?_
        refine WL_val (dd := some 38) rfl rfl rfl (r_pick_f rfl (v := .bool _) rfl) ?_
        refine WL_nil ?_
        refine hK25 _ _ ?_
        clear hK25 K24
        refine WC_cond (b := _) rfl (fun hc1 => ?_) (fun hc1 => ?_)
        ·
          try with_reducible replace hc1 := of_decide_eq_true hc1
          refine WC_seq (fun K31 hK32 => ?_)
          refine WC_region ?_
          refine WL_val (dd := some 39) rfl rfl rfl (r_move (v := .bool true) rfl) ?_
          refine WL_val (dd := some 40) rfl rfl rfl (r_move (v := .bool true) rfl) ?_
          refine WL_call (dd := some 41) rfl rfl rfl (r_call0 tb_c19) (C_drawknifelaw08_knows _) (fun v5_2 W33 hE34 hP5_2 => ?_)
          have hsz35 := (Below.size hB)
          replace hB := below_ext hB hE34 (Nat.le_refl _)
          replace hD := Dia.ext hE34 hD
          replace hz := hE34.at hz
          clear hE34
          clear hsz35
          obtain rfl := hP5_2
          refine WL_val (dd := some 42) rfl rfl rfl (r_pick_t rfl (v := .bool _) rfl) ?_
          refine WL_val (dd := some 4) rfl rfl rfl (r_assign (v := .bool _) rfl) ?_
          refine WL_nil ?_
          refine hK32 _ _ ?_
          clear hK32 K31
          refine WC_ret ?_
          repeat (first | refine thenQ_ret ?_ | refine blockQ_ret ?_)
          try clear hK23 K22
          refine ret_t (v := .bool _) rfl ?_
          refine ⟨hB, ?_⟩
          rfl
        ·
          try with_reducible replace hc1 := of_decide_eq_false hc1
          refine WC_skip ?_
          refine hK23 _ _ ?_
          clear hK23 K22
          refine WC_seq (fun K36 hK37 => ?_)
          have hok : (ofZB f && ofZB g) = true := by simpa using hs4_2
          obtain ⟨hIa, hIb, hnl⟩ := hst hok
          have hof : ofZB f = true := (Bool.and_eq_true_iff.1 hok).1
          have hog : ofZB g = true := (Bool.and_eq_true_iff.1 hok).2
          have hxl := ofI_len f
          have hyl := ofI_len g
          refine WC_region ?_
          refine WL_val (dd := some 10) rfl rfl rfl (r_assign (v := .slice none 0 0) rfl) ?_
          refine WL_nil ?_
          refine hK37 _ _ ?_
          clear hK37 K36
          refine WC_seq (fun K38 hK39 => ?_)
          refine WC_seq (fun K40 hK41 => ?_)
          refine WC_region ?_
          refine WL_val (dd := some 11) rfl rfl rfl (r_assign (v := .int .i64 0) rfl) ?_
          refine WL_nil ?_
          refine hK41 _ _ ?_
          clear hK41 K40
          refine WC_block ?_
          refine WC_loop (σ := (Nat) × (Value)) [10, 11, 12, 43, 44, 45, 46, 47, 48, 49, 50, 51, 52, 53, 54, 55, 56, 57, 58, 59, 60, 61, 62, 63, 64, 65] (fun (i, v0) => [(11, .int .i64 (i : Int)), (10, v0)]) (fun sg W => match sg with | (i, v0) => (Below w.heap.size w W) ∧ (Dia 147 150 w.heap.size ba bm 20000 W ns3_2) ∧ (At W bz _ 100) ∧ (OwT encI 1 3 W w.heap.size v0 (ofI (allJT f g i 0))) ∧ (i ≤ f.length) ∧ (True)) (fun (i, v0) => f.length - i) ((0, .slice none 0 0)) ⟨rfl, rfl, trivial⟩ ⟨hB, hD, hz, OwT.nil, (Nat.zero_le _), trivial⟩ ?_
          clear hB hD hz
          rintro ⟨i, v0⟩ g43 W42 ⟨hB, hD, hz, ho, hi, _⟩ J44 hJ45
          refine WC_seq (fun K46 hK47 => ?_)
          refine WC_seq (fun K48 hK49 => ?_)
          refine WC_region ?_
          refine WL_val (dd := some 43) rfl rfl rfl (r_move (v := .int .i64 _) rfl) ?_
          refine WL_val (dd := some 44) rfl rfl rfl (r_move (v := xf) rfl) ?_
          refine WL_val (dd := some 45) rfl rfl rfl (r_lenS (v := xf) rfl (Below.slT hB hf) tb_el22) ?_
          refine WL_val (dd := some 46) rfl rfl rfl (r_lss rfl rfl) ?_
          refine WL_nil ?_
          refine hK49 _ _ ?_
          clear hK49 K48
          refine WC_cond (b := _) rfl (fun hc2 => ?_) (fun hc2 => ?_)
          ·
            try with_reducible replace hc2 := of_decide_eq_true hc2
            refine WC_skip ?_
            refine hK47 _ _ ?_
            clear hK47 K46
            refine WC_seq (fun K50 hK51 => ?_)
            refine WC_block ?_
            refine WC_seq (fun K52 hK53 => ?_)
            refine WC_region ?_
            refine WL_val (dd := some 12) rfl rfl rfl (r_assign (v := .int .i64 0) rfl) ?_
            refine WL_nil ?_
            refine hK53 _ _ ?_
            clear hK53 K52
            refine WC_block ?_
            refine WC_loop (σ := (Nat) × (Value)) [10, 12, 49, 50, 51, 52, 53, 54, 55, 56, 57, 58, 59, 60, 61, 62, 63, 64, 65] (fun (k, v1) => [(12, .int .i64 (k : Int)), (10, v1)]) (fun sg W => match sg with | (k, v1) => (Below w.heap.size w W) ∧ (Dia 147 150 w.heap.size ba bm 20000 W ns3_2) ∧ (At W bz _ 100) ∧ (OwT encI 1 3 W w.heap.size v1 (ofI (allJT f g i k))) ∧ (k ≤ g.length) ∧ (True)) (fun (k, v1) => g.length - k) ((0, v0)) ⟨rfl, rfl, trivial⟩ ⟨hB, hD, hz, ho, (Nat.zero_le _), trivial⟩ ?_
            clear hB hD hz ho
            rintro ⟨k, v1⟩ g55 W54 ⟨hB, hD, hz, ho2, hk, _⟩ J56 hJ57
            refine WC_seq (fun K58 hK59 => ?_)
            refine WC_seq (fun K60 hK61 => ?_)
            refine WC_region ?_
            refine WL_val (dd := some 49) rfl rfl rfl (r_move (v := .int .i64 _) rfl) ?_
            refine WL_val (dd := some 50) rfl rfl rfl (r_move (v := xg) rfl) ?_
            refine WL_val (dd := some 51) rfl rfl rfl (r_lenS (v := xg) rfl (Below.slT hB hg) tb_el22) ?_
            refine WL_val (dd := some 52) rfl rfl rfl (r_lss rfl rfl) ?_
            refine WL_nil ?_
            refine hK61 _ _ ?_
            clear hK61 K60
            refine WC_cond (b := _) rfl (fun hc3 => ?_) (fun hc3 => ?_)
            ·
              try with_reducible replace hc3 := of_decide_eq_true hc3
              refine WC_skip ?_
              refine hK59 _ _ ?_
              clear hK59 K58
              refine WC_seq (fun K62 hK63 => ?_)
              refine WC_block ?_
              have hik := ofB_iff.1 hof _ (getD_mem (l := f) (i := i) (d := 0) (by omega))
              have hkk := ofB_iff.1 hog _ (getD_mem (l := g) (i := k) (d := 0) (by omega))
              have hal := allJT_len (A := f) (B := g) i k (by omega) (by omega) (by omega) (by omega)
              refine WC_draw Ext tb_mix (fun W64 hE65 => ?_)
              replace hB := below_ext hB hE65 (Nat.le_refl _)
              replace hD := Dia.ext hE65 hD
              replace hz := hE65.at hz
              replace ho2 := hE65.ow ho2
              have hS := Ext.refl W64
              refine WT_take (dd := some 55) 0 rfl (by kernel_rfl) (by kernel_rfl) (by kernel_rfl) rfl rfl rfl (fun _wq _hq => r_move (v := v1) rfl) hS ?_
              refine WT_take (dd := some 56) 1 rfl (by kernel_rfl) (by kernel_rfl) (by kernel_rfl) rfl rfl rfl (fun _wq _hq => r_move (v := xf) rfl) hS ?_
              refine WT_take (dd := some 57) 2 rfl (by kernel_rfl) (by kernel_rfl) (by kernel_rfl) rfl rfl rfl (fun _wq _hq => r_move (v := .int .i64 _) rfl) hS ?_
              refine WT_take (dd := some 58) 3 rfl (by kernel_rfl) (by kernel_rfl) (by kernel_rfl) rfl rfl rfl (fun _wq hq => r_idxS (v := xf) rfl (hq.slT (Below.slT hB hf)) rfl tb_el22 (by omega) (by omega)) hS ?_
              refine WT_take (dd := some 59) 4 rfl (by kernel_rfl) (by kernel_rfl) (by kernel_rfl) rfl rfl rfl (fun _wq hq => r_load1 (v := .int .i64 _) rfl tb_sc3 (SlT.cell (hq.slT (Below.slT hB hf)) encI_len 0 (by omega) (by omega) 0 rfl)) hS ?_
              refine WT_take (dd := some 60) 5 rfl (by kernel_rfl) (by kernel_rfl) (by kernel_rfl) rfl rfl rfl (fun _wq _hq => r_move (v := xg) rfl) hS ?_
              refine WT_take (dd := some 61) 6 rfl (by kernel_rfl) (by kernel_rfl) (by kernel_rfl) rfl rfl rfl (fun _wq _hq => r_move (v := .int .i64 _) rfl) hS ?_
              refine WT_take (dd := some 62) 7 rfl (by kernel_rfl) (by kernel_rfl) (by kernel_rfl) rfl rfl rfl (fun _wq hq => r_idxS (v := xg) rfl (hq.slT (Below.slT hB hg)) rfl tb_el22 (by omega) (by omega)) hS ?_
              refine WT_take (dd := some 63) 8 rfl (by kernel_rfl) (by kernel_rfl) (by kernel_rfl) rfl rfl rfl (fun _wq hq => r_load1 (v := .int .i64 _) rfl tb_sc3 (SlT.cell (hq.slT (Below.slT hB hg)) encI_len 0 (by omega) (by omega) 0 rfl)) hS ?_
              refine WT_one (dd := some 64) 9 (by kernel_rfl) rfl rfl rfl rfl (Yd.call (r_call2 tb_c22 (v0 := .int .i64 _) rfl (v1 := .int .i64 _) rfl) (C_drawkniferef08_Both (f.getD i 0) (g.getD k 0) _ hik.1 hik.2 hkk.1 hkk.2) (fun v13_9 W66 hE67 hP13_9 => ⟨.inl (hS.trans hE67), ?_⟩))
              have hsz68 := (Below.size hB)
              have sv69_hB := hB
              have sv69_hz := hz
              have sv69_ho2 := ho2
              replace hB := below_ext hB hE67 (Nat.le_refl _)
              replace hD := Dia.ext hE67 hD
              replace hz := hE67.at hz
              replace ho2 := hE67.ow ho2
              replace hS := hS.trans hE67
              clear hE67
              clear hsz68
              obtain rfl := hP13_9
              refine WT_one (dd := some 65) 10 (by kernel_rfl) rfl rfl rfl rfl (Yd.call (r_call2 tb_c21 (v0 := v1) rfl (v1 := .int .i64 _) rfl) (C_drawkniferef08_With _ _ (ofI (allJT f g i k)) (joI (f.getD i 0) (g.getD k 0)) _ ho2 (Below.size hB) (by omega)) (fun v13_10 W70 hE71 hP13_10 => ⟨.inl (hS.trans hE71), ?_⟩))
              have hlt72 := OwT.lt2 ho2
              have hsz73 := (Below.size hB)
              replace hB := below_ext hB hE71 (Nat.le_refl _)
              replace hD := Dia.ext hE71 hD
              replace hz := hE71.at hz
              replace ho2 := hE71.ow ho2
              replace hS := hS.trans hE71
              clear hE71
              clear ho2
              clear hsz73
              refine WT_take (dd := some 10) 11 rfl (by kernel_rfl) (by kernel_rfl) (by kernel_rfl) rfl rfl rfl (fun _wq _hq => r_assign (v := v13_10) rfl) hS ?_
              refine WT_done (by kernel_rfl) ?_
              try clear sv69_hB sv69_hz sv69_ho2
              refine hK63 _ _ ?_
              clear hK63 K62
              refine WC_region ?_
              refine WL_val (dd := some 53) rfl rfl rfl (r_move (v := .int .i64 _) rfl) ?_
              refine WL_val (dd := some 54) rfl rfl rfl (r_addI rfl rfl (by omega) (by omega)) ?_
              refine WL_val (dd := some 12) rfl rfl rfl (r_assign (v := .int .i64 _) rfl) ?_
              refine WL_nil ?_
              refine hJ57 _ _ ((k + 1, v13_10)) ?_ ?_ ?_ ?_
              · repeat (first | exact agree.mask _ _ _ | refine agree.updo ?_ rfl _ | refine agree.updL ?_ _ rfl | refine agree.maskS rfl ?_)
              · exact ⟨rfl, rfl, trivial⟩
              · exact ⟨hB, hD, hz, (by rw [← allJT_s (by omega)]; exact hP13_10), (by omega), trivial⟩
              · show g.length - (k + 1) < g.length - k; omega
            ·
              try with_reducible replace hc3 := of_decide_eq_false hc3
              refine WC_exit ?_
              refine hK51 _ _ ?_
              clear hK59 K58
              clear hJ57 J56
              clear hK51 K50
              obtain rfl : k = g.length := by omega
              refine WC_region ?_
              refine WL_val (dd := some 47) rfl rfl rfl (r_move (v := .int .i64 _) rfl) ?_
              refine WL_val (dd := some 48) rfl rfl rfl (r_addI rfl rfl (by omega) (by omega)) ?_
              refine WL_val (dd := some 11) rfl rfl rfl (r_assign (v := .int .i64 _) rfl) ?_
              refine WL_nil ?_
              refine hJ45 _ _ ((i + 1, v1)) ?_ ?_ ?_ ?_
              · repeat (first | exact agree.mask _ _ _ | refine agree.updo ?_ rfl _ | refine agree.updL ?_ _ rfl | refine agree.maskS rfl ?_)
              · exact ⟨rfl, rfl, trivial⟩
              · exact ⟨hB, hD, hz, (by rw [← allJT_r (by omega)]; exact ho2), (by omega), trivial⟩
              · show f.length - (i + 1) < f.length - i; omega
          ·
            try with_reducible replace hc2 := of_decide_eq_false hc2
            refine WC_exit ?_
            refine hK39 _ _ ?_
            clear hK47 K46
            clear hJ45 J44
            clear hK39 K38
            refine WC_seq (fun K74 hK75 => ?_)
            obtain rfl : i = f.length := by omega
            rw [allJT_e] at ho
            refine WC_region ?_
            refine WL_val (dd := some 67) rfl rfl rfl (r_move (v := .pointer (some ⟨bz, 0, none⟩)) rfl) ?_
            refine WL_val (dd := some 68) rfl rfl rfl (r_move (v := .int .i64 _) rfl) ?_
            refine WL_val (dd := some 69) rfl rfl rfl (r_move (v := .int .i64 _) rfl) ?_
            have hw14_3 := hD.wf
            refine WL_callG (dd := some 70) rfl rfl rfl (r_call3 tb_c23 (v0 := .pointer (some ⟨bz, 0, none⟩)) rfl (v1 := .int .i64 _) rfl (v2 := .int .i64 _) rfl) (C___zdd_Zdd__Join _ _ _ _ _ _ a b _ (Below.size hB) hz hD hIa.v hIb.v) (fun v14_3 W76 hP14_3 => ?_)
            obtain ⟨ns14_3, id14_3, er14_3, rfl, hx14_3, hDn14_3, hg14_3⟩ := hP14_3
            replace hB := Below.dx hB (Nat.le_refl _) (Nat.le_refl _) hx14_3
            replace hz := At.dx hD hx14_3 hz (by decide) (by decide)
            replace ho := OwT.dx hD hx14_3 ho (by decide) (by decide)
            replace hD := hDn14_3
            refine WL_val (dd := some 66) rfl rfl rfl (r_move (v := .tuple #[.int .i64 (id14_3 : Int), .int .i64 er14_3]) rfl) ?_
            refine WL_val (dd := some 71) rfl rfl rfl (r_ext2_0 (h := rfl)) ?_
            refine WL_val (dd := some 72) rfl rfl rfl (r_ext2_1 (h := rfl)) ?_
            refine WL_val (dd := some 13) rfl rfl rfl (r_assign (v := .int .i64 _) rfl) ?_
            refine WL_val (dd := some 14) rfl rfl rfl (r_assign (v := .int .i64 _) rfl) ?_
            refine WL_nil ?_
            refine hK75 _ _ ?_
            clear hK75 K74
            refine WC_seq (fun K78 hK79 => ?_)
            obtain ⟨he14_3, hIj, hp14_3, hl14_3⟩ := room_J hg14_3 hw14_3 hIa hIb 6 6 (by omega) (by omega) (by omega)
            subst he14_3
            have hal := allJ_le (A := f) (B := g) (by omega) (by omega)
            have hae := allJ_of f g
            refine WC_region ?_
            refine WL_val (dd := some 73) rfl rfl rfl (r_move (v := .pointer (some ⟨bz, 0, none⟩)) rfl) ?_
            refine WL_val (dd := some 74) rfl rfl rfl (r_move (v := .int .i64 _) rfl) ?_
            refine WL_val (dd := some 75) rfl rfl rfl (r_move (v := .int .i64 _) rfl) ?_
            refine WL_call (dd := some 76) rfl rfl rfl (r_call3 tb_c25 (v0 := .pointer (some ⟨bz, 0, none⟩)) rfl (v1 := .int .i64 _) rfl (v2 := .int .i64 _) rfl) (C_drawknifelaw08_list _ _ _ _ _ _ _ (ofI (allJ (ofI f) (ofI g))) _ hz hD hIj (by rw [hae]; omega)) (fun v15_3 W80 hE81 hP15_3 => ?_)
            have hlt82 := OwT.lt2 ho
            have hsz83 := (Below.size hB)
            replace hB := below_ext hB hE81 (Nat.le_refl _)
            replace hD := Dia.ext hE81 hD
            replace hz := hE81.at hz
            replace ho := hE81.ow ho
            clear hE81
            obtain ⟨hP15_3, hty15_3⟩ := hP15_3
            clear hsz83
            refine WL_val (dd := some 77) rfl rfl rfl (r_move (v := v0) rfl) ?_
            have hal2 : (ofI (allJ (ofI f) (ofI g))).length ≤ 1000000 := by rw [hae]; omega
            refine WL_call (dd := some 78) rfl rfl rfl (r_call2 tb_c24 (v0 := v15_3) rfl (v1 := v0) rfl) (C_drawkniferef08_Same _ _ _ _ _ hP15_3 ho.sl (by first | assumption | omega) (by first | assumption | omega)) (fun v15_5 W84 hE85 hP15_5 => ?_)
            have hsz86 := (Below.size hB)
            replace hB := below_ext hB hE85 (Nat.le_refl _)
            replace hD := Dia.ext hE85 hD
            replace hz := hE85.at hz
            replace ho := hE85.ow ho
            replace hP15_3 := hE85.slT hP15_3
            replace hty15_3 := TyS.ext hE85 hty15_3
            clear hE85
            clear hsz86
            obtain rfl := hP15_5
            refine WL_split (dd := some 79) rfl rfl rfl (r_move (v := .bool _) rfl) (fun hs15_6 => ?_) (fun hs15_6 => ?_)
            ·
              try with_reducible replace hs15_6 := of_decide_eq_true hs15_6
              refine WL_call (dd := some 80) rfl rfl rfl (r_call0 tb_c19) (C_drawknifelaw08_knows _) (fun v15_7 W87 hE88 hP15_7 => ?_)
              have hsz89 := (Below.size hB)
              replace hB := below_ext hB hE88 (Nat.le_refl _)
              replace hD := Dia.ext hE88 hD
              replace hz := hE88.at hz
              replace ho := hE88.ow ho
              replace hP15_3 := hE88.slT hP15_3
              replace hty15_3 := TyS.ext hE88 hty15_3
              clear hE88
              clear hsz89
              obtain rfl := hP15_7
              refine WL_val (dd := some 81) rfl rfl rfl (r_pick_t rfl (v := .bool _) rfl) ?_
              refine WL_val (dd := some 4) rfl rfl rfl (r_assign (v := .bool _) rfl) ?_
              refine WL_nil ?_
              refine hK79 _ _ ?_
              clear hK79 K78
              refine WC_ret ?_
              repeat (first | refine thenQ_ret ?_ | refine blockQ_ret ?_)
              refine ret_t (v := .bool _) rfl ?_
              refine ⟨hB, ?_⟩
              rfl
            ·
              try with_reducible replace hs15_6 := of_decide_eq_false hs15_6
              exact absurd hae hs15_6

set_option maxRecDepth 10000 in
theorem C_drawknifelaw08_ZddLeast (xf : Value) (f : List Int) (w : World) (hf : SlT encI 1 w xf f) :
    Fn Try.prog 4 #[xf] w fun v w' => v = .bool true := by
  refine Fn_intro (n := 87) Try.func4 rfl rfl (Nat.le_of_ble_eq_true rfl) ?_
  have hB : Below w.heap.size w w := Below.refl _ _
  refine WC_seq (fun K1 hK2 => ?_)
  refine WC_region ?_
  refine WL_val (dd := some 2) rfl rfl rfl (r_assign (v := .bool false) rfl) ?_
  refine WL_nil ?_
  refine hK2 _ _ ?_
  clear hK2 K1
  refine WC_seq (fun K3 hK4 => ?_)
  refine WC_seq (fun K5 hK6 => ?_)
  refine WC_region ?_
  refine WL_val (dd := some 15) rfl rfl rfl (r_move (v := xf) rfl) ?_
  refine WL_val (dd := some 16) rfl rfl rfl (r_lenS (v := xf) rfl (Below.slT hB hf) tb_el22) ?_
  refine WL_val (dd := some 17) rfl rfl rfl (r_gtr rfl rfl) ?_
  refine WL_nil ?_
  refine hK6 _ _ ?_
  clear hK6 K5
  refine WC_cond (b := _) rfl (fun hc0 => ?_) (fun hc0 => ?_)
  ·
    try with_reducible replace hc0 := of_decide_eq_true hc0
    refine WC_seq (fun K7 hK8 => ?_)
    refine WC_region ?_
    refine WL_call (dd := some 18) rfl rfl rfl (r_call0 tb_c19) (C_drawknifelaw08_knows _) (fun v2_0 W9 hE10 hP2_0 => ?_)
    have hsz11 := (Below.size hB)
    replace hB := below_ext hB hE10 (Nat.le_refl _)
    clear hE10
    clear hsz11
    obtain rfl := hP2_0
    refine WL_val (dd := some 2) rfl rfl rfl (r_assign (v := .bool _) rfl) ?_
    refine WL_nil ?_
    refine hK8 _ _ ?_
    clear hK8 K7
    refine WC_ret ?_
    repeat (first | refine thenQ_ret ?_ | refine blockQ_ret ?_)
    try clear hK4 K3
    refine ret_t (v := .bool _) rfl ?_
    refine ⟨hB, ?_⟩
    rfl
  ·
    try with_reducible replace hc0 := of_decide_eq_false hc0
    refine WC_skip ?_
    refine hK4 _ _ ?_
    clear hK4 K3
    refine WC_seq (fun K12 hK13 => ?_)
    have hgl : ([] : List Int).length ≤ 40 := by decide
    refine WC_region ?_
    refine WL_val (dd := some 20) rfl rfl rfl (r_move (v := xf) rfl) ?_
    refine WL_call (dd := some 21) rfl rfl rfl (r_call2 tb_c20 (v0 := xf) rfl (v1 := .slice none 0 0) rfl) (C_drawknifelaw08_start _ _ _ _ _ (Below.slT hB hf) SlT.nil (by first | assumption | omega) (by first | assumption | omega)) (fun v3_1 W14 hE15 hP3_1 => ?_)
    have hsz16 := (Below.size hB)
    replace hB := below_ext hB hE15 (Nat.le_refl _)
    clear hE15
    obtain ⟨bz, ba, bm, a, b, ns3_1, rfl, hz, hD, hst⟩ := hP3_1
    replace hD := Dia.mono hD hsz16
    clear hsz16
    refine WL_val (dd := some 19) rfl rfl rfl (r_move (v := .tuple #[.pointer (some ⟨bz, 0, none⟩), .int .i64 (a : Int), .int .i64 (b : Int), .bool _, .bool true]) rfl) ?_
    refine WL_val (dd := some 22) rfl rfl rfl (r_ext5_0 (h := rfl)) ?_
    refine WL_val (dd := some 23) rfl rfl rfl (r_ext5_1 (h := rfl)) ?_
    refine WL_val (dd := some 24) rfl rfl rfl (r_ext5_2 (h := rfl)) ?_
    refine WL_val (dd := some 25) rfl rfl rfl (r_ext5_3 (h := rfl)) ?_
    refine WL_val (dd := some 26) rfl rfl rfl (r_ext5_4 (h := rfl)) ?_
    refine WL_val (dd := some 3) rfl rfl rfl (r_assign (v := .pointer (some ⟨bz, 0, none⟩)) rfl) ?_
    refine WL_val (dd := some 4) rfl rfl rfl (r_assign (v := .int .i64 _) rfl) ?_
    refine WL_val (dd := some 5) rfl rfl rfl (r_assign (v := .int .i64 _) rfl) ?_
    refine WL_val (dd := some 6) rfl rfl rfl (r_assign (v := .bool _) rfl) ?_
    refine WL_val (dd := some 7) rfl rfl rfl (r_assign (v := .bool true) rfl) ?_
    refine WL_nil ?_
    refine hK13 _ _ ?_
    clear hK13 K12
    refine WC_seq (fun K17 hK18 => ?_)
    refine WC_seq (fun K19 hK20 => ?_)
    refine WC_region ?_
    refine WL_val (dd := some 27) rfl rfl rfl (r_move (v := .bool _) rfl) ?_
    refine WL_val (dd := some 28) rfl rfl rfl (r_not rfl) ?_
    refine WL_split (dd := some 29) rfl rfl rfl (r_move (v := .bool _) rfl) (fun hs4_2 => ?_) (fun hs4_2 => ?_)
    ·
      try with_reducible replace hs4_2 := of_decide_eq_true hs4_2
      refine WL_skip (dd := some 30) rfl rfl rfl ?_
      refine WL_skip (dd := some 31) rfl rfl rfl ?_
      refine WL_val (dd := some 32) rfl rfl rfl (r_pick_t rfl (v := .bool true) rfl) ?_
      refine WL_nil ?_
      refine hK20 _ _ ?_
      clear hK20 K19
      refine WC_cond_true rfl ?_
      refine WC_seq (fun K21 hK22 => ?_)
      refine WC_region ?_
      refine WL_val (dd := some 33) rfl rfl rfl (r_move (v := .bool true) rfl) ?_
      refine WL_val (dd := some 34) rfl rfl rfl (r_move (v := .bool true) rfl) ?_
      refine WL_call (dd := some 35) rfl rfl rfl (r_call0 tb_c19) (C_drawknifelaw08_knows _) (fun v5_2 W23 hE24 hP5_2 => ?_)
      have hsz25 := (Below.size hB)
      replace hB := below_ext hB hE24 (Nat.le_refl _)
      replace hD := Dia.ext hE24 hD
      replace hz := hE24.at hz
      clear hE24
      clear hsz25
      obtain rfl := hP5_2
      refine WL_val (dd := some 36) rfl rfl rfl (r_pick_t rfl (v := .bool _) rfl) ?_
      refine WL_val (dd := some 2) rfl rfl rfl (r_assign (v := .bool _) rfl) ?_
      refine WL_nil ?_
      refine hK22 _ _ ?_
      clear hK22 K21
      refine WC_ret ?_
      repeat (first | refine thenQ_ret ?_ | refine blockQ_ret ?_)
      try clear hK18 K17
      refine ret_t (v := .bool _) rfl ?_
      refine ⟨hB, ?_⟩
      rfl
    ·
      try with_reducible replace hs4_2 := of_decide_eq_false hs4_2
      refine WL_val (dd := some 30) rfl rfl rfl (r_move (v := .bool true) rfl) ?_
      refine WL_val (dd := some 31) rfl rfl rfl (r_not rfl) ?_
      refine WL_val (dd := some 32) rfl rfl rfl (r_pick_f rfl (v := .bool _) rfl) ?_
      refine WL_nil ?_
      refine hK20 _ _ ?_
      clear hK20 K19
      refine WC_cond (b := _) rfl (fun hc1 => ?_) (fun hc1 => ?_)
      ·
        try with_reducible replace hc1 := of_decide_eq_true hc1
        refine WC_seq (fun K26 hK27 => ?_)
        refine WC_region ?_
        refine WL_val (dd := some 33) rfl rfl rfl (r_move (v := .bool true) rfl) ?_
        refine WL_val (dd := some 34) rfl rfl rfl (r_move (v := .bool true) rfl) ?_
        refine WL_call (dd := some 35) rfl rfl rfl (r_call0 tb_c19) (C_drawknifelaw08_knows _) (fun v5_2 W28 hE29 hP5_2 => ?_)
        have hsz30 := (Below.size hB)
        replace hB := below_ext hB hE29 (Nat.le_refl _)
        replace hD := Dia.ext hE29 hD
        replace hz := hE29.at hz
        clear hE29
        clear hsz30
        obtain rfl := hP5_2
        refine WL_val (dd := some 36) rfl rfl rfl (r_pick_t rfl (v := .bool _) rfl) ?_
        refine WL_val (dd := some 2) rfl rfl rfl (r_assign (v := .bool _) rfl) ?_
        refine WL_nil ?_
        refine hK27 _ _ ?_
        clear hK27 K26
        refine WC_ret ?_
        repeat (first | refine thenQ_ret ?_ | refine blockQ_ret ?_)
        try clear hK18 K17
        refine ret_t (v := .bool _) rfl ?_
        refine ⟨hB, ?_⟩
        rfl
      ·
        try with_reducible replace hc1 := of_decide_eq_false hc1
        refine WC_skip ?_
        refine hK18 _ _ ?_
        clear hK18 K17
        refine WC_seq (fun K31 hK32 => ?_)
        have hok : (ofZB f && ofZB []) = true := by simpa using hs4_2
        obtain ⟨hIa, hIb, hnl⟩ := hst hok
        have hof : ofZB f = true := (Bool.and_eq_true_iff.1 hok).1
        have hog : ofZB [] = true := (Bool.and_eq_true_iff.1 hok).2
        have hxl := ofI_len f
        have hyl := ofI_len ([] : List Int)
        refine WC_region ?_
        refine WL_val (dd := some 38) rfl rfl rfl (r_move (v := .pointer (some ⟨bz, 0, none⟩)) rfl) ?_
        refine WL_val (dd := some 39) rfl rfl rfl (r_move (v := .int .i64 _) rfl) ?_
        have hw6_2 := hD.wf
        refine WL_callG (dd := some 40) rfl rfl rfl (r_call2 tb_c26 (v0 := .pointer (some ⟨bz, 0, none⟩)) rfl (v1 := .int .i64 _) rfl) (C___zdd_Zdd__Least _ _ _ _ _ _ a _ (Below.size hB) hz hD hIa.v) (fun v6_2 W33 hP6_2 => ?_)
        obtain ⟨ns6_2, id6_2, er6_2, rfl, hx6_2, hDn6_2, hg6_2⟩ := hP6_2
        replace hB := Below.dx hB (Nat.le_refl _) (Nat.le_refl _) hx6_2
        replace hz := At.dx hD hx6_2 hz (by decide) (by decide)
        replace hD := hDn6_2
        refine WL_val (dd := some 37) rfl rfl rfl (r_move (v := .tuple #[.int .i64 (id6_2 : Int), .int .i64 er6_2]) rfl) ?_
        refine WL_val (dd := some 41) rfl rfl rfl (r_ext2_0 (h := rfl)) ?_
        refine WL_val (dd := some 42) rfl rfl rfl (r_ext2_1 (h := rfl)) ?_
        refine WL_val (dd := some 8) rfl rfl rfl (r_assign (v := .int .i64 _) rfl) ?_
        refine WL_val (dd := some 9) rfl rfl rfl (r_assign (v := .int .i64 _) rfl) ?_
        refine WL_nil ?_
        refine hK32 _ _ ?_
        clear hK32 K31
        refine WC_seq (fun K35 hK36 => ?_)
        obtain ⟨he6_2, hIl, hp6_2, hl6_2⟩ := room_S hg6_2 hw6_2 hIa 12 (by omega) (by omega)
        subst he6_2
        replace hIa := hIa.pre hp6_2
        have hl1 := leastTo_le (ofI f)
        refine WC_region ?_
        refine WL_val (dd := some 43) rfl rfl rfl (r_move (v := .pointer (some ⟨bz, 0, none⟩)) rfl) ?_
        refine WL_val (dd := some 44) rfl rfl rfl (r_move (v := .int .i64 _) rfl) ?_
        refine WL_val (dd := some 45) rfl rfl rfl (r_move (v := .int .i64 _) rfl) ?_
        refine WL_call (dd := some 46) rfl rfl rfl (r_call3 tb_c25 (v0 := .pointer (some ⟨bz, 0, none⟩)) rfl (v1 := .int .i64 _) rfl (v2 := .int .i64 _) rfl) (C_drawknifelaw08_list _ _ _ _ _ _ _ (leastTo (ofI f) (ofI f).length) _ hz hD hIl (by omega)) (fun v7_3 W37 hE38 hP7_3 => ?_)
        have hsz39 := (Below.size hB)
        replace hB := below_ext hB hE38 (Nat.le_refl _)
        replace hD := Dia.ext hE38 hD
        replace hz := hE38.at hz
        clear hE38
        obtain ⟨hP7_3, hty7_3⟩ := hP7_3
        clear hsz39
        refine WL_val (dd := some 10) rfl rfl rfl (r_assign (v := v7_3) rfl) ?_
        refine WL_nil ?_
        refine hK36 _ _ ?_
        clear hK36 K35
        refine WC_seq (fun K40 hK41 => ?_)
        have hit := ofB_mem hof
        refine WC_region ?_
        refine WL_val (dd := some 47) rfl rfl rfl (r_move (v := xf) rfl) ?_
        refine WL_call (dd := some 48) rfl rfl rfl (r_call1 tb_c27 (v0 := xf) rfl) (C_drawkniferef08_Of _ _ _ (Below.slT hB hf) (by first | assumption | omega)) (fun v8_1 W42 hE43 hP8_1 => ?_)
        have hsz44 := (Below.size hB)
        replace hB := below_ext hB hE43 (Nat.le_refl _)
        replace hD := Dia.ext hE43 hD
        replace hz := hE43.at hz
        replace hP7_3 := hE43.slT hP7_3
        replace hty7_3 := TyS.ext hE43 hty7_3
        clear hE43
        replace hP8_1 := OwT.mono hP8_1 hsz44
        clear hsz44
        refine WL_val (dd := some 11) rfl rfl rfl (r_assign (v := v8_1) rfl) ?_
        refine WL_nil ?_
        refine hK41 _ _ ?_
        clear hK41 K40
        refine WC_seq (fun K45 hK46 => ?_)
        refine WC_seq (fun K47 hK48 => ?_)
        refine WC_region ?_
        refine WL_val (dd := some 12) rfl rfl rfl (r_assign (v := .int .i64 0) rfl) ?_
        refine WL_nil ?_
        refine hK48 _ _ ?_
        clear hK48 K47
        refine WC_block ?_
        refine WC_loop (σ := (Nat)) [2, 12, 13, 14, 49, 50, 51, 52, 53, 54, 55, 56, 57, 58, 59, 60, 61, 62, 63, 64, 65, 66, 67, 68, 69, 70, 71, 72, 73, 74, 75, 76, 77, 78, 79] (fun i => [(12, .int .i64 (i : Int))]) (fun i W => (Below w.heap.size w W) ∧ (Dia 147 150 w.heap.size ba bm 20000 W ns6_2) ∧ (At W bz _ 100) ∧ (SlT encI 1 W v7_3 _) ∧ (TyS 3 W v7_3 (leastTo (ofI f) (ofI f).length)) ∧ (OwT encI 1 3 W w.heap.size v8_1 _) ∧ (i ≤ (ofI f).length) ∧ (True)) (fun i => (ofI f).length - i) (0) ⟨rfl, trivial⟩ ⟨hB, hD, hz, hP7_3, hty7_3, hP8_1, (Nat.zero_le _), trivial⟩ ?_
        clear hB hD hz hP7_3 hty7_3 hP8_1
        rintro i g50 W49 ⟨hB, hD, hz, hP7_3, hty7_3, hP8_1, hi, _⟩ J51 hJ52
        refine WC_seq (fun K53 hK54 => ?_)
        refine WC_seq (fun K55 hK56 => ?_)
        refine WC_region ?_
        refine WL_val (dd := some 49) rfl rfl rfl (r_move (v := .int .i64 _) rfl) ?_
        refine WL_val (dd := some 50) rfl rfl rfl (r_move (v := v8_1) rfl) ?_
        refine WL_val (dd := some 51) rfl rfl rfl (r_lenS (v := v8_1) rfl hP8_1.sl tb_el22) ?_
        refine WL_val (dd := some 52) rfl rfl rfl (r_lss rfl rfl) ?_
        refine WL_nil ?_
        refine hK56 _ _ ?_
        clear hK56 K55
        refine WC_cond (b := _) rfl (fun hc2 => ?_) (fun hc2 => ?_)
        ·
          try with_reducible replace hc2 := of_decide_eq_true hc2
          refine WC_skip ?_
          refine hK54 _ _ ?_
          clear hK54 K53
          refine WC_seq (fun K57 hK58 => ?_)
          refine WC_block ?_
          refine WC_seq (fun K59 hK60 => ?_)
          refine WC_region ?_
          refine WL_val (dd := some 13) rfl rfl rfl (r_assign (v := .bool false) rfl) ?_
          refine WL_nil ?_
          refine hK60 _ _ ?_
          clear hK60 K59
          refine WC_seq (fun K61 hK62 => ?_)
          refine WC_seq (fun K63 hK64 => ?_)
          refine WC_region ?_
          refine WL_val (dd := some 14) rfl rfl rfl (r_assign (v := .int .i64 0) rfl) ?_
          refine WL_nil ?_
          refine hK64 _ _ ?_
          clear hK64 K63
          refine WC_block ?_
          refine WC_loop (σ := (Nat)) [13, 14, 55, 56, 57, 58, 59, 60, 61, 62, 63, 64, 65, 66, 67, 68, 69, 70, 71, 72, 73, 74, 75, 76, 77] (fun k => [(14, .int .i64 (k : Int)), (13, .bool (hoB (ofI f) (leastTo (ofI f) (ofI f).length) i k))]) (fun k W => (Below w.heap.size w W) ∧ (Dia 147 150 w.heap.size ba bm 20000 W ns6_2) ∧ (At W bz _ 100) ∧ (SlT encI 1 W v7_3 _) ∧ (TyS 3 W v7_3 (leastTo (ofI f) (ofI f).length)) ∧ (OwT encI 1 3 W w.heap.size v8_1 _) ∧ (k ≤ (leastTo (ofI f) (ofI f).length).length) ∧ (True)) (fun k => (leastTo (ofI f) (ofI f).length).length - k) (0) ⟨rfl, rfl, trivial⟩ ⟨hB, hD, hz, hP7_3, hty7_3, hP8_1, (Nat.zero_le _), trivial⟩ ?_
          clear hB hD hz hP7_3 hty7_3 hP8_1
          rintro k g66 W65 ⟨hB, hD, hz, hP7_3, hty7_3, hP8_1, hk, _⟩ J67 hJ68
          refine WC_seq (fun K69 hK70 => ?_)
          refine WC_seq (fun K71 hK72 => ?_)
          refine WC_region ?_
          refine WL_val (dd := some 55) rfl rfl rfl (r_move (v := .int .i64 _) rfl) ?_
          refine WL_val (dd := some 56) rfl rfl rfl (r_move (v := v7_3) rfl) ?_
          refine WL_val (dd := some 57) rfl rfl rfl (r_lenS (v := v7_3) rfl hP7_3 tb_el22) ?_
          refine WL_val (dd := some 58) rfl rfl rfl (r_lss rfl rfl) ?_
          refine WL_nil ?_
          refine hK72 _ _ ?_
          clear hK72 K71
          refine WC_cond (b := _) rfl (fun hc3 => ?_) (fun hc3 => ?_)
          ·
            try with_reducible replace hc3 := of_decide_eq_true hc3
            refine WC_skip ?_
            refine hK70 _ _ ?_
            clear hK70 K69
            refine WC_seq (fun K73 hK74 => ?_)
            refine WC_block ?_
            have hik := hit _ (getD_mem (l := ofI f) (i := i) (d := 0) (by omega))
            have hkk := hit _ (least_sub (getD_mem (l := leastTo (ofI f) (ofI f).length) (i := k) (d := 0) (by omega)))
            refine WC_draw Ext tb_mix (fun W75 hE76 => ?_)
            replace hB := below_ext hB hE76 (Nat.le_refl _)
            replace hD := Dia.ext hE76 hD
            replace hz := hE76.at hz
            replace hP7_3 := hE76.slT hP7_3
            replace hty7_3 := TyS.ext hE76 hty7_3
            replace hP8_1 := hE76.ow hP8_1
            have hS := Ext.refl W75
            refine WT_take (dd := some 61) 0 rfl (by kernel_rfl) (by kernel_rfl) (by kernel_rfl) rfl rfl rfl (fun _wq _hq => r_move (v := .bool _) rfl) hS ?_
            refine WT_split (dd := some 62) 1 rfl (by kernel_rfl) (by kernel_rfl) (by kernel_rfl) rfl rfl rfl (fun wq hq => r_move (v := .bool _) rfl) hS (fun hs16_1 => ?_) (fun hs16_1 => ?_)
            ·
              try with_reducible replace hs16_1 := of_decide_eq_true hs16_1
              refine WT_pass (dd := some 63) 2 rfl (by kernel_rfl) (by kernel_rfl) (by kernel_rfl) rfl rfl rfl hS ?_
              refine WT_pass (dd := some 64) 3 rfl (by kernel_rfl) (by kernel_rfl) (by kernel_rfl) rfl rfl rfl hS ?_
              refine WT_pass (dd := some 65) 4 rfl (by kernel_rfl) (by kernel_rfl) (by kernel_rfl) rfl rfl rfl hS ?_
              refine WT_pass (dd := some 66) 5 rfl (by kernel_rfl) (by kernel_rfl) (by kernel_rfl) rfl rfl rfl hS ?_
              refine WT_pass (dd := some 67) 6 rfl (by kernel_rfl) (by kernel_rfl) (by kernel_rfl) rfl rfl rfl hS ?_
              refine WT_pass (dd := some 68) 7 rfl (by kernel_rfl) (by kernel_rfl) (by kernel_rfl) rfl rfl rfl hS ?_
              refine WT_pass (dd := some 69) 8 rfl (by kernel_rfl) (by kernel_rfl) (by kernel_rfl) rfl rfl rfl hS ?_
              refine WT_pass (dd := some 70) 9 rfl (by kernel_rfl) (by kernel_rfl) (by kernel_rfl) rfl rfl rfl hS ?_
              refine WT_pass (dd := some 71) 10 rfl (by kernel_rfl) (by kernel_rfl) (by kernel_rfl) rfl rfl rfl hS ?_
              refine WT_pass (dd := some 72) 11 rfl (by kernel_rfl) (by kernel_rfl) (by kernel_rfl) rfl rfl rfl hS ?_
              refine WT_pass (dd := some 73) 12 rfl (by kernel_rfl) (by kernel_rfl) (by kernel_rfl) rfl rfl rfl hS ?_
              refine WT_pass (dd := some 74) 13 rfl (by kernel_rfl) (by kernel_rfl) (by kernel_rfl) rfl rfl rfl hS ?_
              refine WT_pass (dd := some 75) 14 rfl (by kernel_rfl) (by kernel_rfl) (by kernel_rfl) rfl rfl rfl hS ?_
              refine WT_pass (dd := some 76) 15 rfl (by kernel_rfl) (by kernel_rfl) (by kernel_rfl) rfl rfl rfl hS ?_
              refine WT_take (dd := some 77) 16 rfl (by kernel_rfl) (by kernel_rfl) (by kernel_rfl) rfl rfl rfl (fun _wq _hq => r_pick_t rfl (v := .bool true) rfl) hS ?_
              refine WT_take (dd := some 13) 17 rfl (by kernel_rfl) (by kernel_rfl) (by kernel_rfl) rfl rfl rfl (fun _wq _hq => r_assign (v := .bool true) rfl) hS ?_
              refine WT_done (by kernel_rfl) ?_
              refine hK74 _ _ ?_
              clear hK74 K73
              refine WC_region ?_
              refine WL_val (dd := some 59) rfl rfl rfl (r_move (v := .int .i64 _) rfl) ?_
              refine WL_val (dd := some 60) rfl rfl rfl (r_addI rfl rfl (by omega) (by omega)) ?_
              refine WL_val (dd := some 14) rfl rfl rfl (r_assign (v := .int .i64 _) rfl) ?_
              refine WL_nil ?_
              refine hJ68 _ _ (k + 1) ?_ ?_ ?_ ?_
              · repeat (first | exact agree.mask _ _ _ | refine agree.updo ?_ rfl _ | refine agree.updL ?_ _ rfl | refine agree.maskS rfl ?_)
              · exact ⟨rfl, (by first | exact hoB_t hs16_1 | exact hoB_f hs16_1), trivial⟩
              · exact ⟨hB, hD, hz, hP7_3, hty7_3, hP8_1, (by omega), trivial⟩
              · first | omega | (dsimp only; omega)
            ·
              try with_reducible replace hs16_1 := of_decide_eq_false hs16_1
              refine WT_take (dd := some 63) 2 rfl (by kernel_rfl) (by kernel_rfl) (by kernel_rfl) rfl rfl rfl (fun _wq _hq => r_move (v := v8_1) rfl) hS ?_
              refine WT_take (dd := some 64) 3 rfl (by kernel_rfl) (by kernel_rfl) (by kernel_rfl) rfl rfl rfl (fun _wq _hq => r_move (v := .int .i64 _) rfl) hS ?_
              refine WT_take (dd := some 65) 4 rfl (by kernel_rfl) (by kernel_rfl) (by kernel_rfl) rfl rfl rfl (fun _wq hq => r_idxS (v := v8_1) rfl ((hq.ow hP8_1)).sl rfl tb_el22 (by omega) (by omega)) hS ?_
              refine WT_take (dd := some 66) 5 rfl (by kernel_rfl) (by kernel_rfl) (by kernel_rfl) rfl rfl rfl (fun _wq hq => r_load1 (v := .int .i64 _) rfl tb_sc3 (SlT.cell ((hq.ow hP8_1)).sl encI_len 0 (by omega) (by omega) 0 rfl)) hS ?_
              refine WT_take (dd := some 67) 6 rfl (by kernel_rfl) (by kernel_rfl) (by kernel_rfl) rfl rfl rfl (fun _wq _hq => r_move (v := v7_3) rfl) hS ?_
              refine WT_take (dd := some 68) 7 rfl (by kernel_rfl) (by kernel_rfl) (by kernel_rfl) rfl rfl rfl (fun _wq _hq => r_move (v := .int .i64 _) rfl) hS ?_
              refine WT_take (dd := some 69) 8 rfl (by kernel_rfl) (by kernel_rfl) (by kernel_rfl) rfl rfl rfl (fun _wq hq => r_idxS (v := v7_3) rfl (hq.slT hP7_3) rfl tb_el22 (by omega) (by omega)) hS ?_
              refine WT_take (dd := some 70) 9 rfl (by kernel_rfl) (by kernel_rfl) (by kernel_rfl) rfl rfl rfl (fun _wq hq => r_load1 (v := .int .i64 _) rfl tb_sc3 (SlT.cell (hq.slT hP7_3) encI_len 0 (by omega) (by omega) 0 rfl)) hS ?_
              refine WT_take (dd := some 72) 11 rfl (by kernel_rfl) (by kernel_rfl) (by kernel_rfl) rfl rfl rfl (fun _wq _hq => r_move (v := v8_1) rfl) hS ?_
              refine WT_take (dd := some 73) 12 rfl (by kernel_rfl) (by kernel_rfl) (by kernel_rfl) rfl rfl rfl (fun _wq _hq => r_move (v := .int .i64 _) rfl) hS ?_
              refine WT_take (dd := some 74) 13 rfl (by kernel_rfl) (by kernel_rfl) (by kernel_rfl) rfl rfl rfl (fun _wq hq => r_idxS (v := v8_1) rfl ((hq.ow hP8_1)).sl rfl tb_el22 (by omega) (by omega)) hS ?_
              refine WT_take (dd := some 75) 14 rfl (by kernel_rfl) (by kernel_rfl) (by kernel_rfl) rfl rfl rfl (fun _wq hq => r_load1 (v := .int .i64 _) rfl tb_sc3 (SlT.cell ((hq.ow hP8_1)).sl encI_len 0 (by omega) (by omega) 0 rfl)) hS ?_
              refine WT_one (dd := some 71) 10 (by kernel_rfl) rfl rfl rfl rfl (Yd.call (r_call2 tb_c22 (v0 := .int .i64 _) rfl (v1 := .int .i64 _) rfl) (C_drawkniferef08_Both ((ofI f).getD i 0) ((leastTo (ofI f) (ofI f).length).getD k 0) _ hik.1 hik.2 hkk.1 hkk.2) (fun v16_10 W77 hE78 hP16_10 => ⟨.inl (hS.trans hE78), ?_⟩))
              have hsz79 := (Below.size hB)
              have sv80_hB := hB
              have sv80_hz := hz
              have sv80_hP7_3 := hP7_3
              have sv80_hP8_1 := hP8_1
              replace hB := below_ext hB hE78 (Nat.le_refl _)
              replace hD := Dia.ext hE78 hD
              replace hz := hE78.at hz
              replace hP7_3 := hE78.slT hP7_3
              replace hty7_3 := TyS.ext hE78 hty7_3
              replace hP8_1 := hE78.ow hP8_1
              replace hS := hS.trans hE78
              clear hE78
              clear hsz79
              obtain rfl := hP16_10
              refine WT_take (dd := some 76) 15 rfl (by kernel_rfl) (by kernel_rfl) (by kernel_rfl) rfl rfl rfl (fun _wq _hq => r_eql rfl rfl) hS ?_
              refine WT_take (dd := some 77) 16 rfl (by kernel_rfl) (by kernel_rfl) (by kernel_rfl) rfl rfl rfl (fun _wq _hq => r_pick_f rfl (v := .bool _) rfl) hS ?_
              refine WT_take (dd := some 13) 17 rfl (by kernel_rfl) (by kernel_rfl) (by kernel_rfl) rfl rfl rfl (fun _wq _hq => r_assign (v := .bool _) rfl) hS ?_
              refine WT_done (by kernel_rfl) ?_
              try clear sv80_hB sv80_hz sv80_hP7_3 sv80_hP8_1
              refine hK74 _ _ ?_
              clear hK74 K73
              refine WC_region ?_
              refine WL_val (dd := some 59) rfl rfl rfl (r_move (v := .int .i64 _) rfl) ?_
              refine WL_val (dd := some 60) rfl rfl rfl (r_addI rfl rfl (by omega) (by omega)) ?_
              refine WL_val (dd := some 14) rfl rfl rfl (r_assign (v := .int .i64 _) rfl) ?_
              refine WL_nil ?_
              refine hJ68 _ _ (k + 1) ?_ ?_ ?_ ?_
              · repeat (first | exact agree.mask _ _ _ | refine agree.updo ?_ rfl _ | refine agree.updL ?_ _ rfl | refine agree.maskS rfl ?_)
              · exact ⟨rfl, (by first | exact hoB_t hs16_1 | exact hoB_f hs16_1), trivial⟩
              · exact ⟨hB, hD, hz, hP7_3, hty7_3, hP8_1, (by omega), trivial⟩
              · first | omega | (dsimp only; omega)
          ·
            try with_reducible replace hc3 := of_decide_eq_false hc3
            refine WC_exit ?_
            refine hK62 _ _ ?_
            clear hK70 K69
            clear hJ68 J67
            clear hK62 K61
            refine WC_seq (fun K81 hK82 => ?_)
            obtain rfl : k = (leastTo (ofI f) (ofI f).length).length := by omega
            refine WC_region ?_
            refine WL_val (dd := some 78) rfl rfl rfl (r_move (v := .bool _) rfl) ?_
            refine WL_val (dd := some 79) rfl rfl rfl (r_not rfl) ?_
            refine WL_nil ?_
            refine hK82 _ _ ?_
            clear hK82 K81
            refine WC_cond (b := _) rfl (fun hc4 => ?_) (fun hc4 => ?_)
            ·
              try with_reducible replace hc4 := of_decide_eq_true hc4
              exact absurd hc4 (by rw [hoB_all (inc_ofI f) (fun x hx => (hit x hx).1) _ i (by omega) (Nat.le_refl _)]; decide)
            ·
              try with_reducible replace hc4 := of_decide_eq_false hc4
              refine WC_skip ?_
              refine hK58 _ _ ?_
              clear hK58 K57
              refine WC_region ?_
              refine WL_val (dd := some 53) rfl rfl rfl (r_move (v := .int .i64 _) rfl) ?_
              refine WL_val (dd := some 54) rfl rfl rfl (r_addI rfl rfl (by omega) (by omega)) ?_
              refine WL_val (dd := some 12) rfl rfl rfl (r_assign (v := .int .i64 _) rfl) ?_
              refine WL_nil ?_
              refine hJ52 _ _ (i + 1) ?_ ?_ ?_ ?_
              · repeat (first | exact agree.mask _ _ _ | refine agree.updo ?_ rfl _ | refine agree.updL ?_ _ rfl | refine agree.maskS rfl ?_)
              · exact ⟨rfl, trivial⟩
              · exact ⟨hB, hD, hz, hP7_3, hty7_3, hP8_1, (by omega), trivial⟩
              · first | omega | (dsimp only; omega)
        ·
          try with_reducible replace hc2 := of_decide_eq_false hc2
          refine WC_exit ?_
          refine hK46 _ _ ?_
          clear hK54 K53
          clear hJ52 J51
          clear hK46 K45
          refine WC_seq (fun K83 hK84 => ?_)
          refine WC_region ?_
          refine WL_val (dd := some 80) rfl rfl rfl (r_move (v := v7_3) rfl) ?_
          refine WL_val (dd := some 81) rfl rfl rfl (r_move (v := v8_1) rfl) ?_
          refine WL_call (dd := some 82) rfl rfl rfl (r_call1 tb_c28 (v0 := v8_1) rfl) (C_drawkniferef08_Least _ _ _ hP8_1.sl (by first | assumption | omega) (by first | assumption | omega)) (fun v19_2 W85 hE86 hP19_2 => ?_)
          have hlt87 := OwT.lt2 hP8_1
          have hsz88 := (Below.size hB)
          replace hB := below_ext hB hE86 (Nat.le_refl _)
          replace hD := Dia.ext hE86 hD
          replace hz := hE86.at hz
          replace hP7_3 := hE86.slT hP7_3
          replace hty7_3 := TyS.ext hE86 hty7_3
          replace hP8_1 := hE86.ow hP8_1
          clear hE86
          have hap89 := Apart.new hlt87 hP19_2
          replace hP19_2 := OwT.mono hP19_2 hsz88
          clear hsz88
          refine WL_call (dd := some 83) rfl rfl rfl (r_call2 tb_c24 (v0 := v7_3) rfl (v1 := v19_2) rfl) (C_drawkniferef08_Same _ _ _ _ _ hP7_3 hP19_2.sl (by first | assumption | omega) (by first | assumption | omega)) (fun v19_3 W90 hE91 hP19_3 => ?_)
          have hsz92 := (Below.size hB)
          replace hB := below_ext hB hE91 (Nat.le_refl _)
          replace hD := Dia.ext hE91 hD
          replace hz := hE91.at hz
          replace hP7_3 := hE91.slT hP7_3
          replace hty7_3 := TyS.ext hE91 hty7_3
          replace hP8_1 := hE91.ow hP8_1
          replace hP19_2 := hE91.ow hP19_2
          clear hE91
          clear hsz92
          obtain rfl := hP19_3
          refine WL_split (dd := some 84) rfl rfl rfl (r_move (v := .bool _) rfl) (fun hs19_4 => ?_) (fun hs19_4 => ?_)
          ·
            try with_reducible replace hs19_4 := of_decide_eq_true hs19_4
            refine WL_call (dd := some 85) rfl rfl rfl (r_call0 tb_c19) (C_drawknifelaw08_knows _) (fun v19_5 W93 hE94 hP19_5 => ?_)
            have hsz95 := (Below.size hB)
            replace hB := below_ext hB hE94 (Nat.le_refl _)
            replace hD := Dia.ext hE94 hD
            replace hz := hE94.at hz
            replace hP7_3 := hE94.slT hP7_3
            replace hty7_3 := TyS.ext hE94 hty7_3
            replace hP8_1 := hE94.ow hP8_1
            replace hP19_2 := hE94.ow hP19_2
            clear hE94
            clear hsz95
            obtain rfl := hP19_5
            refine WL_val (dd := some 86) rfl rfl rfl (r_pick_t rfl (v := .bool _) rfl) ?_
            refine WL_val (dd := some 2) rfl rfl rfl (r_assign (v := .bool _) rfl) ?_
            refine WL_nil ?_
            refine hK84 _ _ ?_
            clear hK84 K83
            refine WC_ret ?_
            repeat (first | refine thenQ_ret ?_ | refine blockQ_ret ?_)
            refine ret_t (v := .bool _) rfl ?_
            refine ⟨hB, ?_⟩
            rfl
          ·
            try with_reducible replace hs19_4 := of_decide_eq_false hs19_4
            exact absurd rfl hs19_4

set_option maxRecDepth 10000 in
theorem C_drawknifelaw08_ZddRoom (xf : Value) (f : List Int) (xg : Value) (g : List Int) (t : Nat) (w : World) (hf : SlT encI 1 w xf f) (hg : SlT encI 1 w xg g) (ht : t < 256) :
    Fn Try.prog 5 #[xf, xg, .int .u8 (t : Int)] w fun v w' => v = .bool true := by
  refine Fn_intro (n := 133) Try.func5 rfl rfl (Nat.le_of_ble_eq_true rfl) ?_
  have hB : Below w.heap.size w w := Below.refl _ _
  refine WC_seq (fun K1 hK2 => ?_)
  refine WC_region ?_
  refine WL_val (dd := some 6) rfl rfl rfl (r_assign (v := .bool false) rfl) ?_
  refine WL_nil ?_
  refine hK2 _ _ ?_
  clear hK2 K1
  refine WC_seq (fun K3 hK4 => ?_)
  refine WC_seq (fun K5 hK6 => ?_)
  refine WC_region ?_
  refine WL_val (dd := some 17) rfl rfl rfl (r_move (v := xf) rfl) ?_
  refine WL_val (dd := some 18) rfl rfl rfl (r_move (v := xg) rfl) ?_
  refine WL_call (dd := some 19) rfl rfl rfl (r_call2 tb_c29 (v0 := xf) rfl (v1 := xg) rfl) (C_drawknifelaw08_great _ _ _ _ _ (Below.slT hB hf) (Below.slT hB hg)) (fun v1_2 W7 hE8 hP1_2 => ?_)
  have hsz9 := (Below.size hB)
  replace hB := below_ext hB hE8 (Nat.le_refl _)
  clear hE8
  clear hsz9
  obtain rfl := hP1_2
  refine WL_nil ?_
  refine hK6 _ _ ?_
  clear hK6 K5
  refine WC_cond (b := _) rfl (fun hc0 => ?_) (fun hc0 => ?_)
  ·
    try with_reducible replace hc0 := of_decide_eq_true hc0
    refine WC_seq (fun K10 hK11 => ?_)
    refine WC_region ?_
    refine WL_call (dd := some 20) rfl rfl rfl (r_call0 tb_c19) (C_drawknifelaw08_knows _) (fun v2_0 W12 hE13 hP2_0 => ?_)
    have hsz14 := (Below.size hB)
    replace hB := below_ext hB hE13 (Nat.le_refl _)
    clear hE13
    clear hsz14
    obtain rfl := hP2_0
    refine WL_val (dd := some 6) rfl rfl rfl (r_assign (v := .bool _) rfl) ?_
    refine WL_nil ?_
    refine hK11 _ _ ?_
    clear hK11 K10
    refine WC_ret ?_
    repeat (first | refine thenQ_ret ?_ | refine blockQ_ret ?_)
    try clear hK4 K3
    refine ret_t (v := .bool _) rfl ?_
    refine ⟨hB, ?_⟩
    rfl
  ·
    try with_reducible replace hc0 := of_decide_eq_false hc0
    refine WC_skip ?_
    refine hK4 _ _ ?_
    clear hK4 K3
    refine WC_seq (fun K15 hK16 => ?_)
    refine WC_seq (fun K17 hK18 => ?_)
    obtain ⟨hfl, hgl⟩ := g8_no hc0
    refine WC_region ?_
    refine WL_val (dd := some 7) rfl rfl rfl (r_assign (v := .int .i64 0) rfl) ?_
    refine WL_nil ?_
    refine hK18 _ _ ?_
    clear hK18 K17
    refine WC_block ?_
    refine WC_loop (σ := (Nat)) [6, 7, 21, 22, 23, 24, 25, 26, 27, 28, 29, 30, 31, 32, 33] (fun k => [(7, .int .i64 (k : Int))]) (fun k W => (Below w.heap.size w W) ∧ (k ≤ f.length) ∧ (∀ q, q < k → 0 ≤ f.getD q 0 ∧ f.getD q 0 < 16777216) ∧ (True)) (fun k => f.length - k) (0) ⟨rfl, trivial⟩ ⟨hB, (Nat.zero_le _), upTo_zero, trivial⟩ ?_
    clear hB
    rintro k g20 W19 ⟨hB, hk, hq, _⟩ J21 hJ22
    refine WC_seq (fun K23 hK24 => ?_)
    refine WC_seq (fun K25 hK26 => ?_)
    refine WC_region ?_
    refine WL_val (dd := some 21) rfl rfl rfl (r_move (v := .int .i64 _) rfl) ?_
    refine WL_val (dd := some 22) rfl rfl rfl (r_move (v := xf) rfl) ?_
    refine WL_val (dd := some 23) rfl rfl rfl (r_lenS (v := xf) rfl (Below.slT hB hf) tb_el22) ?_
    refine WL_val (dd := some 24) rfl rfl rfl (r_lss rfl rfl) ?_
    refine WL_nil ?_
    refine hK26 _ _ ?_
    clear hK26 K25
    refine WC_cond (b := _) rfl (fun hc1 => ?_) (fun hc1 => ?_)
    ·
      try with_reducible replace hc1 := of_decide_eq_true hc1
      refine WC_skip ?_
      refine hK24 _ _ ?_
      clear hK24 K23
      refine WC_seq (fun K27 hK28 => ?_)
      refine WC_block ?_
      refine WC_seq (fun K29 hK30 => ?_)
      refine WC_region ?_
      refine WL_val (dd := some 27) rfl rfl rfl (r_move (v := xf) rfl) ?_
      refine WL_val (dd := some 28) rfl rfl rfl (r_move (v := .int .i64 _) rfl) ?_
      refine WL_val (dd := some 29) rfl rfl rfl (r_idxS (v := xf) rfl (Below.slT hB hf) rfl tb_el22 (by omega) (by omega)) ?_
      refine WL_val (dd := some 30) rfl rfl rfl (r_load1 (v := .int .i64 _) rfl tb_sc3 (SlT.cell (Below.slT hB hf) encI_len 0 (by omega) (by omega) 0 rfl)) ?_
      refine WL_call (dd := some 31) rfl rfl rfl (r_call1 tb_c30 (v0 := .int .i64 _) rfl) (C_drawkniferef08_May _ _) (fun v6_4 W31 hE32 hP6_4 => ?_)
      have hsz33 := (Below.size hB)
      replace hB := below_ext hB hE32 (Nat.le_refl _)
      clear hE32
      clear hsz33
      obtain rfl := hP6_4
      refine WL_val (dd := some 32) rfl rfl rfl (r_not rfl) ?_
      refine WL_nil ?_
      refine hK30 _ _ ?_
      clear hK30 K29
      refine WC_cond (b := _) rfl (fun hc2 => ?_) (fun hc2 => ?_)
      ·
        try with_reducible replace hc2 := of_decide_eq_true hc2
        refine WC_seq (fun K34 hK35 => ?_)
        refine WC_region ?_
        refine WL_call (dd := some 33) rfl rfl rfl (r_call0 tb_c19) (C_drawknifelaw08_knows _) (fun v7_0 W36 hE37 hP7_0 => ?_)
        have hsz38 := (Below.size hB)
        replace hB := below_ext hB hE37 (Nat.le_refl _)
        clear hE37
        clear hsz38
        obtain rfl := hP7_0
        refine WL_val (dd := some 6) rfl rfl rfl (r_assign (v := .bool _) rfl) ?_
        refine WL_nil ?_
        refine hK35 _ _ ?_
        clear hK35 K34
        refine WC_ret ?_
        repeat (first | refine thenQ_ret ?_ | refine blockQ_ret ?_)
        try clear hK28 K27
        try clear hJ22 J21
        try clear hK16 K15
        refine ret_t (v := .bool _) rfl ?_
        refine ⟨hB, ?_⟩
        rfl
      ·
        try with_reducible replace hc2 := of_decide_eq_false hc2
        refine WC_skip ?_
        refine hK28 _ _ ?_
        clear hK28 K27
        refine WC_region ?_
        refine WL_val (dd := some 25) rfl rfl rfl (r_move (v := .int .i64 _) rfl) ?_
        refine WL_val (dd := some 26) rfl rfl rfl (r_addI rfl rfl (by omega) (by omega)) ?_
        refine WL_val (dd := some 7) rfl rfl rfl (r_assign (v := .int .i64 _) rfl) ?_
        refine WL_nil ?_
        refine hJ22 _ _ (k + 1) ?_ ?_ ?_ ?_
        · repeat (first | exact agree.mask _ _ _ | refine agree.updo ?_ rfl _ | refine agree.updL ?_ _ rfl | refine agree.maskS rfl ?_)
        · exact ⟨rfl, trivial⟩
        · exact ⟨hB, (by omega), (upTo_succ hq (by simpa using hc2)), trivial⟩
        · first | omega | (dsimp only; omega)
    ·
      try with_reducible replace hc1 := of_decide_eq_false hc1
      refine WC_exit ?_
      refine hK16 _ _ ?_
      clear hK24 K23
      clear hJ22 J21
      clear hK16 K15
      refine WC_seq (fun K39 hK40 => ?_)
      refine WC_seq (fun K41 hK42 => ?_)
      have hof := ofB_all (l := f) (k := k) (by omega) hq
      refine WC_region ?_
      refine WL_val (dd := some 8) rfl rfl rfl (r_assign (v := .int .i64 0) rfl) ?_
      refine WL_nil ?_
      refine hK42 _ _ ?_
      clear hK42 K41
      refine WC_block ?_
      refine WC_loop (σ := (Nat)) [6, 8, 34, 35, 36, 37, 38, 39, 40, 41, 42, 43, 44, 45, 46] (fun k2 => [(8, .int .i64 (k2 : Int))]) (fun k2 W => (Below w.heap.size w W) ∧ (k2 ≤ g.length) ∧ (∀ q, q < k2 → 0 ≤ g.getD q 0 ∧ g.getD q 0 < 16777216) ∧ (True)) (fun k2 => g.length - k2) (0) ⟨rfl, trivial⟩ ⟨hB, (Nat.zero_le _), upTo_zero, trivial⟩ ?_
      clear hB
      rintro k2 g44 W43 ⟨hB, hk2, hq2, _⟩ J45 hJ46
      refine WC_seq (fun K47 hK48 => ?_)
      refine WC_seq (fun K49 hK50 => ?_)
      refine WC_region ?_
      refine WL_val (dd := some 34) rfl rfl rfl (r_move (v := .int .i64 _) rfl) ?_
      refine WL_val (dd := some 35) rfl rfl rfl (r_move (v := xg) rfl) ?_
      refine WL_val (dd := some 36) rfl rfl rfl (r_lenS (v := xg) rfl (Below.slT hB hg) tb_el22) ?_
      refine WL_val (dd := some 37) rfl rfl rfl (r_lss rfl rfl) ?_
      refine WL_nil ?_
      refine hK50 _ _ ?_
      clear hK50 K49
      refine WC_cond (b := _) rfl (fun hc3 => ?_) (fun hc3 => ?_)
      ·
        try with_reducible replace hc3 := of_decide_eq_true hc3
        refine WC_skip ?_
        refine hK48 _ _ ?_
        clear hK48 K47
        refine WC_seq (fun K51 hK52 => ?_)
        refine WC_block ?_
        refine WC_seq (fun K53 hK54 => ?_)
        refine WC_region ?_
        refine WL_val (dd := some 40) rfl rfl rfl (r_move (v := xg) rfl) ?_
        refine WL_val (dd := some 41) rfl rfl rfl (r_move (v := .int .i64 _) rfl) ?_
        refine WL_val (dd := some 42) rfl rfl rfl (r_idxS (v := xg) rfl (Below.slT hB hg) rfl tb_el22 (by omega) (by omega)) ?_
        refine WL_val (dd := some 43) rfl rfl rfl (r_load1 (v := .int .i64 _) rfl tb_sc3 (SlT.cell (Below.slT hB hg) encI_len 0 (by omega) (by omega) 0 rfl)) ?_
        refine WL_call (dd := some 44) rfl rfl rfl (r_call1 tb_c30 (v0 := .int .i64 _) rfl) (C_drawkniferef08_May _ _) (fun v11_4 W55 hE56 hP11_4 => ?_)
        have hsz57 := (Below.size hB)
        replace hB := below_ext hB hE56 (Nat.le_refl _)
        clear hE56
        clear hsz57
        obtain rfl := hP11_4
        refine WL_val (dd := some 45) rfl rfl rfl (r_not rfl) ?_
        refine WL_nil ?_
        refine hK54 _ _ ?_
        clear hK54 K53
        refine WC_cond (b := _) rfl (fun hc4 => ?_) (fun hc4 => ?_)
        ·
          try with_reducible replace hc4 := of_decide_eq_true hc4
          refine WC_seq (fun K58 hK59 => ?_)
          refine WC_region ?_
          refine WL_call (dd := some 46) rfl rfl rfl (r_call0 tb_c19) (C_drawknifelaw08_knows _) (fun v12_0 W60 hE61 hP12_0 => ?_)
          have hsz62 := (Below.size hB)
          replace hB := below_ext hB hE61 (Nat.le_refl _)
          clear hE61
          clear hsz62
          obtain rfl := hP12_0
          refine WL_val (dd := some 6) rfl rfl rfl (r_assign (v := .bool _) rfl) ?_
          refine WL_nil ?_
          refine hK59 _ _ ?_
          clear hK59 K58
          refine WC_ret ?_
          repeat (first | refine thenQ_ret ?_ | refine blockQ_ret ?_)
          try clear hK52 K51
          try clear hJ46 J45
          try clear hK40 K39
          refine ret_t (v := .bool _) rfl ?_
          refine ⟨hB, ?_⟩
          rfl
        ·
          try with_reducible replace hc4 := of_decide_eq_false hc4
          refine WC_skip ?_
          refine hK52 _ _ ?_
          clear hK52 K51
          refine WC_region ?_
          refine WL_val (dd := some 38) rfl rfl rfl (r_move (v := .int .i64 _) rfl) ?_
          refine WL_val (dd := some 39) rfl rfl rfl (r_addI rfl rfl (by omega) (by omega)) ?_
          refine WL_val (dd := some 8) rfl rfl rfl (r_assign (v := .int .i64 _) rfl) ?_
          refine WL_nil ?_
          refine hJ46 _ _ (k2 + 1) ?_ ?_ ?_ ?_
          · repeat (first | exact agree.mask _ _ _ | refine agree.updo ?_ rfl _ | refine agree.updL ?_ _ rfl | refine agree.maskS rfl ?_)
          · exact ⟨rfl, trivial⟩
          · exact ⟨hB, (by omega), (upTo_succ hq2 (by simpa using hc4)), trivial⟩
          · first | omega | (dsimp only; omega)
      ·
        try with_reducible replace hc3 := of_decide_eq_false hc3
        refine WC_exit ?_
        refine hK40 _ _ ?_
        clear hK48 K47
        clear hJ46 J45
        clear hK40 K39
        refine WC_seq (fun K63 hK64 => ?_)
        have hog := ofB_all (l := g) (k := k2) (by omega) hq2
        refine WC_region ?_
        refine WL_val (dd := some 48) rfl rfl rfl (r_move (v := .int .u8 _) rfl) ?_
        refine WL_val (dd := some 49) rfl rfl rfl (r_convN rfl Try.underlying5 Try.underlying3 (by first | assumption | (simp only [topN]; omega) | (simp only [topN]; decide))) ?_
        refine WL_call (dd := some 50) rfl rfl rfl (r_call1 tb_c31 (v0 := .int .i64 _) rfl) (C_zdd_New t _ (by omega)) (fun v13_2 W65 hE66 hP13_2 => ?_)
        have hsz67 := (Below.size hB)
        replace hB := below_ext hB hE66 (Nat.le_refl _)
        clear hE66
        obtain ⟨bz, ba, bm, rfl, hz, hD⟩ := hP13_2
        replace hD := Dia.mono hD hsz67
        clear hsz67
        refine WL_val (dd := some 47) rfl rfl rfl (r_move (v := .tuple #[.pointer (some ⟨bz, 0, none⟩), .int .i64 0]) rfl) ?_
        refine WL_val (dd := some 51) rfl rfl rfl (r_ext2_0 (h := rfl)) ?_
        refine WL_val (dd := some 52) rfl rfl rfl (r_ext2_1 (h := rfl)) ?_
        refine WL_val (dd := some 9) rfl rfl rfl (r_assign (v := .pointer (some ⟨bz, 0, none⟩)) rfl) ?_
        refine WL_val (dd := some 10) rfl rfl rfl (r_assign (v := .int .i64 0) rfl) ?_
        refine WL_nil ?_
        refine hK64 _ _ ?_
        clear hK64 K63
        refine WC_seq (fun K68 hK69 => ?_)
        refine WC_seq (fun K70 hK71 => ?_)
        refine WC_region ?_
        refine WL_val (dd := some 53) rfl rfl rfl (r_move (v := .pointer (some ⟨bz, 0, none⟩)) rfl) ?_
        refine WL_val (dd := some 54) rfl rfl rfl (r_ptrNil rfl rfl Try.underlying24) ?_
        refine WL_val (dd := some 55) rfl rfl rfl (r_move (v := .bool false) rfl) ?_
        refine WL_val (dd := some 56) rfl rfl rfl (r_move (v := .int .i64 0) rfl) ?_
        refine WL_val (dd := some 57) rfl rfl rfl (r_neq rfl rfl) ?_
        refine WL_val (dd := some 58) rfl rfl rfl (r_pick_f rfl (v := .bool _) rfl) ?_
        refine WL_nil ?_
        refine hK71 _ _ ?_
        clear hK71 K70
        refine WC_cond (b := _) rfl (fun hc5 => ?_) (fun hc5 => ?_)
        ·
          try with_reducible replace hc5 := of_decide_eq_true hc5
          exact absurd rfl hc5
        ·
          try with_reducible replace hc5 := of_decide_eq_false hc5
          refine WC_skip ?_
          refine hK69 _ _ ?_
          clear hK69 K68
          refine WC_seq (fun K72 hK73 => ?_)
          refine WC_region ?_
          refine WL_val (dd := some 60) rfl rfl rfl (r_move (v := .pointer (some ⟨bz, 0, none⟩)) rfl) ?_
          refine WL_val (dd := some 61) rfl rfl rfl (r_move (v := xf) rfl) ?_
          refine WL_callG (dd := some 62) rfl rfl rfl (r_call2 tb_c32 (v0 := .pointer (some ⟨bz, 0, none⟩)) rfl (v1 := xf) rfl) (C___zdd_Zdd__Of _ _ _ _ _ _ _ _ _ (Below.size hB) hz hD (Below.slT hB hf) (by first | assumption | omega)) (fun v16_2 W74 hP16_2 => ?_)
          obtain ⟨ns16_2, id16_2, er16_2, rfl, hx16_2, hDn16_2, hg16_2⟩ := hP16_2
          replace hB := Below.dx hB (Nat.le_refl _) (Nat.le_refl _) hx16_2
          replace hz := At.dx hD hx16_2 hz (by decide) (by decide)
          replace hD := hDn16_2
          refine WL_val (dd := some 59) rfl rfl rfl (r_move (v := .tuple #[.int .i64 (id16_2 : Int), .int .i64 er16_2]) rfl) ?_
          refine WL_val (dd := some 63) rfl rfl rfl (r_ext2_0 (h := rfl)) ?_
          refine WL_val (dd := some 64) rfl rfl rfl (r_ext2_1 (h := rfl)) ?_
          refine WL_val (dd := some 11) rfl rfl rfl (r_assign (v := .int .i64 _) rfl) ?_
          refine WL_val (dd := some 12) rfl rfl rfl (r_assign (v := .int .i64 _) rfl) ?_
          refine WL_nil ?_
          refine hK73 _ _ ?_
          clear hK73 K72
          refine WC_seq (fun K76 hK77 => ?_)
          refine WC_seq (fun K78 hK79 => ?_)
          have hgA := pe_ok hg16_2 hof
          have hvA := hgA.valid
          refine WC_region ?_
          refine WL_val (dd := some 65) rfl rfl rfl (r_move (v := .int .i64 _) rfl) ?_
          refine WL_val (dd := some 66) rfl rfl rfl (r_neq rfl rfl) ?_
          refine WL_nil ?_
          refine hK79 _ _ ?_
          clear hK79 K78
          refine WC_cond (b := _) rfl (fun hc6 => ?_) (fun hc6 => ?_)
          ·
            try with_reducible replace hc6 := of_decide_eq_true hc6
            refine WC_seq (fun K80 hK81 => ?_)
            refine WC_region ?_
            refine WL_val (dd := some 67) rfl rfl rfl (r_move (v := .int .i64 _) rfl) ?_
            refine WL_val (dd := some 68) rfl rfl rfl (r_eql rfl rfl) ?_
            refine WL_split (dd := some 69) rfl rfl rfl (r_move (v := .bool _) rfl) (fun hs18_2 => ?_) (fun hs18_2 => ?_)
            ·
              try with_reducible replace hs18_2 := of_decide_eq_true hs18_2
              refine WL_val (dd := some 70) rfl rfl rfl (r_move (v := .int .i64 _) rfl) ?_
              refine WL_val (dd := some 71) rfl rfl rfl (r_eql rfl rfl) ?_
              refine WL_val (dd := some 72) rfl rfl rfl (r_pick_t rfl (v := .bool _) rfl) ?_
              refine WL_split (dd := some 73) rfl rfl rfl (r_move (v := .bool _) rfl) (fun hs18_6 => ?_) (fun hs18_6 => ?_)
              ·
                try with_reducible replace hs18_6 := of_decide_eq_true hs18_6
                refine WL_call (dd := some 74) rfl rfl rfl (r_call0 tb_c19) (C_drawknifelaw08_knows _) (fun v18_7 W82 hE83 hP18_7 => ?_)
                have hsz84 := (Below.size hB)
                replace hB := below_ext hB hE83 (Nat.le_refl _)
                replace hD := Dia.ext hE83 hD
                replace hz := hE83.at hz
                clear hE83
                clear hsz84
                obtain rfl := hP18_7
                refine WL_val (dd := some 75) rfl rfl rfl (r_pick_t rfl (v := .bool _) rfl) ?_
                refine WL_val (dd := some 6) rfl rfl rfl (r_assign (v := .bool _) rfl) ?_
                refine WL_nil ?_
                refine hK81 _ _ ?_
                clear hK81 K80
                refine WC_ret ?_
                repeat (first | refine thenQ_ret ?_ | refine blockQ_ret ?_)
                try clear hK77 K76
                refine ret_t (v := .bool _) rfl ?_
                refine ⟨hB, ?_⟩
                rfl
              ·
                try with_reducible replace hs18_6 := of_decide_eq_false hs18_6
                have hq := got_err hgA hc6
                omega
            ·
              try with_reducible replace hs18_2 := of_decide_eq_false hs18_2
              have hq := got_err hgA hc6
              omega
          ·
            try with_reducible replace hc6 := of_decide_eq_false hc6
            refine WC_skip ?_
            refine hK77 _ _ ?_
            clear hK77 K76
            refine WC_seq (fun K85 hK86 => ?_)
            have hea : er16_2 = 0 := Decidable.of_not_not hc6
            have hIa := got_of hgA hof hea
            refine WC_region ?_
            refine WL_val (dd := some 77) rfl rfl rfl (r_move (v := .pointer (some ⟨bz, 0, none⟩)) rfl) ?_
            refine WL_val (dd := some 78) rfl rfl rfl (r_move (v := xg) rfl) ?_
            refine WL_callG (dd := some 79) rfl rfl rfl (r_call2 tb_c32 (v0 := .pointer (some ⟨bz, 0, none⟩)) rfl (v1 := xg) rfl) (C___zdd_Zdd__Of _ _ _ _ _ _ _ _ _ (Below.size hB) hz hD (Below.slT hB hg) (by first | assumption | omega)) (fun v19_2 W87 hP19_2 => ?_)
            obtain ⟨ns19_2, id19_2, er19_2, rfl, hx19_2, hDn19_2, hg19_2⟩ := hP19_2
            replace hB := Below.dx hB (Nat.le_refl _) (Nat.le_refl _) hx19_2
            replace hz := At.dx hD hx19_2 hz (by decide) (by decide)
            replace hD := hDn19_2
            refine WL_val (dd := some 76) rfl rfl rfl (r_move (v := .tuple #[.int .i64 (id19_2 : Int), .int .i64 er19_2]) rfl) ?_
            refine WL_val (dd := some 80) rfl rfl rfl (r_ext2_0 (h := rfl)) ?_
            refine WL_val (dd := some 81) rfl rfl rfl (r_ext2_1 (h := rfl)) ?_
            refine WL_val (dd := some 13) rfl rfl rfl (r_assign (v := .int .i64 _) rfl) ?_
            refine WL_val (dd := some 14) rfl rfl rfl (r_assign (v := .int .i64 _) rfl) ?_
            refine WL_nil ?_
            refine hK86 _ _ ?_
            clear hK86 K85
            refine WC_seq (fun K89 hK90 => ?_)
            have hgB := pe_ok hg19_2 hog
            have hvB := hgB.valid
            replace hIa := hIa.pre hgB.pre
            refine WC_region ?_
            refine WL_val (dd := some 83) rfl rfl rfl (r_move (v := .pointer (some ⟨bz, 0, none⟩)) rfl) ?_
            refine WL_val (dd := some 84) rfl rfl rfl (r_move (v := .int .i64 _) rfl) ?_
            refine WL_val (dd := some 85) rfl rfl rfl (r_move (v := .int .i64 _) rfl) ?_
            refine WL_callG (dd := some 86) rfl rfl rfl (r_call3 tb_c33 (v0 := .pointer (some ⟨bz, 0, none⟩)) rfl (v1 := .int .i64 _) rfl (v2 := .int .i64 _) rfl) (C___zdd_Zdd__Union _ _ _ _ _ _ id16_2 id19_2 _ (Below.size hB) hz hD hIa.v hvB) (fun v20_3 W91 hP20_3 => ?_)
            obtain ⟨ns20_3, id20_3, er20_3, rfl, hx20_3, hDn20_3, hg20_3⟩ := hP20_3
            replace hB := Below.dx hB (Nat.le_refl _) (Nat.le_refl _) hx20_3
            replace hz := At.dx hD hx20_3 hz (by decide) (by decide)
            replace hD := hDn20_3
            refine WL_val (dd := some 82) rfl rfl rfl (r_move (v := .tuple #[.int .i64 (id20_3 : Int), .int .i64 er20_3]) rfl) ?_
            refine WL_val (dd := some 87) rfl rfl rfl (r_ext2_0 (h := rfl)) ?_
            refine WL_val (dd := some 88) rfl rfl rfl (r_ext2_1 (h := rfl)) ?_
            refine WL_val (dd := some 15) rfl rfl rfl (r_assign (v := .int .i64 _) rfl) ?_
            refine WL_val (dd := some 16) rfl rfl rfl (r_assign (v := .int .i64 _) rfl) ?_
            refine WL_nil ?_
            refine hK90 _ _ ?_
            clear hK90 K89
            refine WC_seq (fun K93 hK94 => ?_)
            refine WC_seq (fun K95 hK96 => ?_)
            have hIa0 := hIa
            replace hIa := hIa.pre hg20_3.pre
            have hb5 := got_ers hgB
            have hu5 := got_ers hg20_3
            have hxl := ofI_len f
            have hyl := ofI_len g
            refine WC_region ?_
            refine WL_val (dd := some 89) rfl rfl rfl (r_move (v := .pointer (some ⟨bz, 0, none⟩)) rfl) ?_
            refine WL_val (dd := some 90) rfl rfl rfl (r_move (v := .int .i64 _) rfl) ?_
            refine WL_call (dd := some 91) rfl rfl rfl (r_call3 tb_c25 (v0 := .pointer (some ⟨bz, 0, none⟩)) rfl (v1 := .int .i64 _) rfl (v2 := .int .i64 0) rfl) (C_drawknifelaw08_list _ _ _ _ _ _ _ (ofI f) _ hz hD hIa (by omega)) (fun v21_2 W97 hE98 hP21_2 => ?_)
            have hsz99 := (Below.size hB)
            replace hB := below_ext hB hE98 (Nat.le_refl _)
            replace hD := Dia.ext hE98 hD
            replace hz := hE98.at hz
            clear hE98
            obtain ⟨hP21_2, hty21_2⟩ := hP21_2
            clear hsz99
            refine WL_val (dd := some 92) rfl rfl rfl (r_move (v := xf) rfl) ?_
            refine WL_call (dd := some 93) rfl rfl rfl (r_call1 tb_c27 (v0 := xf) rfl) (C_drawkniferef08_Of _ _ _ (Below.slT hB hf) (by first | assumption | omega)) (fun v21_4 W100 hE101 hP21_4 => ?_)
            have hsz102 := (Below.size hB)
            replace hB := below_ext hB hE101 (Nat.le_refl _)
            replace hD := Dia.ext hE101 hD
            replace hz := hE101.at hz
            replace hP21_2 := hE101.slT hP21_2
            replace hty21_2 := TyS.ext hE101 hty21_2
            clear hE101
            replace hP21_4 := OwT.mono hP21_4 hsz102
            clear hsz102
            refine WL_call (dd := some 94) rfl rfl rfl (r_call2 tb_c24 (v0 := v21_2) rfl (v1 := v21_4) rfl) (C_drawkniferef08_Same _ _ _ _ _ hP21_2 hP21_4.sl (by first | assumption | omega) (by first | assumption | omega)) (fun v21_5 W103 hE104 hP21_5 => ?_)
            have hsz105 := (Below.size hB)
            replace hB := below_ext hB hE104 (Nat.le_refl _)
            replace hD := Dia.ext hE104 hD
            replace hz := hE104.at hz
            replace hP21_2 := hE104.slT hP21_2
            replace hty21_2 := TyS.ext hE104 hty21_2
            replace hP21_4 := hE104.ow hP21_4
            clear hE104
            clear hsz105
            obtain rfl := hP21_5
            refine WL_val (dd := some 95) rfl rfl rfl (r_not rfl) ?_
            refine WL_split (dd := some 96) rfl rfl rfl (r_move (v := .bool _) rfl) (fun hs21_7 => ?_) (fun hs21_7 => ?_)
            ·
              try with_reducible replace hs21_7 := of_decide_eq_true hs21_7
              exact absurd hs21_7 (by rw [decide_eq_true rfl]; decide)
            ·
              try with_reducible replace hs21_7 := of_decide_eq_false hs21_7
              refine WL_val (dd := some 97) rfl rfl rfl (r_move (v := .int .i64 _) rfl) ?_
              refine WL_val (dd := some 98) rfl rfl rfl (r_neq rfl rfl) ?_
              refine WL_split (dd := some 99) rfl rfl rfl (r_move (v := .bool _) rfl) (fun hs21_10 => ?_) (fun hs21_10 => ?_)
              ·
                try with_reducible replace hs21_10 := of_decide_eq_true hs21_10
                refine WL_val (dd := some 100) rfl rfl rfl (r_move (v := .int .i64 _) rfl) ?_
                refine WL_val (dd := some 101) rfl rfl rfl (r_neq rfl rfl) ?_
                refine WL_val (dd := some 102) rfl rfl rfl (r_pick_t rfl (v := .bool _) rfl) ?_
                refine WL_val (dd := some 103) rfl rfl rfl (r_pick_f rfl (v := .bool _) rfl) ?_
                refine WL_split (dd := some 104) rfl rfl rfl (r_move (v := .bool _) rfl) (fun hs21_15 => ?_) (fun hs21_15 => ?_)
                ·
                  try with_reducible replace hs21_15 := of_decide_eq_true hs21_15
                  omega
                ·
                  try with_reducible replace hs21_15 := of_decide_eq_false hs21_15
                  refine WL_val (dd := some 105) rfl rfl rfl (r_move (v := .int .i64 _) rfl) ?_
                  refine WL_val (dd := some 106) rfl rfl rfl (r_neq rfl rfl) ?_
                  refine WL_split (dd := some 107) rfl rfl rfl (r_move (v := .bool _) rfl) (fun hs21_18 => ?_) (fun hs21_18 => ?_)
                  ·
                    try with_reducible replace hs21_18 := of_decide_eq_true hs21_18
                    refine WL_val (dd := some 108) rfl rfl rfl (r_move (v := .int .i64 _) rfl) ?_
                    refine WL_val (dd := some 109) rfl rfl rfl (r_neq rfl rfl) ?_
                    refine WL_val (dd := some 110) rfl rfl rfl (r_pick_t rfl (v := .bool _) rfl) ?_
                    refine WL_val (dd := some 111) rfl rfl rfl (r_pick_f rfl (v := .bool _) rfl) ?_
                    refine WL_nil ?_
                    refine hK96 _ _ ?_
                    clear hK96 K95
                    refine WC_cond (b := _) rfl (fun hc7 => ?_) (fun hc7 => ?_)
                    ·
                      try with_reducible replace hc7 := of_decide_eq_true hc7
                      omega
                    ·
                      try with_reducible replace hc7 := of_decide_eq_false hc7
                      refine WC_skip ?_
                      refine hK94 _ _ ?_
                      clear hK94 K93
                      refine WC_seq (fun K106 hK107 => ?_)
                      refine WC_seq (fun K108 hK109 => ?_)
                      refine WC_region ?_
                      refine WL_val (dd := some 112) rfl rfl rfl (r_move (v := .int .i64 _) rfl) ?_
                      refine WL_val (dd := some 113) rfl rfl rfl (r_neq rfl rfl) ?_
                      refine WL_split (dd := some 114) rfl rfl rfl (r_move (v := .bool _) rfl) (fun hs23_2 => ?_) (fun hs23_2 => ?_)
                      ·
                        try with_reducible replace hs23_2 := of_decide_eq_true hs23_2
                        refine WL_skip (dd := some 115) rfl rfl rfl ?_
                        refine WL_skip (dd := some 116) rfl rfl rfl ?_
                        refine WL_val (dd := some 117) rfl rfl rfl (r_pick_t rfl (v := .bool true) rfl) ?_
                        refine WL_nil ?_
                        refine hK109 _ _ ?_
                        clear hK109 K108
                        refine WC_cond_true rfl ?_
                        refine WC_seq (fun K110 hK111 => ?_)
                        refine WC_region ?_
                        refine WL_call (dd := some 118) rfl rfl rfl (r_call0 tb_c19) (C_drawknifelaw08_knows _) (fun v24_0 W112 hE113 hP24_0 => ?_)
                        have hsz114 := (Below.size hB)
                        replace hB := below_ext hB hE113 (Nat.le_refl _)
                        replace hD := Dia.ext hE113 hD
                        replace hz := hE113.at hz
                        replace hP21_2 := hE113.slT hP21_2
                        replace hty21_2 := TyS.ext hE113 hty21_2
                        replace hP21_4 := hE113.ow hP21_4
                        clear hE113
                        clear hsz114
                        obtain rfl := hP24_0
                        refine WL_val (dd := some 6) rfl rfl rfl (r_assign (v := .bool _) rfl) ?_
                        refine WL_nil ?_
                        refine hK111 _ _ ?_
                        clear hK111 K110
                        refine WC_ret ?_
                        repeat (first | refine thenQ_ret ?_ | refine blockQ_ret ?_)
                        try clear hK107 K106
                        refine ret_t (v := .bool _) rfl ?_
                        refine ⟨hB, ?_⟩
                        rfl
                      ·
                        try with_reducible replace hs23_2 := of_decide_eq_false hs23_2
                        refine WL_val (dd := some 115) rfl rfl rfl (r_move (v := .int .i64 _) rfl) ?_
                        refine WL_val (dd := some 116) rfl rfl rfl (r_neq rfl rfl) ?_
                        refine WL_val (dd := some 117) rfl rfl rfl (r_pick_f rfl (v := .bool _) rfl) ?_
                        refine WL_nil ?_
                        refine hK109 _ _ ?_
                        clear hK109 K108
                        refine WC_cond (b := _) rfl (fun hc8 => ?_) (fun hc8 => ?_)
                        ·
                          try with_reducible replace hc8 := of_decide_eq_true hc8
                          refine WC_seq (fun K115 hK116 => ?_)
                          refine WC_region ?_
                          refine WL_call (dd := some 118) rfl rfl rfl (r_call0 tb_c19) (C_drawknifelaw08_knows _) (fun v24_0 W117 hE118 hP24_0 => ?_)
                          have hsz119 := (Below.size hB)
                          replace hB := below_ext hB hE118 (Nat.le_refl _)
                          replace hD := Dia.ext hE118 hD
                          replace hz := hE118.at hz
                          replace hP21_2 := hE118.slT hP21_2
                          replace hty21_2 := TyS.ext hE118 hty21_2
                          replace hP21_4 := hE118.ow hP21_4
                          clear hE118
                          clear hsz119
                          obtain rfl := hP24_0
                          refine WL_val (dd := some 6) rfl rfl rfl (r_assign (v := .bool _) rfl) ?_
                          refine WL_nil ?_
                          refine hK116 _ _ ?_
                          clear hK116 K115
                          refine WC_ret ?_
                          repeat (first | refine thenQ_ret ?_ | refine blockQ_ret ?_)
                          try clear hK107 K106
                          refine ret_t (v := .bool _) rfl ?_
                          refine ⟨hB, ?_⟩
                          rfl
                        ·
                          try with_reducible replace hc8 := of_decide_eq_false hc8
                          refine WC_skip ?_
                          refine hK107 _ _ ?_
                          clear hK107 K106
                          refine WC_seq (fun K120 hK121 => ?_)
                          have hl1 := ofI_len (ofI f ++ ofI g)
                          have hl2 := ofI_len (f ++ g)
                          simp only [List.length_append] at hl1 hl2
                          have heb : er19_2 = 0 := Decidable.of_not_not hs23_2
                          have heu : er20_3 = 0 := by first | exact Decidable.of_not_not hc8 | exact Decidable.of_not_not hc7
                          have hIb := got_of hgB hog heb
                          have hIu := got_un hg20_3 hIa0 hIb heu
                          subst heu
                          have hl5 : (f ++ g).length ≤ 1000000 := by rw [List.length_append]; omega
                          refine WC_region ?_
                          refine WL_val (dd := some 119) rfl rfl rfl (r_move (v := .pointer (some ⟨bz, 0, none⟩)) rfl) ?_
                          refine WL_val (dd := some 120) rfl rfl rfl (r_move (v := .int .i64 _) rfl) ?_
                          refine WL_val (dd := some 121) rfl rfl rfl (r_move (v := .int .i64 _) rfl) ?_
                          refine WL_call (dd := some 122) rfl rfl rfl (r_call3 tb_c25 (v0 := .pointer (some ⟨bz, 0, none⟩)) rfl (v1 := .int .i64 _) rfl (v2 := .int .i64 _) rfl) (C_drawknifelaw08_list _ _ _ _ _ _ _ (ofI (ofI f ++ ofI g)) _ hz hD hIu (by omega)) (fun v25_3 W122 hE123 hP25_3 => ?_)
                          have hlt124 := OwT.lt2 hP21_4
                          have hsz125 := (Below.size hB)
                          replace hB := below_ext hB hE123 (Nat.le_refl _)
                          replace hD := Dia.ext hE123 hD
                          replace hz := hE123.at hz
                          replace hP21_2 := hE123.slT hP21_2
                          replace hty21_2 := TyS.ext hE123 hty21_2
                          replace hP21_4 := hE123.ow hP21_4
                          clear hE123
                          obtain ⟨hP25_3, hty25_3⟩ := hP25_3
                          clear hsz125
                          have hz127 := Below.slT hB hf
                          have hz128 := Below.slT hB hg
                          have hBo126 := hB
                          replace hB := Below.refl W122.heap.size W122
                          refine WL_step (dd := some 123) rfl rfl rfl (Y_lit0 tb_el22 (fun b25_4 W129 hb130 hE131 hm25_4 => ?_))
                          have lo_b25_4 : W122.heap.size ≤ b25_4 := hb130 ▸ (Below.size hB)
                          clear hb130
                          replace hB := below_ext hB hE131 (Nat.le_refl _)
                          clear hE131
                          have ho25_4 := own_lit0 (enc := encI) (sz := 1) hm25_4 lo_b25_4
                          clear hm25_4
                          refine WL_val (dd := some 124) rfl rfl rfl (r_move (v := xf) rfl) ?_
                          refine WL_step (dd := some 125) rfl rfl rfl (Y_append (v := .slice (some ⟨b25_4, 0, none⟩) 0 0) (v2 := xf) rfl rfl tb_el22 tb_zs3 (by decide) ho25_4 (Below.slT hB hz127) (enc_one_encI) (by have := Below.size hB; omega) (by first | omega | (simp; omega)) (by first | omega | (simp; omega)) (fun v25_6 W132 hG133 ho25_6 => ?_))
                          replace ho25_6 := OwT.app (enc := encI) rfl rfl rfl rfl ho25_6
                          replace hB := below_grown hB hG133 (Nat.le_refl _) (fun j hj => (OwT.lt ho25_4 j hj))
                          clear hG133
                          clear ho25_4
                          rw [List.nil_append] at ho25_6
                          refine WL_val (dd := some 126) rfl rfl rfl (r_move (v := xg) rfl) ?_
                          refine WL_step (dd := some 127) rfl rfl rfl (Y_append (v := v25_6) (v2 := xg) rfl rfl tb_el22 tb_zs3 (by decide) ho25_6 (Below.slT hB hz128) (enc_one_encI) (by have := Below.size hB; omega) (by first | omega | (simp; omega)) (by first | omega | (simp; omega)) (fun v25_8 W135 hG136 ho25_8 => ?_))
                          replace ho25_8 := OwT.app (enc := encI) rfl rfl rfl rfl ho25_8
                          replace hB := below_grown hB hG136 (Nat.le_refl _) (fun j hj => (OwT.lt ho25_6 j hj))
                          clear hG136
                          clear ho25_6
                          refine WL_call (dd := some 128) rfl rfl rfl (r_call1 tb_c27 (v0 := v25_8) rfl) (C_drawkniferef08_Of _ _ _ ho25_8.sl (by first | assumption | omega)) (fun v25_9 W138 hE139 hP25_9 => ?_)
                          have hlt140 := OwT.lt2 ho25_8
                          have hsz141 := (Below.size hB)
                          replace hB := below_ext hB hE139 (Nat.le_refl _)
                          replace ho25_8 := hE139.ow ho25_8
                          clear hE139
                          have hap142 := Apart.new hlt140 hP25_9
                          replace hP25_9 := OwT.mono hP25_9 hsz141
                          clear hsz141
                          refine WL_call (dd := some 129) rfl rfl rfl (r_call2 tb_c24 (v0 := v25_3) rfl (v1 := v25_9) rfl) (C_drawkniferef08_Same _ _ _ _ _ (Below.slT hB hP25_3) hP25_9.sl (by first | assumption | omega) (by first | assumption | omega)) (fun v25_10 W143 hE144 hP25_10 => ?_)
                          have hsz145 := (Below.size hB)
                          replace hB := below_ext hB hE144 (Nat.le_refl _)
                          replace ho25_8 := hE144.ow ho25_8
                          replace hP25_9 := hE144.ow hP25_9
                          clear hE144
                          clear hsz145
                          obtain rfl := hP25_10
                          refine WL_split (dd := some 130) rfl rfl rfl (r_move (v := .bool _) rfl) (fun hs25_11 => ?_) (fun hs25_11 => ?_)
                          ·
                            try with_reducible replace hs25_11 := of_decide_eq_true hs25_11
                            refine WL_call (dd := some 131) rfl rfl rfl (r_call0 tb_c19) (C_drawknifelaw08_knows _) (fun v25_12 W146 hE147 hP25_12 => ?_)
                            have hsz148 := (Below.size hB)
                            replace hB := below_ext hB hE147 (Nat.le_refl _)
                            replace ho25_8 := hE147.ow ho25_8
                            replace hP25_9 := hE147.ow hP25_9
                            clear hE147
                            clear hsz148
                            obtain rfl := hP25_12
                            refine WL_val (dd := some 132) rfl rfl rfl (r_pick_t rfl (v := .bool _) rfl) ?_
                            refine WL_val (dd := some 6) rfl rfl rfl (r_assign (v := .bool _) rfl) ?_
                            refine WL_nil ?_
                            refine hK121 _ _ ?_
                            clear hK121 K120
                            refine WC_ret ?_
                            try clear hz127
                            try clear hz128
                            replace hD := Dia.below hB hD
                            replace hz := Below.atI hB hz
                            replace hP21_2 := Below.slT hB hP21_2
                            replace hty21_2 := TyS.ext hB hty21_2
                            replace hP21_4 := Below.ow hB hP21_4
                            replace hP25_3 := Below.slT hB hP25_3
                            replace hty25_3 := TyS.ext hB hty25_3
                            have hzs := Nat.le_trans (Nat.le_refl _) (Below.size hBo126)
                            replace ho25_8 := OwT.mono ho25_8 hzs
                            replace hP25_9 := OwT.mono hP25_9 hzs
                            replace hB := Below.trans hBo126 (Below.mono hB hzs)
                            clear hBo126 hzs
                            repeat (first | refine thenQ_ret ?_ | refine blockQ_ret ?_)
                            refine ret_t (v := .bool _) rfl ?_
                            refine ⟨hB, ?_⟩
                            rfl
                          ·
                            try with_reducible replace hs25_11 := of_decide_eq_false hs25_11
                            exact absurd (ofI_app2 f g) hs25_11
                  ·
                    try with_reducible replace hs21_18 := of_decide_eq_false hs21_18
                    refine WL_skip (dd := some 108) rfl rfl rfl ?_
                    refine WL_skip (dd := some 109) rfl rfl rfl ?_
                    refine WL_val (dd := some 110) rfl rfl rfl (r_pick_f rfl (v := .bool false) rfl) ?_
                    refine WL_val (dd := some 111) rfl rfl rfl (r_pick_f rfl (v := .bool false) rfl) ?_
                    refine WL_nil ?_
                    refine hK96 _ _ ?_
                    clear hK96 K95
                    refine WC_cond_false rfl ?_
                    refine WC_skip ?_
                    refine hK94 _ _ ?_
                    clear hK94 K93
                    refine WC_seq (fun K149 hK150 => ?_)
                    refine WC_seq (fun K151 hK152 => ?_)
                    refine WC_region ?_
                    refine WL_val (dd := some 112) rfl rfl rfl (r_move (v := .int .i64 _) rfl) ?_
                    refine WL_val (dd := some 113) rfl rfl rfl (r_neq rfl rfl) ?_
                    refine WL_split (dd := some 114) rfl rfl rfl (r_move (v := .bool _) rfl) (fun hs23_2 => ?_) (fun hs23_2 => ?_)
                    ·
                      try with_reducible replace hs23_2 := of_decide_eq_true hs23_2
                      refine WL_skip (dd := some 115) rfl rfl rfl ?_
                      refine WL_skip (dd := some 116) rfl rfl rfl ?_
                      refine WL_val (dd := some 117) rfl rfl rfl (r_pick_t rfl (v := .bool true) rfl) ?_
                      refine WL_nil ?_
                      refine hK152 _ _ ?_
                      clear hK152 K151
                      refine WC_cond_true rfl ?_
                      refine WC_seq (fun K153 hK154 => ?_)
                      refine WC_region ?_
                      refine WL_call (dd := some 118) rfl rfl rfl (r_call0 tb_c19) (C_drawknifelaw08_knows _) (fun v24_0 W155 hE156 hP24_0 => ?_)
                      have hsz157 := (Below.size hB)
                      replace hB := below_ext hB hE156 (Nat.le_refl _)
                      replace hD := Dia.ext hE156 hD
                      replace hz := hE156.at hz
                      replace hP21_2 := hE156.slT hP21_2
                      replace hty21_2 := TyS.ext hE156 hty21_2
                      replace hP21_4 := hE156.ow hP21_4
                      clear hE156
                      clear hsz157
                      obtain rfl := hP24_0
                      refine WL_val (dd := some 6) rfl rfl rfl (r_assign (v := .bool _) rfl) ?_
                      refine WL_nil ?_
                      refine hK154 _ _ ?_
                      clear hK154 K153
                      refine WC_ret ?_
                      repeat (first | refine thenQ_ret ?_ | refine blockQ_ret ?_)
                      try clear hK150 K149
                      refine ret_t (v := .bool _) rfl ?_
                      refine ⟨hB, ?_⟩
                      rfl
                    ·
                      try with_reducible replace hs23_2 := of_decide_eq_false hs23_2
                      refine WL_val (dd := some 115) rfl rfl rfl (r_move (v := .int .i64 _) rfl) ?_
                      refine WL_val (dd := some 116) rfl rfl rfl (r_neq rfl rfl) ?_
                      refine WL_val (dd := some 117) rfl rfl rfl (r_pick_f rfl (v := .bool _) rfl) ?_
                      refine WL_nil ?_
                      refine hK152 _ _ ?_
                      clear hK152 K151
                      refine WC_cond (b := _) rfl (fun hc8 => ?_) (fun hc8 => ?_)
                      ·
                        try with_reducible replace hc8 := of_decide_eq_true hc8
                        refine WC_seq (fun K158 hK159 => ?_)
                        refine WC_region ?_
                        refine WL_call (dd := some 118) rfl rfl rfl (r_call0 tb_c19) (C_drawknifelaw08_knows _) (fun v24_0 W160 hE161 hP24_0 => ?_)
                        have hsz162 := (Below.size hB)
                        replace hB := below_ext hB hE161 (Nat.le_refl _)
                        replace hD := Dia.ext hE161 hD
                        replace hz := hE161.at hz
                        replace hP21_2 := hE161.slT hP21_2
                        replace hty21_2 := TyS.ext hE161 hty21_2
                        replace hP21_4 := hE161.ow hP21_4
                        clear hE161
                        clear hsz162
                        obtain rfl := hP24_0
                        refine WL_val (dd := some 6) rfl rfl rfl (r_assign (v := .bool _) rfl) ?_
                        refine WL_nil ?_
                        refine hK159 _ _ ?_
                        clear hK159 K158
                        refine WC_ret ?_
                        repeat (first | refine thenQ_ret ?_ | refine blockQ_ret ?_)
                        try clear hK150 K149
                        refine ret_t (v := .bool _) rfl ?_
                        refine ⟨hB, ?_⟩
                        rfl
                      ·
                        try with_reducible replace hc8 := of_decide_eq_false hc8
                        refine WC_skip ?_
                        refine hK150 _ _ ?_
                        clear hK150 K149
                        refine WC_seq (fun K163 hK164 => ?_)
                        have hl1 := ofI_len (ofI f ++ ofI g)
                        have hl2 := ofI_len (f ++ g)
                        simp only [List.length_append] at hl1 hl2
                        have heb : er19_2 = 0 := Decidable.of_not_not hs23_2
                        have heu : er20_3 = 0 := by first | exact Decidable.of_not_not hc8 | exact Decidable.of_not_not hc7
                        have hIb := got_of hgB hog heb
                        have hIu := got_un hg20_3 hIa0 hIb heu
                        subst heu
                        have hl5 : (f ++ g).length ≤ 1000000 := by rw [List.length_append]; omega
                        refine WC_region ?_
                        refine WL_val (dd := some 119) rfl rfl rfl (r_move (v := .pointer (some ⟨bz, 0, none⟩)) rfl) ?_
                        refine WL_val (dd := some 120) rfl rfl rfl (r_move (v := .int .i64 _) rfl) ?_
                        refine WL_val (dd := some 121) rfl rfl rfl (r_move (v := .int .i64 _) rfl) ?_
                        refine WL_call (dd := some 122) rfl rfl rfl (r_call3 tb_c25 (v0 := .pointer (some ⟨bz, 0, none⟩)) rfl (v1 := .int .i64 _) rfl (v2 := .int .i64 _) rfl) (C_drawknifelaw08_list _ _ _ _ _ _ _ (ofI (ofI f ++ ofI g)) _ hz hD hIu (by omega)) (fun v25_3 W165 hE166 hP25_3 => ?_)
                        have hlt167 := OwT.lt2 hP21_4
                        have hsz168 := (Below.size hB)
                        replace hB := below_ext hB hE166 (Nat.le_refl _)
                        replace hD := Dia.ext hE166 hD
                        replace hz := hE166.at hz
                        replace hP21_2 := hE166.slT hP21_2
                        replace hty21_2 := TyS.ext hE166 hty21_2
                        replace hP21_4 := hE166.ow hP21_4
                        clear hE166
                        obtain ⟨hP25_3, hty25_3⟩ := hP25_3
                        clear hsz168
                        have hz170 := Below.slT hB hf
                        have hz171 := Below.slT hB hg
                        have hBo169 := hB
                        replace hB := Below.refl W165.heap.size W165
                        refine WL_step (dd := some 123) rfl rfl rfl (Y_lit0 tb_el22 (fun b25_4 W172 hb173 hE174 hm25_4 => ?_))
                        have lo_b25_4 : W165.heap.size ≤ b25_4 := hb173 ▸ (Below.size hB)
                        clear hb173
                        replace hB := below_ext hB hE174 (Nat.le_refl _)
                        clear hE174
                        have ho25_4 := own_lit0 (enc := encI) (sz := 1) hm25_4 lo_b25_4
                        clear hm25_4
                        refine WL_val (dd := some 124) rfl rfl rfl (r_move (v := xf) rfl) ?_
                        refine WL_step (dd := some 125) rfl rfl rfl (Y_append (v := .slice (some ⟨b25_4, 0, none⟩) 0 0) (v2 := xf) rfl rfl tb_el22 tb_zs3 (by decide) ho25_4 (Below.slT hB hz170) (enc_one_encI) (by have := Below.size hB; omega) (by first | omega | (simp; omega)) (by first | omega | (simp; omega)) (fun v25_6 W175 hG176 ho25_6 => ?_))
                        replace ho25_6 := OwT.app (enc := encI) rfl rfl rfl rfl ho25_6
                        replace hB := below_grown hB hG176 (Nat.le_refl _) (fun j hj => (OwT.lt ho25_4 j hj))
                        clear hG176
                        clear ho25_4
                        rw [List.nil_append] at ho25_6
                        refine WL_val (dd := some 126) rfl rfl rfl (r_move (v := xg) rfl) ?_
                        refine WL_step (dd := some 127) rfl rfl rfl (Y_append (v := v25_6) (v2 := xg) rfl rfl tb_el22 tb_zs3 (by decide) ho25_6 (Below.slT hB hz171) (enc_one_encI) (by have := Below.size hB; omega) (by first | omega | (simp; omega)) (by first | omega | (simp; omega)) (fun v25_8 W178 hG179 ho25_8 => ?_))
                        replace ho25_8 := OwT.app (enc := encI) rfl rfl rfl rfl ho25_8
                        replace hB := below_grown hB hG179 (Nat.le_refl _) (fun j hj => (OwT.lt ho25_6 j hj))
                        clear hG179
                        clear ho25_6
                        refine WL_call (dd := some 128) rfl rfl rfl (r_call1 tb_c27 (v0 := v25_8) rfl) (C_drawkniferef08_Of _ _ _ ho25_8.sl (by first | assumption | omega)) (fun v25_9 W181 hE182 hP25_9 => ?_)
                        have hlt183 := OwT.lt2 ho25_8
                        have hsz184 := (Below.size hB)
                        replace hB := below_ext hB hE182 (Nat.le_refl _)
                        replace ho25_8 := hE182.ow ho25_8
                        clear hE182
                        have hap185 := Apart.new hlt183 hP25_9
                        replace hP25_9 := OwT.mono hP25_9 hsz184
                        clear hsz184
                        refine WL_call (dd := some 129) rfl rfl rfl (r_call2 tb_c24 (v0 := v25_3) rfl (v1 := v25_9) rfl) (C_drawkniferef08_Same _ _ _ _ _ (Below.slT hB hP25_3) hP25_9.sl (by first | assumption | omega) (by first | assumption | omega)) (fun v25_10 W186 hE187 hP25_10 => ?_)
                        have hsz188 := (Below.size hB)
                        replace hB := below_ext hB hE187 (Nat.le_refl _)
                        replace ho25_8 := hE187.ow ho25_8
                        replace hP25_9 := hE187.ow hP25_9
                        clear hE187
                        clear hsz188
                        obtain rfl := hP25_10
                        refine WL_split (dd := some 130) rfl rfl rfl (r_move (v := .bool _) rfl) (fun hs25_11 => ?_) (fun hs25_11 => ?_)
                        ·
                          try with_reducible replace hs25_11 := of_decide_eq_true hs25_11
                          refine WL_call (dd := some 131) rfl rfl rfl (r_call0 tb_c19) (C_drawknifelaw08_knows _) (fun v25_12 W189 hE190 hP25_12 => ?_)
                          have hsz191 := (Below.size hB)
                          replace hB := below_ext hB hE190 (Nat.le_refl _)
                          replace ho25_8 := hE190.ow ho25_8
                          replace hP25_9 := hE190.ow hP25_9
                          clear hE190
                          clear hsz191
                          obtain rfl := hP25_12
                          refine WL_val (dd := some 132) rfl rfl rfl (r_pick_t rfl (v := .bool _) rfl) ?_
                          refine WL_val (dd := some 6) rfl rfl rfl (r_assign (v := .bool _) rfl) ?_
                          refine WL_nil ?_
                          refine hK164 _ _ ?_
                          clear hK164 K163
                          refine WC_ret ?_
                          try clear hz170
                          try clear hz171
                          replace hD := Dia.below hB hD
                          replace hz := Below.atI hB hz
                          replace hP21_2 := Below.slT hB hP21_2
                          replace hty21_2 := TyS.ext hB hty21_2
                          replace hP21_4 := Below.ow hB hP21_4
                          replace hP25_3 := Below.slT hB hP25_3
                          replace hty25_3 := TyS.ext hB hty25_3
                          have hzs := Nat.le_trans (Nat.le_refl _) (Below.size hBo169)
                          replace ho25_8 := OwT.mono ho25_8 hzs
                          replace hP25_9 := OwT.mono hP25_9 hzs
                          replace hB := Below.trans hBo169 (Below.mono hB hzs)
                          clear hBo169 hzs
                          repeat (first | refine thenQ_ret ?_ | refine blockQ_ret ?_)
                          refine ret_t (v := .bool _) rfl ?_
                          refine ⟨hB, ?_⟩
                          rfl
                        ·
                          try with_reducible replace hs25_11 := of_decide_eq_false hs25_11
                          exact absurd (ofI_app2 f g) hs25_11
              ·
                try with_reducible replace hs21_10 := of_decide_eq_false hs21_10
                refine WL_skip (dd := some 100) rfl rfl rfl ?_
                refine WL_skip (dd := some 101) rfl rfl rfl ?_
                refine WL_val (dd := some 102) rfl rfl rfl (r_pick_f rfl (v := .bool false) rfl) ?_
                refine WL_val (dd := some 103) rfl rfl rfl (r_pick_f rfl (v := .bool false) rfl) ?_
                refine WL_val (dd := some 104) rfl rfl rfl (r_move (v := .bool false) rfl) ?_
                refine WL_val (dd := some 105) rfl rfl rfl (r_move (v := .int .i64 _) rfl) ?_
                refine WL_val (dd := some 106) rfl rfl rfl (r_neq rfl rfl) ?_
                refine WL_split (dd := some 107) rfl rfl rfl (r_move (v := .bool _) rfl) (fun hs21_18 => ?_) (fun hs21_18 => ?_)
                ·
                  try with_reducible replace hs21_18 := of_decide_eq_true hs21_18
                  refine WL_val (dd := some 108) rfl rfl rfl (r_move (v := .int .i64 _) rfl) ?_
                  refine WL_val (dd := some 109) rfl rfl rfl (r_neq rfl rfl) ?_
                  refine WL_val (dd := some 110) rfl rfl rfl (r_pick_t rfl (v := .bool _) rfl) ?_
                  refine WL_val (dd := some 111) rfl rfl rfl (r_pick_f rfl (v := .bool _) rfl) ?_
                  refine WL_nil ?_
                  refine hK96 _ _ ?_
                  clear hK96 K95
                  refine WC_cond (b := _) rfl (fun hc7 => ?_) (fun hc7 => ?_)
                  ·
                    try with_reducible replace hc7 := of_decide_eq_true hc7
                    omega
                  ·
                    try with_reducible replace hc7 := of_decide_eq_false hc7
                    refine WC_skip ?_
                    refine hK94 _ _ ?_
                    clear hK94 K93
                    refine WC_seq (fun K192 hK193 => ?_)
                    refine WC_seq (fun K194 hK195 => ?_)
                    refine WC_region ?_
                    refine WL_val (dd := some 112) rfl rfl rfl (r_move (v := .int .i64 _) rfl) ?_
                    refine WL_val (dd := some 113) rfl rfl rfl (r_neq rfl rfl) ?_
                    refine WL_split (dd := some 114) rfl rfl rfl (r_move (v := .bool _) rfl) (fun hs23_2 => ?_) (fun hs23_2 => ?_)
                    ·
                      try with_reducible replace hs23_2 := of_decide_eq_true hs23_2
                      refine WL_skip (dd := some 115) rfl rfl rfl ?_
                      refine WL_skip (dd := some 116) rfl rfl rfl ?_
                      refine WL_val (dd := some 117) rfl rfl rfl (r_pick_t rfl (v := .bool true) rfl) ?_
                      refine WL_nil ?_
                      refine hK195 _ _ ?_
                      clear hK195 K194
                      refine WC_cond_true rfl ?_
                      refine WC_seq (fun K196 hK197 => ?_)
                      refine WC_region ?_
                      refine WL_call (dd := some 118) rfl rfl rfl (r_call0 tb_c19) (C_drawknifelaw08_knows _) (fun v24_0 W198 hE199 hP24_0 => ?_)
                      have hsz200 := (Below.size hB)
                      replace hB := below_ext hB hE199 (Nat.le_refl _)
                      replace hD := Dia.ext hE199 hD
                      replace hz := hE199.at hz
                      replace hP21_2 := hE199.slT hP21_2
                      replace hty21_2 := TyS.ext hE199 hty21_2
                      replace hP21_4 := hE199.ow hP21_4
                      clear hE199
                      clear hsz200
                      obtain rfl := hP24_0
                      refine WL_val (dd := some 6) rfl rfl rfl (r_assign (v := .bool _) rfl) ?_
                      refine WL_nil ?_
                      refine hK197 _ _ ?_
                      clear hK197 K196
                      refine WC_ret ?_
                      repeat (first | refine thenQ_ret ?_ | refine blockQ_ret ?_)
                      try clear hK193 K192
                      refine ret_t (v := .bool _) rfl ?_
                      refine ⟨hB, ?_⟩
                      rfl
                    ·
                      try with_reducible replace hs23_2 := of_decide_eq_false hs23_2
                      refine WL_val (dd := some 115) rfl rfl rfl (r_move (v := .int .i64 _) rfl) ?_
                      refine WL_val (dd := some 116) rfl rfl rfl (r_neq rfl rfl) ?_
                      refine WL_val (dd := some 117) rfl rfl rfl (r_pick_f rfl (v := .bool _) rfl) ?_
                      refine WL_nil ?_
                      refine hK195 _ _ ?_
                      clear hK195 K194
                      refine WC_cond (b := _) rfl (fun hc8 => ?_) (fun hc8 => ?_)
                      ·
                        try with_reducible replace hc8 := of_decide_eq_true hc8
                        refine WC_seq (fun K201 hK202 => ?_)
                        refine WC_region ?_
                        refine WL_call (dd := some 118) rfl rfl rfl (r_call0 tb_c19) (C_drawknifelaw08_knows _) (fun v24_0 W203 hE204 hP24_0 => ?_)
                        have hsz205 := (Below.size hB)
                        replace hB := below_ext hB hE204 (Nat.le_refl _)
                        replace hD := Dia.ext hE204 hD
                        replace hz := hE204.at hz
                        replace hP21_2 := hE204.slT hP21_2
                        replace hty21_2 := TyS.ext hE204 hty21_2
                        replace hP21_4 := hE204.ow hP21_4
                        clear hE204
                        clear hsz205
                        obtain rfl := hP24_0
                        refine WL_val (dd := some 6) rfl rfl rfl (r_assign (v := .bool _) rfl) ?_
                        refine WL_nil ?_
                        refine hK202 _ _ ?_
                        clear hK202 K201
                        refine WC_ret ?_
                        repeat (first | refine thenQ_ret ?_ | refine blockQ_ret ?_)
                        try clear hK193 K192
                        refine ret_t (v := .bool _) rfl ?_
                        refine ⟨hB, ?_⟩
                        rfl
                      ·
                        try with_reducible replace hc8 := of_decide_eq_false hc8
                        refine WC_skip ?_
                        refine hK193 _ _ ?_
                        clear hK193 K192
                        refine WC_seq (fun K206 hK207 => ?_)
                        have hl1 := ofI_len (ofI f ++ ofI g)
                        have hl2 := ofI_len (f ++ g)
                        simp only [List.length_append] at hl1 hl2
                        have heb : er19_2 = 0 := Decidable.of_not_not hs23_2
                        have heu : er20_3 = 0 := by first | exact Decidable.of_not_not hc8 | exact Decidable.of_not_not hc7
                        have hIb := got_of hgB hog heb
                        have hIu := got_un hg20_3 hIa0 hIb heu
                        subst heu
                        have hl5 : (f ++ g).length ≤ 1000000 := by rw [List.length_append]; omega
                        refine WC_region ?_
                        refine WL_val (dd := some 119) rfl rfl rfl (r_move (v := .pointer (some ⟨bz, 0, none⟩)) rfl) ?_
                        refine WL_val (dd := some 120) rfl rfl rfl (r_move (v := .int .i64 _) rfl) ?_
                        refine WL_val (dd := some 121) rfl rfl rfl (r_move (v := .int .i64 _) rfl) ?_
                        refine WL_call (dd := some 122) rfl rfl rfl (r_call3 tb_c25 (v0 := .pointer (some ⟨bz, 0, none⟩)) rfl (v1 := .int .i64 _) rfl (v2 := .int .i64 _) rfl) (C_drawknifelaw08_list _ _ _ _ _ _ _ (ofI (ofI f ++ ofI g)) _ hz hD hIu (by omega)) (fun v25_3 W208 hE209 hP25_3 => ?_)
                        have hlt210 := OwT.lt2 hP21_4
                        have hsz211 := (Below.size hB)
                        replace hB := below_ext hB hE209 (Nat.le_refl _)
                        replace hD := Dia.ext hE209 hD
                        replace hz := hE209.at hz
                        replace hP21_2 := hE209.slT hP21_2
                        replace hty21_2 := TyS.ext hE209 hty21_2
                        replace hP21_4 := hE209.ow hP21_4
                        clear hE209
                        obtain ⟨hP25_3, hty25_3⟩ := hP25_3
                        clear hsz211
                        have hz213 := Below.slT hB hf
                        have hz214 := Below.slT hB hg
                        have hBo212 := hB
                        replace hB := Below.refl W208.heap.size W208
                        refine WL_step (dd := some 123) rfl rfl rfl (Y_lit0 tb_el22 (fun b25_4 W215 hb216 hE217 hm25_4 => ?_))
                        have lo_b25_4 : W208.heap.size ≤ b25_4 := hb216 ▸ (Below.size hB)
                        clear hb216
                        replace hB := below_ext hB hE217 (Nat.le_refl _)
                        clear hE217
                        have ho25_4 := own_lit0 (enc := encI) (sz := 1) hm25_4 lo_b25_4
                        clear hm25_4
                        refine WL_val (dd := some 124) rfl rfl rfl (r_move (v := xf) rfl) ?_
                        refine WL_step (dd := some 125) rfl rfl rfl (Y_append (v := .slice (some ⟨b25_4, 0, none⟩) 0 0) (v2 := xf) rfl rfl tb_el22 tb_zs3 (by decide) ho25_4 (Below.slT hB hz213) (enc_one_encI) (by have := Below.size hB; omega) (by first | omega | (simp; omega)) (by first | omega | (simp; omega)) (fun v25_6 W218 hG219 ho25_6 => ?_))
                        replace ho25_6 := OwT.app (enc := encI) rfl rfl rfl rfl ho25_6
                        replace hB := below_grown hB hG219 (Nat.le_refl _) (fun j hj => (OwT.lt ho25_4 j hj))
                        clear hG219
                        clear ho25_4
                        rw [List.nil_append] at ho25_6
                        refine WL_val (dd := some 126) rfl rfl rfl (r_move (v := xg) rfl) ?_
                        refine WL_step (dd := some 127) rfl rfl rfl (Y_append (v := v25_6) (v2 := xg) rfl rfl tb_el22 tb_zs3 (by decide) ho25_6 (Below.slT hB hz214) (enc_one_encI) (by have := Below.size hB; omega) (by first | omega | (simp; omega)) (by first | omega | (simp; omega)) (fun v25_8 W221 hG222 ho25_8 => ?_))
                        replace ho25_8 := OwT.app (enc := encI) rfl rfl rfl rfl ho25_8
                        replace hB := below_grown hB hG222 (Nat.le_refl _) (fun j hj => (OwT.lt ho25_6 j hj))
                        clear hG222
                        clear ho25_6
                        refine WL_call (dd := some 128) rfl rfl rfl (r_call1 tb_c27 (v0 := v25_8) rfl) (C_drawkniferef08_Of _ _ _ ho25_8.sl (by first | assumption | omega)) (fun v25_9 W224 hE225 hP25_9 => ?_)
                        have hlt226 := OwT.lt2 ho25_8
                        have hsz227 := (Below.size hB)
                        replace hB := below_ext hB hE225 (Nat.le_refl _)
                        replace ho25_8 := hE225.ow ho25_8
                        clear hE225
                        have hap228 := Apart.new hlt226 hP25_9
                        replace hP25_9 := OwT.mono hP25_9 hsz227
                        clear hsz227
                        refine WL_call (dd := some 129) rfl rfl rfl (r_call2 tb_c24 (v0 := v25_3) rfl (v1 := v25_9) rfl) (C_drawkniferef08_Same _ _ _ _ _ (Below.slT hB hP25_3) hP25_9.sl (by first | assumption | omega) (by first | assumption | omega)) (fun v25_10 W229 hE230 hP25_10 => ?_)
                        have hsz231 := (Below.size hB)
                        replace hB := below_ext hB hE230 (Nat.le_refl _)
                        replace ho25_8 := hE230.ow ho25_8
                        replace hP25_9 := hE230.ow hP25_9
                        clear hE230
                        clear hsz231
                        obtain rfl := hP25_10
                        refine WL_split (dd := some 130) rfl rfl rfl (r_move (v := .bool _) rfl) (fun hs25_11 => ?_) (fun hs25_11 => ?_)
                        ·
                          try with_reducible replace hs25_11 := of_decide_eq_true hs25_11
                          refine WL_call (dd := some 131) rfl rfl rfl (r_call0 tb_c19) (C_drawknifelaw08_knows _) (fun v25_12 W232 hE233 hP25_12 => ?_)
                          have hsz234 := (Below.size hB)
                          replace hB := below_ext hB hE233 (Nat.le_refl _)
                          replace ho25_8 := hE233.ow ho25_8
                          replace hP25_9 := hE233.ow hP25_9
                          clear hE233
                          clear hsz234
                          obtain rfl := hP25_12
                          refine WL_val (dd := some 132) rfl rfl rfl (r_pick_t rfl (v := .bool _) rfl) ?_
                          refine WL_val (dd := some 6) rfl rfl rfl (r_assign (v := .bool _) rfl) ?_
                          refine WL_nil ?_
                          refine hK207 _ _ ?_
                          clear hK207 K206
                          refine WC_ret ?_
                          try clear hz213
                          try clear hz214
                          replace hD := Dia.below hB hD
                          replace hz := Below.atI hB hz
                          replace hP21_2 := Below.slT hB hP21_2
                          replace hty21_2 := TyS.ext hB hty21_2
                          replace hP21_4 := Below.ow hB hP21_4
                          replace hP25_3 := Below.slT hB hP25_3
                          replace hty25_3 := TyS.ext hB hty25_3
                          have hzs := Nat.le_trans (Nat.le_refl _) (Below.size hBo212)
                          replace ho25_8 := OwT.mono ho25_8 hzs
                          replace hP25_9 := OwT.mono hP25_9 hzs
                          replace hB := Below.trans hBo212 (Below.mono hB hzs)
                          clear hBo212 hzs
                          repeat (first | refine thenQ_ret ?_ | refine blockQ_ret ?_)
                          refine ret_t (v := .bool _) rfl ?_
                          refine ⟨hB, ?_⟩
                          rfl
                        ·
                          try with_reducible replace hs25_11 := of_decide_eq_false hs25_11
                          exact absurd (ofI_app2 f g) hs25_11
                ·
                  try with_reducible replace hs21_18 := of_decide_eq_false hs21_18
                  refine WL_skip (dd := some 108) rfl rfl rfl ?_
                  refine WL_skip (dd := some 109) rfl rfl rfl ?_
                  refine WL_val (dd := some 110) rfl rfl rfl (r_pick_f rfl (v := .bool false) rfl) ?_
                  refine WL_val (dd := some 111) rfl rfl rfl (r_pick_f rfl (v := .bool false) rfl) ?_
                  refine WL_nil ?_
                  refine hK96 _ _ ?_
                  clear hK96 K95
                  refine WC_cond_false rfl ?_
                  refine WC_skip ?_
                  refine hK94 _ _ ?_
                  clear hK94 K93
                  refine WC_seq (fun K235 hK236 => ?_)
                  refine WC_seq (fun K237 hK238 => ?_)
                  refine WC_region ?_
                  refine WL_val (dd := some 112) rfl rfl rfl (r_move (v := .int .i64 _) rfl) ?_
                  refine WL_val (dd := some 113) rfl rfl rfl (r_neq rfl rfl) ?_
                  refine WL_split (dd := some 114) rfl rfl rfl (r_move (v := .bool _) rfl) (fun hs23_2 => ?_) (fun hs23_2 => ?_)
                  ·
                    try with_reducible replace hs23_2 := of_decide_eq_true hs23_2
                    refine WL_skip (dd := some 115) rfl rfl rfl ?_
                    refine WL_skip (dd := some 116) rfl rfl rfl ?_
                    refine WL_val (dd := some 117) rfl rfl rfl (r_pick_t rfl (v := .bool true) rfl) ?_
                    refine WL_nil ?_
                    refine hK238 _ _ ?_
                    clear hK238 K237
                    refine WC_cond_true rfl ?_
                    refine WC_seq (fun K239 hK240 => ?_)
                    refine WC_region ?_
                    refine WL_call (dd := some 118) rfl rfl rfl (r_call0 tb_c19) (C_drawknifelaw08_knows _) (fun v24_0 W241 hE242 hP24_0 => ?_)
                    have hsz243 := (Below.size hB)
                    replace hB := below_ext hB hE242 (Nat.le_refl _)
                    replace hD := Dia.ext hE242 hD
                    replace hz := hE242.at hz
                    replace hP21_2 := hE242.slT hP21_2
                    replace hty21_2 := TyS.ext hE242 hty21_2
                    replace hP21_4 := hE242.ow hP21_4
                    clear hE242
                    clear hsz243
                    obtain rfl := hP24_0
                    refine WL_val (dd := some 6) rfl rfl rfl (r_assign (v := .bool _) rfl) ?_
                    refine WL_nil ?_
                    refine hK240 _ _ ?_
                    clear hK240 K239
                    refine WC_ret ?_
                    repeat (first | refine thenQ_ret ?_ | refine blockQ_ret ?_)
                    try clear hK236 K235
                    refine ret_t (v := .bool _) rfl ?_
                    refine ⟨hB, ?_⟩
                    rfl
                  ·
                    try with_reducible replace hs23_2 := of_decide_eq_false hs23_2
                    refine WL_val (dd := some 115) rfl rfl rfl (r_move (v := .int .i64 _) rfl) ?_
                    refine WL_val (dd := some 116) rfl rfl rfl (r_neq rfl rfl) ?_
                    refine WL_val (dd := some 117) rfl rfl rfl (r_pick_f rfl (v := .bool _) rfl) ?_
                    refine WL_nil ?_
                    refine hK238 _ _ ?_
                    clear hK238 K237
                    refine WC_cond (b := _) rfl (fun hc8 => ?_) (fun hc8 => ?_)
                    ·
                      try with_reducible replace hc8 := of_decide_eq_true hc8
                      refine WC_seq (fun K244 hK245 => ?_)
                      refine WC_region ?_
                      refine WL_call (dd := some 118) rfl rfl rfl (r_call0 tb_c19) (C_drawknifelaw08_knows _) (fun v24_0 W246 hE247 hP24_0 => ?_)
                      have hsz248 := (Below.size hB)
                      replace hB := below_ext hB hE247 (Nat.le_refl _)
                      replace hD := Dia.ext hE247 hD
                      replace hz := hE247.at hz
                      replace hP21_2 := hE247.slT hP21_2
                      replace hty21_2 := TyS.ext hE247 hty21_2
                      replace hP21_4 := hE247.ow hP21_4
                      clear hE247
                      clear hsz248
                      obtain rfl := hP24_0
                      refine WL_val (dd := some 6) rfl rfl rfl (r_assign (v := .bool _) rfl) ?_
                      refine WL_nil ?_
                      refine hK245 _ _ ?_
                      clear hK245 K244
                      refine WC_ret ?_
                      repeat (first | refine thenQ_ret ?_ | refine blockQ_ret ?_)
                      try clear hK236 K235
                      refine ret_t (v := .bool _) rfl ?_
                      refine ⟨hB, ?_⟩
                      rfl
                    ·
                      try with_reducible replace hc8 := of_decide_eq_false hc8
                      refine WC_skip ?_
                      refine hK236 _ _ ?_
                      clear hK236 K235
                      refine WC_seq (fun K249 hK250 => ?_)
                      have hl1 := ofI_len (ofI f ++ ofI g)
                      have hl2 := ofI_len (f ++ g)
                      simp only [List.length_append] at hl1 hl2
                      have heb : er19_2 = 0 := Decidable.of_not_not hs23_2
                      have heu : er20_3 = 0 := by first | exact Decidable.of_not_not hc8 | exact Decidable.of_not_not hc7
                      have hIb := got_of hgB hog heb
                      have hIu := got_un hg20_3 hIa0 hIb heu
                      subst heu
                      have hl5 : (f ++ g).length ≤ 1000000 := by rw [List.length_append]; omega
                      refine WC_region ?_
                      refine WL_val (dd := some 119) rfl rfl rfl (r_move (v := .pointer (some ⟨bz, 0, none⟩)) rfl) ?_
                      refine WL_val (dd := some 120) rfl rfl rfl (r_move (v := .int .i64 _) rfl) ?_
                      refine WL_val (dd := some 121) rfl rfl rfl (r_move (v := .int .i64 _) rfl) ?_
                      refine WL_call (dd := some 122) rfl rfl rfl (r_call3 tb_c25 (v0 := .pointer (some ⟨bz, 0, none⟩)) rfl (v1 := .int .i64 _) rfl (v2 := .int .i64 _) rfl) (C_drawknifelaw08_list _ _ _ _ _ _ _ (ofI (ofI f ++ ofI g)) _ hz hD hIu (by omega)) (fun v25_3 W251 hE252 hP25_3 => ?_)
                      have hlt253 := OwT.lt2 hP21_4
                      have hsz254 := (Below.size hB)
                      replace hB := below_ext hB hE252 (Nat.le_refl _)
                      replace hD := Dia.ext hE252 hD
                      replace hz := hE252.at hz
                      replace hP21_2 := hE252.slT hP21_2
                      replace hty21_2 := TyS.ext hE252 hty21_2
                      replace hP21_4 := hE252.ow hP21_4
                      clear hE252
                      obtain ⟨hP25_3, hty25_3⟩ := hP25_3
                      clear hsz254
                      have hz256 := Below.slT hB hf
                      have hz257 := Below.slT hB hg
                      have hBo255 := hB
                      replace hB := Below.refl W251.heap.size W251
                      refine WL_step (dd := some 123) rfl rfl rfl (Y_lit0 tb_el22 (fun b25_4 W258 hb259 hE260 hm25_4 => ?_))
                      have lo_b25_4 : W251.heap.size ≤ b25_4 := hb259 ▸ (Below.size hB)
                      clear hb259
                      replace hB := below_ext hB hE260 (Nat.le_refl _)
                      clear hE260
                      have ho25_4 := own_lit0 (enc := encI) (sz := 1) hm25_4 lo_b25_4
                      clear hm25_4
                      refine WL_val (dd := some 124) rfl rfl rfl (r_move (v := xf) rfl) ?_
                      refine WL_step (dd := some 125) rfl rfl rfl (Y_append (v := .slice (some ⟨b25_4, 0, none⟩) 0 0) (v2 := xf) rfl rfl tb_el22 tb_zs3 (by decide) ho25_4 (Below.slT hB hz256) (enc_one_encI) (by have := Below.size hB; omega) (by first | omega | (simp; omega)) (by first | omega | (simp; omega)) (fun v25_6 W261 hG262 ho25_6 => ?_))
                      replace ho25_6 := OwT.app (enc := encI) rfl rfl rfl rfl ho25_6
                      replace hB := below_grown hB hG262 (Nat.le_refl _) (fun j hj => (OwT.lt ho25_4 j hj))
                      clear hG262
                      clear ho25_4
                      rw [List.nil_append] at ho25_6
                      refine WL_val (dd := some 126) rfl rfl rfl (r_move (v := xg) rfl) ?_
                      refine WL_step (dd := some 127) rfl rfl rfl (Y_append (v := v25_6) (v2 := xg) rfl rfl tb_el22 tb_zs3 (by decide) ho25_6 (Below.slT hB hz257) (enc_one_encI) (by have := Below.size hB; omega) (by first | omega | (simp; omega)) (by first | omega | (simp; omega)) (fun v25_8 W264 hG265 ho25_8 => ?_))
                      replace ho25_8 := OwT.app (enc := encI) rfl rfl rfl rfl ho25_8
                      replace hB := below_grown hB hG265 (Nat.le_refl _) (fun j hj => (OwT.lt ho25_6 j hj))
                      clear hG265
                      clear ho25_6
                      refine WL_call (dd := some 128) rfl rfl rfl (r_call1 tb_c27 (v0 := v25_8) rfl) (C_drawkniferef08_Of _ _ _ ho25_8.sl (by first | assumption | omega)) (fun v25_9 W267 hE268 hP25_9 => ?_)
                      have hlt269 := OwT.lt2 ho25_8
                      have hsz270 := (Below.size hB)
                      replace hB := below_ext hB hE268 (Nat.le_refl _)
                      replace ho25_8 := hE268.ow ho25_8
                      clear hE268
                      have hap271 := Apart.new hlt269 hP25_9
                      replace hP25_9 := OwT.mono hP25_9 hsz270
                      clear hsz270
                      refine WL_call (dd := some 129) rfl rfl rfl (r_call2 tb_c24 (v0 := v25_3) rfl (v1 := v25_9) rfl) (C_drawkniferef08_Same _ _ _ _ _ (Below.slT hB hP25_3) hP25_9.sl (by first | assumption | omega) (by first | assumption | omega)) (fun v25_10 W272 hE273 hP25_10 => ?_)
                      have hsz274 := (Below.size hB)
                      replace hB := below_ext hB hE273 (Nat.le_refl _)
                      replace ho25_8 := hE273.ow ho25_8
                      replace hP25_9 := hE273.ow hP25_9
                      clear hE273
                      clear hsz274
                      obtain rfl := hP25_10
                      refine WL_split (dd := some 130) rfl rfl rfl (r_move (v := .bool _) rfl) (fun hs25_11 => ?_) (fun hs25_11 => ?_)
                      ·
                        try with_reducible replace hs25_11 := of_decide_eq_true hs25_11
                        refine WL_call (dd := some 131) rfl rfl rfl (r_call0 tb_c19) (C_drawknifelaw08_knows _) (fun v25_12 W275 hE276 hP25_12 => ?_)
                        have hsz277 := (Below.size hB)
                        replace hB := below_ext hB hE276 (Nat.le_refl _)
                        replace ho25_8 := hE276.ow ho25_8
                        replace hP25_9 := hE276.ow hP25_9
                        clear hE276
                        clear hsz277
                        obtain rfl := hP25_12
                        refine WL_val (dd := some 132) rfl rfl rfl (r_pick_t rfl (v := .bool _) rfl) ?_
                        refine WL_val (dd := some 6) rfl rfl rfl (r_assign (v := .bool _) rfl) ?_
                        refine WL_nil ?_
                        refine hK250 _ _ ?_
                        clear hK250 K249
                        refine WC_ret ?_
                        try clear hz256
                        try clear hz257
                        replace hD := Dia.below hB hD
                        replace hz := Below.atI hB hz
                        replace hP21_2 := Below.slT hB hP21_2
                        replace hty21_2 := TyS.ext hB hty21_2
                        replace hP21_4 := Below.ow hB hP21_4
                        replace hP25_3 := Below.slT hB hP25_3
                        replace hty25_3 := TyS.ext hB hty25_3
                        have hzs := Nat.le_trans (Nat.le_refl _) (Below.size hBo255)
                        replace ho25_8 := OwT.mono ho25_8 hzs
                        replace hP25_9 := OwT.mono hP25_9 hzs
                        replace hB := Below.trans hBo255 (Below.mono hB hzs)
                        clear hBo255 hzs
                        repeat (first | refine thenQ_ret ?_ | refine blockQ_ret ?_)
                        refine ret_t (v := .bool _) rfl ?_
                        refine ⟨hB, ?_⟩
                        rfl
                      ·
                        try with_reducible replace hs25_11 := of_decide_eq_false hs25_11
                        exact absurd (ofI_app2 f g) hs25_11

end Go.Proofs.Ytpamgfbecgjjeaa
