/-
  The walk of the family of a spec's primes.
-/
import Derived.Test.YtpamgfbecgjjeaaProg
import Derived.Test.YtpamgfbecgjjeaaWTag2
import Derived.Test.YtpamgfbecgjjeaaWMulti
import Derived.Test.YtpamgfbecgjjeaaT7
namespace Go.Proofs.Ytpamgfbecgjjeaa
set_option linter.unusedVariables false
set_option linter.unusedSimpArgs false
open Go Go.RowKit

theorem tb_sc126 : scalarB Try.prog 126 = true := by kernel_rfl
theorem tb_z126 : zeroI Try.prog 126 = some (.pointer none) := by kernel_rfl
theorem tb_c112 : callB Try.prog 112 = true := by kernel_rfl

set_option maxRecDepth 10000 in
theorem C_tagged_All_1 (w0 : World) (ba bm bz bc R : Nat) (ns : List Nd) (e : Int) (S : Sp) (onV mayV : Value) (o ball bs bp : Nat) (w : World) (hB : Below w0.heap.size w0 w) (hz : At w bz #[.pointer (some ⟨ba, 0, none⟩)] 100) (hD : Dia 147 150 w0.heap.size ba bm R w ns) (hc : At w bc #[.pointer (some ⟨bz, 0, none⟩), .int .i64 e] 128) (loc : w0.heap.size ≤ bc) (hr : rightS S = true) (hon : SlT encS 4 w0 onV S.on) (hmay : SlT encS 4 w0 mayV S.may) (hal : At w ball #[wv (allS (nN S)) 0, wv (allS (nN S)) 1, wv (allS (nN S)) 2, wv (allS (nN S)) 3] 69) (hsp : At w bs #[.int .i64 ((nN S : Nat) : Int), onV, mayV] 79) (hbp : At w bp #[.pointer (some ⟨bc, 0, none⟩)] 126) (ho : o < 16) :
    FnG Try.prog 112 #[.int .i64 (o : Int), .pointer (some ⟨ball, 0, none⟩), .pointer (some ⟨bs, 0, none⟩), .pointer (some ⟨bp, 0, none⟩)] w fun v w' => ∃ (ns' : List Nd) (e' : Int) (id : Nat), v = .int .i64 (id : Int) ∧ Dc 150 128 w0.heap.size bc bz ba bm w w' ∧ At w' bz #[.pointer (some ⟨ba, 0, none⟩)] 100 ∧ Dia 147 150 w0.heap.size ba bm R w' ns' ∧ At w' bc #[.pointer (some ⟨bz, 0, none⟩), .int .i64 e'] 128 ∧ PrW ns ns' R e e' (nN S) 0 (comS S o) id := by
 refine FnG_intro (n := 33) Try.func112 rfl rfl (Nat.le_of_ble_eq_true rfl) ?_
 have hX : Dc 150 128 w0.heap.size bc bz ba bm w w := Dc.refl
 have hwf := hD.wf
 have hroom := hD.room
 have htop := hD.top
 obtain ⟨h8, hSn, hm4⟩ := right_nN hr
 have hp4 := pow4 hm4
 refine WC_seq (fun K1 hK2 => ?_)
 refine WC_region ?_
 refine WL_val (dd := some 5) rfl rfl rfl (r_assign (v := .int .i64 0) rfl) ?_
 refine WL_nil ?_
 refine hK2 _ _ ?_
 clear hK2 K1
 refine WC_seq (fun K3 hK4 => ?_)
 refine WC_region ?_
 refine WL_val (dd := some 9) rfl rfl rfl (r_loadW rfl tb_ag69 rfl hal) ?_
 refine WL_step (dd := some 6) rfl rfl rfl (Y_alloc tb_z69 rfl (fun b1_1 W5 hb6 hE7 hm1_1 => ?_))
 have lo_b1_1 : w0.heap.size ≤ b1_1 := hb6 ▸ (Below.size hB)
 have ne_ball_b1_1 : ball ≠ b1_1 := Nat.ne_of_lt (hb6 ▸ hal.lt)
 have lz_b1_1 : w.heap.size ≤ b1_1 := hb6 ▸ hX.dx.size
 clear hb6
 replace hz := hE7.at hz
 replace hc := hE7.at hc
 replace hD := Dia.ext hE7 hD
 replace hX := Dc.trans hX (Dc.ext hE7)
 replace hal := hE7.at hal
 replace hsp := hE7.at hsp
 replace hbp := hE7.at hbp
 replace hB := below_ext hB hE7 (Nat.le_refl _)
 clear hE7
 replace hm1_1 : At W5 b1_1 #[wv 0 0, wv 0 1, wv 0 2, wv 0 3] 69 := hm1_1
 refine WL_step (dd := none) rfl rfl rfl (Y_storeW rfl rfl tb_ag69 rfl hm1_1 rfl (by rfl) (fun W8 hG9 hm10 => ?_))
 replace hz := At.grownAt hz hm1_1 hG9 (by decide)
 replace hc := At.grownAt hc hm1_1 hG9 (by decide)
 replace hD := Dia.grownAt hD hm1_1 hG9 (by decide) (by decide)
 replace hX := Dc.new hX lz_b1_1 lo_b1_1 hG9 hm1_1 (by decide)
 replace hal := At.grownNe hal ne_ball_b1_1 hG9
 replace hsp := At.grownAt hsp hm1_1 hG9 (by decide)
 replace hbp := At.grownAt hbp hm1_1 hG9 (by decide)
 replace hB := below_grown hB hG9 (Nat.le_refl _) (fun j hj => by cases hj; exact lo_b1_1)
 clear hG9 hm1_1
 have hm1_1 := hm10
 clear hm10
 refine WL_nil ?_
 refine hK4 _ _ ?_
 clear hK4 K3
 refine WC_seq (fun K11 hK12 => ?_)
 refine WC_seq (fun K13 hK14 => ?_)
 refine WC_region ?_
 refine WL_val (dd := some 10) rfl rfl rfl (r_fieldAddr (b := _) (o := _) rfl tb_fo79_2) ?_
 refine WL_val (dd := some 11) rfl rfl rfl (r_load1 (v := mayV) rfl tb_sc77 (At.cell hsp rfl)) ?_
 refine WL_val (dd := some 12) rfl rfl rfl (r_lenS (v := mayV) rfl (Below.slT hB hmay) tb_el77) ?_
 refine WL_val (dd := some 13) rfl rfl rfl (r_move (v := .int .i64 0) rfl) ?_
 refine WL_nil ?_
 refine hK14 _ _ ?_
 clear hK14 K13
 refine WC_block ?_
 refine WC_loop (σ := (Nat)) [7, 8, 13, 14, 15, 16, 17, 18, 19, 20, 21, 22, 23, 24, 25, 26] (fun k => [(13, .int .i64 (k : Int))]) (fun k W => (At W bz _ 100) ∧ (At W bc _ 128) ∧ (Dia 147 150 w0.heap.size ba bm R W ns) ∧ (Dc 150 128 w0.heap.size bc bz ba bm w W) ∧ (At W ball _ 69) ∧ (At W bs _ 79) ∧ (At W bp _ 126) ∧ (Below w0.heap.size w0 W) ∧ (At W b1_1 #[wv (comTo S o k) 0, wv (comTo S o k) 1, wv (comTo S o k) 2, wv (comTo S o k) 3] 69) ∧ (k ≤ S.may.length) ∧ (True)) (fun k => S.may.length - k) (0) ⟨rfl, trivial⟩ ⟨hz, hc, hD, hX, hal, hsp, hbp, hB, hm1_1, (Nat.zero_le _), trivial⟩ ?_
 clear hz hc hD hX hal hsp hbp hB hm1_1
 rintro k g16 W15 ⟨hz, hc, hD, hX, hal, hsp, hbp, hB, hm1_1, hk, _⟩ J17 hJ18
 refine WC_seq (fun K19 hK20 => ?_)
 refine WC_region ?_
 refine WL_val (dd := some 14) rfl rfl rfl (r_lss rfl rfl) ?_
 refine WL_nil ?_
 refine hK20 _ _ ?_
 clear hK20 K19
 refine WC_seq (fun K21 hK22 => ?_)
 refine WC_cond (b := _) rfl (fun hc0 => ?_) (fun hc0 => ?_)
 ·
  try with_reducible replace hc0 := of_decide_eq_true hc0
  refine WC_skip ?_
  refine hK22 _ _ ?_
  clear hK22 K21
  refine WC_seq (fun K23 hK24 => ?_)
  refine WC_block ?_
  refine WC_seq (fun K25 hK26 => ?_)
  refine WC_region ?_
  refine WL_val (dd := some 15) rfl rfl rfl (r_move (v := .int .i64 _) rfl) ?_
  refine WL_val (dd := some 16) rfl rfl rfl (r_idxS (v := mayV) rfl (Below.slT hB hmay) rfl tb_el77 (by omega) (by first | omega | (simp only [flagsTo_len, litsTo_len, firstF_len, ptF_len]; omega))) ?_
  refine WL_val (dd := some 17) rfl rfl rfl (r_load4 rfl tb_ag69 (SlT.cell (Below.slT hB hmay) encS_len 0 (by omega) (by first | omega | (simp only [flagsTo_len, litsTo_len, firstF_len, ptF_len]; omega)) 0 rfl) (SlT.cell (Below.slT hB hmay) encS_len 0 (by omega) (by first | omega | (simp only [flagsTo_len, litsTo_len, firstF_len, ptF_len]; omega)) 1 rfl) (SlT.cell (Below.slT hB hmay) encS_len 0 (by omega) (by first | omega | (simp only [flagsTo_len, litsTo_len, firstF_len, ptF_len]; omega)) 2 rfl) (SlT.cell (Below.slT hB hmay) encS_len 0 (by omega) (by first | omega | (simp only [flagsTo_len, litsTo_len, firstF_len, ptF_len]; omega)) 3 rfl)) ?_
  refine WL_step (dd := some 8) rfl rfl rfl (Y_alloc tb_z69 rfl (fun b4_3 W27 hb28 hE29 hm4_3 => ?_))
  have lo_b4_3 : w0.heap.size ≤ b4_3 := hb28 ▸ (Below.size hB)
  have ne_ball_b4_3 : ball ≠ b4_3 := Nat.ne_of_lt (hb28 ▸ hal.lt)
  have ne_b1_1_b4_3 : b1_1 ≠ b4_3 := Nat.ne_of_lt (hb28 ▸ hm1_1.lt)
  have lz_b4_3 : w.heap.size ≤ b4_3 := hb28 ▸ hX.dx.size
  clear hb28
  replace hz := hE29.at hz
  replace hc := hE29.at hc
  replace hD := Dia.ext hE29 hD
  replace hX := Dc.trans hX (Dc.ext hE29)
  replace hal := hE29.at hal
  replace hsp := hE29.at hsp
  replace hbp := hE29.at hbp
  replace hB := below_ext hB hE29 (Nat.le_refl _)
  replace hm1_1 := hE29.at hm1_1
  clear hE29
  replace hm4_3 : At W27 b4_3 #[wv 0 0, wv 0 1, wv 0 2, wv 0 3] 69 := hm4_3
  refine WL_val (dd := some 7) rfl rfl rfl (r_assign (v := .int .i64 _) rfl) ?_
  refine WL_step (dd := none) rfl rfl rfl (Y_storeW rfl rfl tb_ag69 rfl hm4_3 rfl (by rfl) (fun W30 hG31 hm32 => ?_))
  replace hz := At.grownAt hz hm4_3 hG31 (by decide)
  replace hc := At.grownAt hc hm4_3 hG31 (by decide)
  replace hD := Dia.grownAt hD hm4_3 hG31 (by decide) (by decide)
  replace hX := Dc.new hX lz_b4_3 lo_b4_3 hG31 hm4_3 (by decide)
  replace hal := At.grownNe hal ne_ball_b4_3 hG31
  replace hsp := At.grownAt hsp hm4_3 hG31 (by decide)
  replace hbp := At.grownAt hbp hm4_3 hG31 (by decide)
  replace hB := below_grown hB hG31 (Nat.le_refl _) (fun j hj => by cases hj; exact lo_b4_3)
  replace hm1_1 := At.grownNe hm1_1 ne_b1_1_b4_3 hG31
  clear hG31 hm4_3
  have hm4_3 := hm32
  clear hm32
  refine WL_nil ?_
  refine hK26 _ _ ?_
  clear hK26 K25
  refine WC_seq (fun K33 hK34 => ?_)
  refine WC_region ?_
  refine WL_val (dd := some 18) rfl rfl rfl (r_move (v := .int .i64 _) rfl) ?_
  refine WL_val (dd := some 19) rfl rfl rfl (r_move (v := .int .i64 _) rfl) ?_
  refine WL_val (dd := some 20) rfl rfl rfl (r_shr rfl rfl (by omega) (by simp only [IntKind.bits]; omega)) ?_
  refine WL_val (dd := some 21) rfl rfl rfl (r_and (n := 1) rfl rfl rfl (by simp only [topN]; have := Nat.div_le_self o (2 ^ ((k : Nat) : Int).toNat); omega) (by decide)) ?_
  refine WL_val (dd := some 22) rfl rfl rfl (r_eql rfl rfl) ?_
  refine WL_nil ?_
  refine hK34 _ _ ?_
  clear hK34 K33
  refine WC_cond (b := _) rfl (fun hc1 => ?_) (fun hc1 => ?_)
  ·
   try with_reducible replace hc1 := of_decide_eq_true hc1
   refine WC_region ?_
   refine WL_val (dd := some 23) rfl rfl rfl (r_loadW rfl tb_ag69 rfl hm1_1) ?_
   refine WL_val (dd := some 24) rfl rfl rfl (r_loadW rfl tb_ag69 rfl hm4_3) ?_
   refine WL_call (dd := some 25) rfl rfl rfl (r_call2 tb_c113 (v0 := .agg #[_, _, _, _]) rfl (v1 := .agg #[_, _, _, _]) rfl) (C_set_And _ _ _) (fun v6_2 W35 hE36 hP6_2 => ?_)
   have hsz37 := (Below.size hB)
   replace hz := hE36.at hz
   replace hc := hE36.at hc
   replace hD := Dia.ext hE36 hD
   replace hX := Dc.trans hX (Dc.ext hE36)
   replace hal := hE36.at hal
   replace hsp := hE36.at hsp
   replace hbp := hE36.at hbp
   replace hB := below_ext hB hE36 (Nat.le_refl _)
   replace hm1_1 := hE36.at hm1_1
   replace hm4_3 := hE36.at hm4_3
   clear hE36
   clear hsz37
   obtain rfl := hP6_2
   refine WL_step (dd := none) rfl rfl rfl (Y_storeW rfl rfl tb_ag69 rfl hm1_1 rfl (by rfl) (fun W38 hG39 hm40 => ?_))
   replace hz := At.grownAt hz hm1_1 hG39 (by decide)
   replace hc := At.grownAt hc hm1_1 hG39 (by decide)
   replace hD := Dia.grownAt hD hm1_1 hG39 (by decide) (by decide)
   replace hX := Dc.new hX lz_b1_1 lo_b1_1 hG39 hm1_1 (by decide)
   replace hal := At.grownNe hal ne_ball_b1_1 hG39
   replace hsp := At.grownAt hsp hm1_1 hG39 (by decide)
   replace hbp := At.grownAt hbp hm1_1 hG39 (by decide)
   replace hB := below_grown hB hG39 (Nat.le_refl _) (fun j hj => by cases hj; exact lo_b1_1)
   replace hm4_3 := At.grownNe hm4_3 (Ne.symm ne_b1_1_b4_3) hG39
   clear hG39 hm1_1
   have hm1_1 := hm40
   clear hm40
   refine WL_nil ?_
   refine hK24 _ _ ?_
   clear hK24 K23
   refine WC_region ?_
   refine WL_val (dd := some 26) rfl rfl rfl (r_addI rfl rfl (by omega) (by omega)) ?_
   refine WL_val (dd := some 13) rfl rfl rfl (r_move (v := .int .i64 _) rfl) ?_
   refine WL_nil ?_
   refine hJ18 _ _ (k + 1) ?_ ?_ ?_ ?_
   · repeat (first | exact agree.mask _ _ _ | refine agree.updo ?_ rfl _ | refine agree.updL ?_ _ rfl | refine agree.maskS rfl ?_)
   · exact ⟨rfl, trivial⟩
   · exact ⟨hz, hc, hD, hX, hal, hsp, hbp, hB, (by first | (rw [← com_t (bit_yes hc1)]; exact hm1_1) | (rw [← com_f (bit_not hc1)]; exact hm1_1)), (by omega), trivial⟩
   · first | omega | (dsimp only; omega)
  ·
   try with_reducible replace hc1 := of_decide_eq_false hc1
   refine WC_skip ?_
   refine hK24 _ _ ?_
   clear hK24 K23
   refine WC_region ?_
   refine WL_val (dd := some 26) rfl rfl rfl (r_addI rfl rfl (by omega) (by omega)) ?_
   refine WL_val (dd := some 13) rfl rfl rfl (r_move (v := .int .i64 _) rfl) ?_
   refine WL_nil ?_
   refine hJ18 _ _ (k + 1) ?_ ?_ ?_ ?_
   · repeat (first | exact agree.mask _ _ _ | refine agree.updo ?_ rfl _ | refine agree.updL ?_ _ rfl | refine agree.maskS rfl ?_)
   · exact ⟨rfl, trivial⟩
   · exact ⟨hz, hc, hD, hX, hal, hsp, hbp, hB, (by first | (rw [← com_t (bit_yes hc1)]; exact hm1_1) | (rw [← com_f (bit_not hc1)]; exact hm1_1)), (by omega), trivial⟩
   · first | omega | (dsimp only; omega)
 ·
  try with_reducible replace hc0 := of_decide_eq_false hc0
  refine WC_exit ?_
  refine hK12 _ _ ?_
  clear hK22 K21
  clear hJ18 J17
  clear hK12 K11
  refine WC_seq (fun K41 hK42 => ?_)
  obtain rfl : k = S.may.length := by omega
  refine WC_region ?_
  refine WL_val (dd := some 27) rfl rfl rfl (r_load1 (v := .pointer (some ⟨bc, 0, none⟩)) rfl tb_sc126 (At.cell hbp rfl)) ?_
  refine WL_val (dd := some 28) rfl rfl rfl (r_loadW rfl tb_ag69 rfl hm1_1) ?_
  refine WL_val (dd := some 29) rfl rfl rfl (r_loadW rfl tb_ag69 rfl hal) ?_
  refine WL_val (dd := some 30) rfl rfl rfl (r_fieldAddr (b := _) (o := _) rfl tb_fo79_0) ?_
  refine WL_val (dd := some 31) rfl rfl rfl (r_load1 (v := .int .i64 _) rfl tb_sc3 (At.cell hsp rfl)) ?_
  refine WL_callG (dd := some 32) rfl rfl rfl (r_call5 tb_c107 (v0 := .pointer (some ⟨bc, 0, none⟩)) rfl (v1 := .agg #[_, _, _, _]) rfl (v2 := .agg #[_, _, _, _]) rfl (v3 := .int .i64 _) rfl (v4 := .int .i64 0) rfl) (PrAll (nN S + 1) w0.heap.size ba bm bz bc R ns e (comS S o) (nN S) 0 _ (Below.size hB) hz hD hc loc h8 (com_fre0 hr o) (by omega)) (fun v8_5 W43 hP8_5 => ?_)
  obtain ⟨ns8_5, e8_5, id8_5, rfl, hx8_5, hz8_5, hD8_5, hc8_5, hp8_5⟩ := hP8_5
  replace hX := Dc.trans hX hx8_5
  replace hal := At.dc hD hc hx8_5 hal (by decide) (by decide) (by decide)
  replace hsp := At.dc hD hc hx8_5 hsp (by decide) (by decide) (by decide)
  replace hbp := At.dc hD hc hx8_5 hbp (by decide) (by decide) (by decide)
  replace hB := Below.dx hB (Nat.le_refl _) (Nat.le_refl _) hx8_5.dx
  replace hm1_1 := At.dc hD hc hx8_5 hm1_1 (by decide) (by decide) (by decide)
  replace hz := hz8_5
  replace hD := hD8_5
  replace hc := hc8_5
  clear hx8_5
  refine WL_val (dd := some 5) rfl rfl rfl (r_assign (v := .int .i64 _) rfl) ?_
  refine WL_nil ?_
  refine hK42 _ _ ?_
  clear hK42 K41
  refine WC_ret ?_
  repeat (first | refine thenQ_ret ?_ | refine blockQ_ret ?_)
  refine ret_t (v := .int .i64 _) rfl ?_
  exact ⟨_, _, _, rfl, hX, hz, hD, hc, hp8_5⟩

set_option maxRecDepth 20000 in
theorem C_tagged_All (w0 : World) (ba bm bz R : Nat) (ns : List Nd) (S : Sp) (onV mayV : Value) (w : World) (hB : Below w0.heap.size w0 w) (hz : At w bz #[.pointer (some ⟨ba, 0, none⟩)] 100) (hD : Dia 147 150 w0.heap.size ba bm R w ns) (hr : rightS S = true) (hon : SlT encS 4 w0 onV S.on) (hmay : SlT encS 4 w0 mayV S.may) :
    FnG Try.prog 66 #[.pointer (some ⟨bz, 0, none⟩), .agg #[.int .i64 S.n, onV, mayV]] w fun v w' => PW 147 150 w0.heap.size ba bm R w ns (AlO R ns S) v w' := by
 refine FnG_intro (n := 114) Try.func66 rfl rfl (Nat.le_of_ble_eq_true rfl) ?_
 have hX : Dx 150 w0.heap.size [ba, bm] w w := Dx.refl
 have hwf := hD.wf
 have hroom := hD.room
 have htop := hD.top
 obtain ⟨h8, hSn, hm4⟩ := right_nN hr
 have hp4 := pow4 hm4
 have hp0 := Nat.two_pow_pos S.may.length
 refine WC_seq (fun K1 hK2 => ?_)
 refine WC_region ?_
 refine WL_step (dd := some 3) rfl rfl rfl (Y_box (c := #[_, _, _]) rfl rfl (fun b0_0 W3 hb4 hE5 hm0_0 => ?_))
 have lo_b0_0 : w0.heap.size ≤ b0_0 := hb4 ▸ (Below.size hB)
 have lz_b0_0 : w.heap.size ≤ b0_0 := hb4 ▸ hX.size
 clear hb4
 replace hz := hE5.at hz
 replace hD := Dia.ext hE5 hD
 replace hX := Dx.trans hX (Dx.ext hE5)
 replace hB := below_ext hB hE5 (Nat.le_refl _)
 clear hE5
 refine WL_val (dd := some 4) rfl rfl rfl (r_assign (v := .int .i64 0) rfl) ?_
 refine WL_val (dd := some 5) rfl rfl rfl (r_assign (v := .int .i64 0) rfl) ?_
 refine WL_nil ?_
 refine hK2 _ _ ?_
 clear hK2 K1
 refine WC_seq (fun K6 hK7 => ?_)
 refine WC_seq (fun K8 hK9 => ?_)
 refine WC_region ?_
 refine WL_val (dd := some 15) rfl rfl rfl (r_move (v := .pointer (some ⟨bz, 0, none⟩)) rfl) ?_
 refine WL_val (dd := some 16) rfl rfl rfl (r_ptrNil rfl rfl Try.underlying24) ?_
 refine WL_val (dd := some 17) rfl rfl rfl (r_move (v := .bool false) rfl) ?_
 refine WL_val (dd := some 18) rfl rfl rfl (r_loadW rfl tb_ag79 rfl hm0_0) ?_
 refine WL_call (dd := some 19) rfl rfl rfl (r_call1 tb_c111 (v0 := .agg #[_, _, _]) rfl) (C_spec_Right S _ _  _ (Below.slT hB hon) (Below.slT hB hmay) ) (fun v1_4 W10 hE11 hP1_4 => ?_)
 have hsz12 := (Below.size hB)
 replace hz := hE11.at hz
 replace hD := Dia.ext hE11 hD
 replace hX := Dx.trans hX (Dx.ext hE11)
 replace hB := below_ext hB hE11 (Nat.le_refl _)
 replace hm0_0 := hE11.at hm0_0
 clear hE11
 clear hsz12
 obtain rfl := hP1_4
 refine WL_val (dd := some 20) rfl rfl rfl (r_not rfl) ?_
 refine WL_val (dd := some 21) rfl rfl rfl (r_pick_f rfl (v := .bool _) rfl) ?_
 refine WL_nil ?_
 refine hK9 _ _ ?_
 clear hK9 K8
 refine WC_cond (b := _) rfl (fun hc0 => ?_) (fun hc0 => ?_)
 ·
  try with_reducible replace hc0 := of_decide_eq_true hc0
  exact absurd (not_t' hc0) (by rw [hr]; decide)
 ·
  try with_reducible replace hc0 := of_decide_eq_false hc0
  refine WC_skip ?_
  refine hK7 _ _ ?_
  clear hK7 K6
  refine WC_seq (fun K13 hK14 => ?_)
  refine WC_region ?_
  refine WL_val (dd := some 22) rfl rfl rfl (r_move (v := .pointer (some ⟨bz, 0, none⟩)) rfl) ?_
  refine WL_val (dd := some 23) rfl rfl rfl (tb_build128_0 (h0 := rfl) (k0 := rfl) (c0_0 := .pointer (some ⟨bz, 0, none⟩))) ?_
  refine WL_step (dd := some 24) rfl rfl rfl (Y_box (c := #[_, _]) rfl rfl (fun b3_2 W15 hb16 hE17 hm3_2 => ?_))
  have lo_b3_2 : w0.heap.size ≤ b3_2 := hb16 ▸ (Below.size hB)
  have lz_b3_2 : w.heap.size ≤ b3_2 := hb16 ▸ hX.size
  clear hb16
  replace hz := hE17.at hz
  replace hD := Dia.ext hE17 hD
  replace hX := Dx.trans hX (Dx.ext hE17)
  replace hB := below_ext hB hE17 (Nat.le_refl _)
  replace hm0_0 := hE17.at hm0_0
  clear hE17
  refine WL_step (dd := some 6) rfl rfl rfl (Y_alloc tb_z126 rfl (fun b3_3 W18 hb19 hE20 hm3_3 => ?_))
  have lo_b3_3 : w0.heap.size ≤ b3_3 := hb19 ▸ (Below.size hB)
  have lz_b3_3 : w.heap.size ≤ b3_3 := hb19 ▸ hX.size
  clear hb19
  replace hz := hE20.at hz
  replace hD := Dia.ext hE20 hD
  replace hX := Dx.trans hX (Dx.ext hE20)
  replace hB := below_ext hB hE20 (Nat.le_refl _)
  replace hm0_0 := hE20.at hm0_0
  replace hm3_2 := hE20.at hm3_2
  clear hE20
  refine WL_step (dd := none) rfl rfl rfl (Y_store1 (v := .pointer (some ⟨b3_2, 0, none⟩)) rfl rfl tb_sc126 rfl hm3_3 (by exact Nat.zero_lt_one) (fun W21 hG22 hm23 => ?_))
  replace hz := At.grownAt hz hm3_3 hG22 (by decide)
  replace hD := Dia.grownAt hD hm3_3 hG22 (by decide) (by decide)
  replace hX := Dx.new1 hX lz_b3_3 (Dx.grown hG22 (List.mem_cons_self ..) lo_b3_3)
  replace hB := below_grown hB hG22 (Nat.le_refl _) (fun j hj => by cases hj; exact lo_b3_3)
  replace hm0_0 := At.grownAt hm0_0 hm3_3 hG22 (by decide)
  replace hm3_2 := At.grownAt hm3_2 hm3_3 hG22 (by decide)
  clear hG22 hm3_3
  have hm3_3 := hm23
  clear hm23
  replace hm3_3 : At _ _ #[_] _ := hm3_3
  refine WL_nil ?_
  refine hK14 _ _ ?_
  clear hK14 K13
  refine WC_seq (fun K24 hK25 => ?_)
  rw [hSn] at hm0_0
  refine WC_region ?_
  refine WL_val (dd := some 26) rfl rfl rfl (r_fieldAddr (b := _) (o := _) rfl tb_fo79_0) ?_
  refine WL_val (dd := some 27) rfl rfl rfl (r_load1 (v := .int .i64 _) rfl tb_sc3 (At.cell hm0_0 rfl)) ?_
  refine WL_call (dd := some 28) rfl rfl rfl (r_call1 tb_c105 (v0 := .int .i64 _) rfl) (C_set_All ((nN S : Nat) : Int) _) (fun v4_2 W26 hE27 hP4_2 => ?_)
  have hsz28 := (Below.size hB)
  replace hz := hE27.at hz
  replace hD := Dia.ext hE27 hD
  replace hX := Dx.trans hX (Dx.ext hE27)
  replace hB := below_ext hB hE27 (Nat.le_refl _)
  replace hm0_0 := hE27.at hm0_0
  replace hm3_2 := hE27.at hm3_2
  replace hm3_3 := hE27.at hm3_3
  clear hE27
  obtain rfl := all_val h8 hP4_2
  clear hsz28
  refine WL_val (dd := some 25) rfl rfl rfl (r_move (v := .tuple #[.agg #[_, _, _, _], .int .i64 0]) rfl) ?_
  refine WL_val (dd := some 29) rfl rfl rfl (r_ext2_0 (h := rfl)) ?_
  refine WL_val (dd := some 30) rfl rfl rfl (r_ext2_1 (h := rfl)) ?_
  refine WL_step (dd := some 7) rfl rfl rfl (Y_alloc tb_z69 rfl (fun b4_6 W29 hb30 hE31 hm4_6 => ?_))
  have lo_b4_6 : w0.heap.size ≤ b4_6 := hb30 ▸ (Below.size hB)
  have lz_b4_6 : w.heap.size ≤ b4_6 := hb30 ▸ hX.size
  clear hb30
  replace hz := hE31.at hz
  replace hD := Dia.ext hE31 hD
  replace hX := Dx.trans hX (Dx.ext hE31)
  replace hB := below_ext hB hE31 (Nat.le_refl _)
  replace hm0_0 := hE31.at hm0_0
  replace hm3_2 := hE31.at hm3_2
  replace hm3_3 := hE31.at hm3_3
  clear hE31
  replace hm4_6 : At W29 b4_6 #[wv 0 0, wv 0 1, wv 0 2, wv 0 3] 69 := hm4_6
  refine WL_step (dd := none) rfl rfl rfl (Y_storeW rfl rfl tb_ag69 rfl hm4_6 rfl (by rfl) (fun W32 hG33 hm34 => ?_))
  replace hz := At.grownAt hz hm4_6 hG33 (by decide)
  replace hD := Dia.grownAt hD hm4_6 hG33 (by decide) (by decide)
  replace hX := Dx.new1 hX lz_b4_6 (Dx.grown hG33 (List.mem_cons_self ..) lo_b4_6)
  replace hB := below_grown hB hG33 (Nat.le_refl _) (fun j hj => by cases hj; exact lo_b4_6)
  replace hm0_0 := At.grownAt hm0_0 hm4_6 hG33 (by decide)
  replace hm3_2 := At.grownAt hm3_2 hm4_6 hG33 (by decide)
  replace hm3_3 := At.grownAt hm3_3 hm4_6 hG33 (by decide)
  clear hG33 hm4_6
  have hm4_6 := hm34
  clear hm34
  refine WL_val (dd := some 8) rfl rfl rfl (r_assign (v := .int .i64 0) rfl) ?_
  refine WL_nil ?_
  refine hK25 _ _ ?_
  clear hK25 K24
  refine WC_seq (fun K35 hK36 => ?_)
  refine WC_region ?_
  refine WL_val (dd := some 9) rfl rfl rfl (r_assign (v := .int .i64 0) rfl) ?_
  refine WL_nil ?_
  refine hK36 _ _ ?_
  clear hK36 K35
  refine WC_seq (fun K37 hK38 => ?_)
  refine WC_region ?_
  refine WL_val (dd := some 31) rfl rfl rfl (r_makeFunc (vs := #[.pointer (some ⟨b4_6, 0, none⟩), .pointer (some ⟨b0_0, 0, none⟩), .pointer (some ⟨b3_3, 0, none⟩)]) (by simp only [List.map_toArray, List.map_cons, List.map_nil]; rfl)) ?_
  refine WL_val (dd := some 10) rfl rfl rfl (r_assign (v := .func (.func 112) #[] #[.pointer (some ⟨b4_6, 0, none⟩), .pointer (some ⟨b0_0, 0, none⟩), .pointer (some ⟨b3_3, 0, none⟩)]) rfl) ?_
  refine WL_nil ?_
  refine hK38 _ _ ?_
  clear hK38 K37
  refine WC_seq (fun K39 hK40 => ?_)
  refine WC_seq (fun K41 hK42 => ?_)
  refine WC_region ?_
  refine WL_val (dd := some 11) rfl rfl rfl (r_assign (v := .int .i64 1) rfl) ?_
  refine WL_nil ?_
  refine hK42 _ _ ?_
  clear hK42 K41
  refine WC_block ?_
  refine WC_loop (σ := (Nat) × (Nat) × (List Nd) × (Int)) [9, 11, 12, 13, 14, 32, 33, 34, 35, 36, 37, 38, 39, 40, 41, 42, 43, 44, 45, 46, 47, 48, 49, 50, 51, 52, 53, 54, 55, 56, 57, 58, 59, 60, 61, 62, 63, 64, 65, 66, 67, 68, 69, 70, 71, 72, 73, 74, 75, 76, 77, 78, 79, 80, 81, 82, 83, 84, 85, 86, 87, 88, 89, 90, 91, 92, 93, 94, 95, 96, 97, 98, 99, 100, 101, 102, 103] (fun (o, out, nsc, ec) => [(11, .int .i64 (o : Int)), (9, .int .i64 (out : Int))]) (fun sg W => match sg with | (o, out, nsc, ec) => (At W bz _ 100) ∧ (Dx 150 w0.heap.size [ba, bm] w W) ∧ (Below w0.heap.size w0 W) ∧ (At W b0_0 _ 79) ∧ (At W b3_3 _ 126) ∧ (At W b4_6 _ 69) ∧ (Dia 147 150 w0.heap.size ba bm R W nsc) ∧ (At W b3_2 #[.pointer (some ⟨bz, 0, none⟩), .int .i64 ec] 128) ∧ (1 ≤ o ∧ o ≤ 2 ^ S.may.length) ∧ (AlW ns nsc R S o ec out) ∧ (True)) (fun (o, out, nsc, ec) => 2 ^ S.may.length - o) ((1, 0, ns, 0)) ⟨rfl, rfl, trivial⟩ ⟨hz, hX, hB, hm0_0, hm3_3, hm4_6, hD, hm3_2, (by omega), al_start, trivial⟩ ?_
  clear hz hD hX hB hm0_0 hm3_2 hm3_3 hm4_6
  rintro ⟨o, out, nsc, ec⟩ g44 W43 ⟨hz, hX, hB, hm0_0, hm3_3, hm4_6, hD, hm3_2, hoo, halw, _⟩ J45 hJ46
  refine WC_seq (fun K47 hK48 => ?_)
  refine WC_seq (fun K49 hK50 => ?_)
  refine WC_region ?_
  refine WL_val (dd := some 32) rfl rfl rfl (r_move (v := .int .i64 _) rfl) ?_
  refine WL_val (dd := some 33) rfl rfl rfl (r_fieldAddr (b := _) (o := _) rfl tb_fo79_2) ?_
  refine WL_val (dd := some 34) rfl rfl rfl (r_load1 (v := mayV) rfl tb_sc77 (At.cell hm0_0 rfl)) ?_
  refine WL_val (dd := some 35) rfl rfl rfl (r_lenS (v := mayV) rfl (Below.slT hB hmay) tb_el77) ?_
  refine WL_val (dd := some 36) rfl rfl rfl (r_shl (m := 1) rfl rfl (by omega) (by simp only [IntKind.bits]; omega) (by exact shl1 _ _ (by simp only [bitsN]; omega))) ?_
  refine WL_val (dd := some 37) rfl rfl rfl (r_lss rfl rfl) ?_
  refine WL_nil ?_
  refine hK50 _ _ ?_
  clear hK50 K49
  refine WC_cond (b := _) rfl (fun hc1 => ?_) (fun hc1 => ?_)
  ·
   try with_reducible replace hc1 := of_decide_eq_true hc1
   refine WC_skip ?_
   refine hK48 _ _ ?_
   clear hK48 K47
   refine WC_seq (fun K51 hK52 => ?_)
   refine WC_block ?_
   refine WC_seq (fun K53 hK54 => ?_)
   have hol : o < 16 := by simp only [Nat.one_mul, Int.toNat_natCast] at hc1; omega
   have hwo := halw.v
   refine WC_region ?_
   refine WL_val (dd := some 40) rfl rfl rfl (r_move (v := .func (.func 112) #[] #[.pointer (some ⟨b4_6, 0, none⟩), .pointer (some ⟨b0_0, 0, none⟩), .pointer (some ⟨b3_3, 0, none⟩)]) rfl) ?_
   refine WL_val (dd := some 41) rfl rfl rfl (r_move (v := .int .i64 _) rfl) ?_
   refine WL_callG (dd := some 42) rfl rfl rfl (r_call (q := 112) (first := #[]) (cap := #[.pointer (some ⟨b4_6, 0, none⟩), .pointer (some ⟨b0_0, 0, none⟩), .pointer (some ⟨b3_3, 0, none⟩)]) (vs := #[.int .i64 _, .pointer (some ⟨b4_6, 0, none⟩), .pointer (some ⟨b0_0, 0, none⟩), .pointer (some ⟨b3_3, 0, none⟩)]) rfl tb_c112 (by simp only [List.map_toArray, List.map_cons, List.map_nil, List.append_toArray, List.nil_append, List.cons_append]; rfl)) (C_tagged_All_1 w0 ba bm bz b3_2 R nsc ec S onV mayV o _ _ _ _ hB hz hD hm3_2 lo_b3_2 hr hon hmay hm4_6 hm0_0 hm3_3 (by omega)) (fun v10_2 W55 hP10_2 => ?_)
   obtain ⟨ns10_2, e10_2, id10_2, rfl, hx10_2, hz10_2, hD10_2, hc10_2, hp10_2⟩ := hP10_2
   replace hX := Dx.new1 hX lz_b3_2 hx10_2.dx
   replace hB := Below.dx hB (Nat.le_refl _) (Nat.le_refl _) hx10_2.dx
   replace hm0_0 := At.dc hD hm3_2 hx10_2 hm0_0 (by decide) (by decide) (by decide)
   replace hm3_3 := At.dc hD hm3_2 hx10_2 hm3_3 (by decide) (by decide) (by decide)
   replace hm4_6 := At.dc hD hm3_2 hx10_2 hm4_6 (by decide) (by decide) (by decide)
   replace hz := hz10_2
   replace hD := hD10_2
   replace hm3_2 := hc10_2
   clear hx10_2
   refine WL_val (dd := some 12) rfl rfl rfl (r_assign (v := .int .i64 _) rfl) ?_
   refine WL_nil ?_
   refine hK54 _ _ ?_
   clear hK54 K53
   refine WC_seq (fun K57 hK58 => ?_)
   refine WC_seq (fun K59 hK60 => ?_)
   refine WC_region ?_
   refine WL_val (dd := some 43) rfl rfl rfl (r_move (v := .int .i64 _) rfl) ?_
   refine WL_val (dd := some 44) rfl rfl rfl (r_addI rfl rfl (by omega) (by omega)) ?_
   refine WL_val (dd := some 13) rfl rfl rfl (r_assign (v := .int .i64 _) rfl) ?_
   refine WL_nil ?_
   refine hK60 _ _ ?_
   clear hK60 K59
   refine WC_block ?_
   refine WC_loop (σ := (Nat) × (Nat) × (List Nd) × (Int)) [12, 13, 45, 46, 47, 48, 49, 50, 51, 52, 53, 54, 55, 56, 57, 58, 59, 60, 61, 62, 63, 64, 65, 66, 67, 68, 69, 70] (fun (j, f, nsi, ei) => [(13, .int .i64 (j : Int)), (12, .int .i64 (f : Int))]) (fun sg W => match sg with | (j, f, nsi, ei) => (At W bz _ 100) ∧ (Dx 150 w0.heap.size [ba, bm] w W) ∧ (Below w0.heap.size w0 W) ∧ (At W b0_0 _ 79) ∧ (At W b3_3 _ 126) ∧ (At W b4_6 _ 69) ∧ (Dia 147 150 w0.heap.size ba bm R W nsi) ∧ (At W b3_2 #[.pointer (some ⟨bz, 0, none⟩), .int .i64 ei] 128) ∧ (o < j ∧ j ≤ 2 ^ S.may.length) ∧ (FnW nsc nsi R S o j ec ei f) ∧ (True)) (fun (j, f, nsi, ei) => 2 ^ S.may.length - j) ((o + 1, id10_2, ns10_2, e10_2)) ⟨rfl, rfl, trivial⟩ ⟨hz, hX, hB, hm0_0, hm3_3, hm4_6, hD, hm3_2, (by simp only [Nat.one_mul, Int.toNat_natCast] at hc1; omega), (fn_start hp10_2), trivial⟩ ?_
   clear hz hX hB hm0_0 hm3_3 hm4_6 hD hm3_2
   rintro ⟨j, f, nsi, ei⟩ g62 W61 ⟨hz, hX, hB, hm0_0, hm3_3, hm4_6, hD, hm3_2, hjj, hfw, _⟩ J63 hJ64
   refine WC_seq (fun K65 hK66 => ?_)
   refine WC_seq (fun K67 hK68 => ?_)
   refine WC_region ?_
   refine WL_val (dd := some 45) rfl rfl rfl (r_move (v := .int .i64 _) rfl) ?_
   refine WL_val (dd := some 46) rfl rfl rfl (r_fieldAddr (b := _) (o := _) rfl tb_fo79_2) ?_
   refine WL_val (dd := some 47) rfl rfl rfl (r_load1 (v := mayV) rfl tb_sc77 (At.cell hm0_0 rfl)) ?_
   refine WL_val (dd := some 48) rfl rfl rfl (r_lenS (v := mayV) rfl (Below.slT hB hmay) tb_el77) ?_
   refine WL_val (dd := some 49) rfl rfl rfl (r_shl (m := 1) rfl rfl (by omega) (by simp only [IntKind.bits]; omega) (by exact shl1 _ _ (by simp only [bitsN]; omega))) ?_
   refine WL_val (dd := some 50) rfl rfl rfl (r_lss rfl rfl) ?_
   refine WL_nil ?_
   refine hK68 _ _ ?_
   clear hK68 K67
   refine WC_cond (b := _) rfl (fun hc2 => ?_) (fun hc2 => ?_)
   ·
    try with_reducible replace hc2 := of_decide_eq_true hc2
    refine WC_skip ?_
    refine hK66 _ _ ?_
    clear hK66 K65
    refine WC_seq (fun K69 hK70 => ?_)
    refine WC_block ?_
    refine WC_seq (fun K71 hK72 => ?_)
    have hjp : j < 2 ^ S.may.length := by simp only [Nat.one_mul, Int.toNat_natCast] at hc2; omega
    refine WC_region ?_
    refine WL_val (dd := some 53) rfl rfl rfl (r_move (v := .int .i64 _) rfl) ?_
    refine WL_val (dd := some 54) rfl rfl rfl (r_move (v := .int .i64 _) rfl) ?_
    refine WL_val (dd := some 55) rfl rfl rfl (r_and (n := _) rfl rfl rfl (by first | assumption | (simp only [topN]; omega) | (simp only [topN]; decide)) (by first | assumption | (simp only [topN]; omega) | (simp only [topN]; decide))) ?_
    refine WL_val (dd := some 56) rfl rfl rfl (r_move (v := .int .i64 _) rfl) ?_
    refine WL_val (dd := some 57) rfl rfl rfl (r_eql rfl rfl) ?_
    refine WL_nil ?_
    refine hK72 _ _ ?_
    clear hK72 K71
    refine WC_cond (b := _) rfl (fun hc3 => ?_) (fun hc3 => ?_)
    ·
     try with_reducible replace hc3 := of_decide_eq_true hc3
     refine WC_draw (fun a b => Dc 150 128 w0.heap.size b3_2 bz ba bm a b) tb_mix (fun W73 hE74 => ?_)
     replace hz := hE74.at hz
     replace hX := Dx.trans hX (Dx.ext hE74)
     replace hB := below_ext hB hE74 (Nat.le_refl _)
     replace hm0_0 := hE74.at hm0_0
     replace hm3_3 := hE74.at hm3_3
     replace hm4_6 := hE74.at hm4_6
     replace hD := Dia.ext hE74 hD
     replace hm3_2 := hE74.at hm3_2
     have hwk0 : Wc 128 b3_2 bz W73 := ⟨_, hm3_2⟩
     have hS : Dc 150 128 w0.heap.size b3_2 bz ba bm W73 W73 := Dc.refl
     refine WT_take (dd := some 58) 0 rfl (by kernel_rfl) (by kernel_rfl) (by kernel_rfl) rfl rfl rfl (fun _wq hq => r_load1 (v := .pointer (some ⟨b3_2, 0, none⟩)) rfl tb_sc126 (At.cell (At.dc hD hm3_2 hq hm3_3 (by decide) (by decide) (by decide)) rfl)) hS ?_
     refine WT_take (dd := some 59) 1 rfl (by kernel_rfl) (by kernel_rfl) (by kernel_rfl) rfl rfl rfl (fun _wq hq => r_load1 (v := .pointer (some ⟨b3_2, 0, none⟩)) rfl tb_sc126 (At.cell (At.dc hD hm3_2 hq hm3_3 (by decide) (by decide) (by decide)) rfl)) hS ?_
     refine WT_take (dd := some 60) 2 rfl (by kernel_rfl) (by kernel_rfl) (by kernel_rfl) rfl rfl rfl (fun _wq _hq => r_nilCheck_ptr rfl) hS ?_
     refine WT_take (dd := some 61) 3 rfl (by kernel_rfl) (by kernel_rfl) (by kernel_rfl) rfl rfl rfl (fun _wq _hq => r_fieldAddr (b := _) (o := _) rfl tb_fo128_0) hS ?_
     refine WT_take (dd := some 62) 4 rfl (by kernel_rfl) (by kernel_rfl) (by kernel_rfl) rfl rfl rfl (fun _wq hq => r_load1 (v := .pointer (some ⟨bz, 0, none⟩)) rfl tb_sc24 (Wc.c0 (Dc.wk hq hwk0))) hS ?_
     refine WT_take (dd := some 63) 5 rfl (by kernel_rfl) (by kernel_rfl) (by kernel_rfl) rfl rfl rfl (fun _wq _hq => r_move (v := .int .i64 _) rfl) hS ?_
     refine WT_take (dd := some 64) 6 rfl (by kernel_rfl) (by kernel_rfl) (by kernel_rfl) rfl rfl rfl (fun _wq _hq => r_move (v := .func (.func 112) #[] #[.pointer (some ⟨b4_6, 0, none⟩), .pointer (some ⟨b0_0, 0, none⟩), .pointer (some ⟨b3_3, 0, none⟩)]) rfl) hS ?_
     refine WT_take (dd := some 65) 7 rfl (by kernel_rfl) (by kernel_rfl) (by kernel_rfl) rfl rfl rfl (fun _wq _hq => r_move (v := .int .i64 _) rfl) hS ?_
     refine WT_one (dd := some 66) 8 (by kernel_rfl) rfl rfl rfl rfl (Yd.callG (r_call (q := 112) (first := #[]) (cap := #[.pointer (some ⟨b4_6, 0, none⟩), .pointer (some ⟨b0_0, 0, none⟩), .pointer (some ⟨b3_3, 0, none⟩)]) (vs := #[.int .i64 _, .pointer (some ⟨b4_6, 0, none⟩), .pointer (some ⟨b0_0, 0, none⟩), .pointer (some ⟨b3_3, 0, none⟩)]) rfl tb_c112 (by simp only [List.map_toArray, List.map_cons, List.map_nil, List.append_toArray, List.nil_append, List.cons_append]; rfl)) (C_tagged_All_1 w0 ba bm bz b3_2 R nsi ei S onV mayV j _ _ _ _ hB hz hD hm3_2 lo_b3_2 hr hon hmay hm4_6 hm0_0 hm3_3 (by omega)) (fun v15_8 W75 hP15_8 => ⟨.inl (Dc.trans hS ((by obtain ⟨_, _, _, _, h, _⟩ := hP15_8; exact h))), ?_⟩))
     replace hS := Dc.trans hS ((by obtain ⟨_, _, _, _, h, _⟩ := hP15_8; exact h))
     obtain ⟨ns15_8, e15_8, id15_8, rfl, hx15_8, hz15_8, hD15_8, hc15_8, hp15_8⟩ := hP15_8
     replace hX := Dx.new1 hX lz_b3_2 hx15_8.dx
     replace hB := Below.dx hB (Nat.le_refl _) (Nat.le_refl _) hx15_8.dx
     replace hm0_0 := At.dc hD hm3_2 hx15_8 hm0_0 (by decide) (by decide) (by decide)
     replace hm3_3 := At.dc hD hm3_2 hx15_8 hm3_3 (by decide) (by decide) (by decide)
     replace hm4_6 := At.dc hD hm3_2 hx15_8 hm4_6 (by decide) (by decide) (by decide)
     replace hz := hz15_8
     replace hD := hD15_8
     replace hm3_2 := hc15_8
     clear hx15_8
     have hwa := hD.wf
     have hla := pre_len hp15_8.pre
     have hwi := hfw.v
     refine WT_one (dd := some 67) 9 (by kernel_rfl) rfl rfl rfl rfl (Yd.callG (r_call3 tb_c35 (v0 := .pointer (some ⟨bz, 0, none⟩)) rfl (v1 := .int .i64 _) rfl (v2 := .int .i64 _) rfl) (C___zdd_Zdd__Less w0.heap.size ba bm bz R ns15_8 f id15_8 _ (Below.size hB) hz hD (by omega) hp15_8.v) (fun v15_9 W77 hP15_9 => ⟨.inl (Dc.trans hS (Dc.zdd hD (PO.dx hP15_9) (by decide) (by decide))), ?_⟩))
     replace hS := Dc.trans hS (Dc.zdd hD (PO.dx hP15_9) (by decide) (by decide))
     obtain ⟨ns15_9, id15_9, er15_9, rfl, hx15_9, hDn15_9, hg15_9⟩ := hP15_9
     replace hz := At.dx hD hx15_9 hz (by decide) (by decide)
     replace hX := Dx.trans hX (hx15_9)
     replace hB := Below.dx hB (Nat.le_refl _) (Nat.le_refl _) hx15_9
     replace hm0_0 := At.dx hD hx15_9 hm0_0 (by decide) (by decide)
     replace hm3_3 := At.dx hD hx15_9 hm3_3 (by decide) (by decide)
     replace hm4_6 := At.dx hD hx15_9 hm4_6 (by decide) (by decide)
     replace hm3_2 := At.dx hD hx15_9 hm3_2 (by decide) (by decide)
     replace hD := hDn15_9
     refine WT_take (dd := some 68) 10 rfl (by kernel_rfl) (by kernel_rfl) (by kernel_rfl) rfl rfl rfl (fun _wq _hq => r_ext2_0 (h := rfl)) hS ?_
     refine WT_take (dd := some 69) 11 rfl (by kernel_rfl) (by kernel_rfl) (by kernel_rfl) rfl rfl rfl (fun _wq _hq => r_ext2_1 (h := rfl)) hS ?_
     refine WT_one (dd := some 70) 12 (by kernel_rfl) rfl rfl rfl rfl (Yd.callG (r_call3 tb_c114 (v0 := .pointer (some ⟨b3_2, 0, none⟩)) rfl (v1 := .int .i64 _) rfl (v2 := .int .i64 _) rfl) (C___tagged_chain__did w0.heap.size b3_2 bz _ _ _ _ (Below.size hB) hm3_2 lo_b3_2) (fun v15_12 W79 hP15_12 => ⟨.inl (Dc.trans hS (Dc.did hP15_12.1 lo_b3_2 hP15_12.2.1)), ?_⟩))
     replace hS := Dc.trans hS (Dc.did hP15_12.1 lo_b3_2 hP15_12.2.1)
     obtain ⟨hG15_12, hc15_12, rfl⟩ := hP15_12
     have sv81_hz := hz
     have sv81_hB := hB
     have sv81_hm0_0 := hm0_0
     have sv81_hm3_3 := hm3_3
     have sv81_hm4_6 := hm4_6
     have sv81_hm3_2 := hm3_2
     replace hz := At.grownAt hz hm3_2 hG15_12 (by decide)
     replace hX := Dx.new1 hX lz_b3_2 (Dx.grown hG15_12 (List.mem_cons_self ..) lo_b3_2)
     replace hB := below_grown hB hG15_12 (Nat.le_refl _) (fun j hj => by cases hj; exact lo_b3_2)
     replace hm0_0 := At.grownAt hm0_0 hm3_2 hG15_12 (by decide)
     replace hm3_3 := At.grownAt hm3_3 hm3_2 hG15_12 (by decide)
     replace hm4_6 := At.grownAt hm4_6 hm3_2 hG15_12 (by decide)
     replace hD := Dia.grownAt hD hm3_2 hG15_12 (by decide) (by decide)
     replace hm3_2 := hc15_12
     clear hG15_12
     refine WT_take (dd := some 12) 13 rfl (by kernel_rfl) (by kernel_rfl) (by kernel_rfl) rfl rfl rfl (fun _wq _hq => r_assign (v := .int .i64 _) rfl) hS ?_
     refine WT_done (by kernel_rfl) ?_
     try clear sv81_hz sv81_hB sv81_hm0_0 sv81_hm3_3 sv81_hm4_6
     refine hK70 _ _ ?_
     clear hK70 K69
     refine WC_region ?_
     refine WL_val (dd := some 51) rfl rfl rfl (r_move (v := .int .i64 _) rfl) ?_
     refine WL_val (dd := some 52) rfl rfl rfl (r_addI rfl rfl (by omega) (by omega)) ?_
     refine WL_val (dd := some 13) rfl rfl rfl (r_assign (v := .int .i64 _) rfl) ?_
     refine WL_nil ?_
     refine hJ64 _ _ ((j + 1, didV e15_8 er15_9 id15_9, ns15_9, didE e15_8 er15_9)) ?_ ?_ ?_ ?_
     · repeat (first | exact agree.mask _ _ _ | refine agree.updo ?_ rfl _ | refine agree.updL ?_ _ rfl | refine agree.maskS rfl ?_)
     · exact ⟨rfl, rfl, trivial⟩
     · exact ⟨hz, hX, hB, hm0_0, hm3_3, hm4_6, hD, (by exact hm3_2), (by omega), (fn_step hfw hjj.1 (int_eq hc3) hp15_8 hg15_9), trivial⟩
     · show 2 ^ S.may.length - (j + 1) < 2 ^ S.may.length - j; omega
    ·
     try with_reducible replace hc3 := of_decide_eq_false hc3
     refine WC_skip ?_
     refine hK70 _ _ ?_
     clear hK70 K69
     refine WC_region ?_
     refine WL_val (dd := some 51) rfl rfl rfl (r_move (v := .int .i64 _) rfl) ?_
     refine WL_val (dd := some 52) rfl rfl rfl (r_addI rfl rfl (by omega) (by omega)) ?_
     refine WL_val (dd := some 13) rfl rfl rfl (r_assign (v := .int .i64 _) rfl) ?_
     refine WL_nil ?_
     refine hJ64 _ _ ((j + 1, f, nsi, ei)) ?_ ?_ ?_ ?_
     · repeat (first | exact agree.mask _ _ _ | refine agree.updo ?_ rfl _ | refine agree.updL ?_ _ rfl | refine agree.maskS rfl ?_)
     · exact ⟨rfl, rfl, trivial⟩
     · exact ⟨hz, hX, hB, hm0_0, hm3_3, hm4_6, hD, (by exact hm3_2), (by omega), (fn_skip hfw (fun h => hc3 (congrArg Int.ofNat h))), trivial⟩
     · show 2 ^ S.may.length - (j + 1) < 2 ^ S.may.length - j; omega
   ·
    try with_reducible replace hc2 := of_decide_eq_false hc2
    refine WC_exit ?_
    refine hK58 _ _ ?_
    clear hK66 K65
    clear hJ64 J63
    clear hK58 K57
    refine WC_seq (fun K82 hK83 => ?_)
    obtain rfl : j = 2 ^ S.may.length := by simp only [Nat.one_mul, Int.toNat_natCast] at hc2; omega
    have hwi := hfw.v
    have hwl := pre_len hfw.pre
    refine WC_draw (fun a b => Dc 150 128 w0.heap.size b3_2 bz ba bm a b) tb_mix (fun W84 hE85 => ?_)
    replace hz := hE85.at hz
    replace hX := Dx.trans hX (Dx.ext hE85)
    replace hB := below_ext hB hE85 (Nat.le_refl _)
    replace hm0_0 := hE85.at hm0_0
    replace hm3_3 := hE85.at hm3_3
    replace hm4_6 := hE85.at hm4_6
    replace hD := Dia.ext hE85 hD
    replace hm3_2 := hE85.at hm3_2
    have hwk0 : Wc 128 b3_2 bz W84 := ⟨_, hm3_2⟩
    have hS : Dc 150 128 w0.heap.size b3_2 bz ba bm W84 W84 := Dc.refl
    refine WT_take (dd := some 71) 0 rfl (by kernel_rfl) (by kernel_rfl) (by kernel_rfl) rfl rfl rfl (fun _wq hq => r_load1 (v := .pointer (some ⟨b3_2, 0, none⟩)) rfl tb_sc126 (At.cell (At.dc hD hm3_2 hq hm3_3 (by decide) (by decide) (by decide)) rfl)) hS ?_
    refine WT_take (dd := some 72) 1 rfl (by kernel_rfl) (by kernel_rfl) (by kernel_rfl) rfl rfl rfl (fun _wq hq => r_load1 (v := .pointer (some ⟨b3_2, 0, none⟩)) rfl tb_sc126 (At.cell (At.dc hD hm3_2 hq hm3_3 (by decide) (by decide) (by decide)) rfl)) hS ?_
    refine WT_take (dd := some 73) 2 rfl (by kernel_rfl) (by kernel_rfl) (by kernel_rfl) rfl rfl rfl (fun _wq _hq => r_nilCheck_ptr rfl) hS ?_
    refine WT_take (dd := some 74) 3 rfl (by kernel_rfl) (by kernel_rfl) (by kernel_rfl) rfl rfl rfl (fun _wq _hq => r_fieldAddr (b := _) (o := _) rfl tb_fo128_0) hS ?_
    refine WT_take (dd := some 75) 4 rfl (by kernel_rfl) (by kernel_rfl) (by kernel_rfl) rfl rfl rfl (fun _wq hq => r_load1 (v := .pointer (some ⟨bz, 0, none⟩)) rfl tb_sc24 (Wc.c0 (Dc.wk hq hwk0))) hS ?_
    refine WT_take (dd := some 76) 5 rfl (by kernel_rfl) (by kernel_rfl) (by kernel_rfl) rfl rfl rfl (fun _wq _hq => r_move (v := .int .i64 _) rfl) hS ?_
    refine WT_take (dd := some 77) 6 rfl (by kernel_rfl) (by kernel_rfl) (by kernel_rfl) rfl rfl rfl (fun _wq hq => r_load1 (v := .pointer (some ⟨b3_2, 0, none⟩)) rfl tb_sc126 (At.cell (At.dc hD hm3_2 hq hm3_3 (by decide) (by decide) (by decide)) rfl)) hS ?_
    refine WT_take (dd := some 78) 7 rfl (by kernel_rfl) (by kernel_rfl) (by kernel_rfl) rfl rfl rfl (fun _wq hq => r_load1 (v := .pointer (some ⟨b3_2, 0, none⟩)) rfl tb_sc126 (At.cell (At.dc hD hm3_2 hq hm3_3 (by decide) (by decide) (by decide)) rfl)) hS ?_
    refine WT_take (dd := some 79) 8 rfl (by kernel_rfl) (by kernel_rfl) (by kernel_rfl) rfl rfl rfl (fun _wq _hq => r_nilCheck_ptr rfl) hS ?_
    refine WT_take (dd := some 80) 9 rfl (by kernel_rfl) (by kernel_rfl) (by kernel_rfl) rfl rfl rfl (fun _wq _hq => r_fieldAddr (b := _) (o := _) rfl tb_fo128_0) hS ?_
    refine WT_take (dd := some 81) 10 rfl (by kernel_rfl) (by kernel_rfl) (by kernel_rfl) rfl rfl rfl (fun _wq hq => r_load1 (v := .pointer (some ⟨bz, 0, none⟩)) rfl tb_sc24 (Wc.c0 (Dc.wk hq hwk0))) hS ?_
    refine WT_take (dd := some 82) 11 rfl (by kernel_rfl) (by kernel_rfl) (by kernel_rfl) rfl rfl rfl (fun _wq _hq => r_move (v := .int .i64 _) rfl) hS ?_
    refine WT_take (dd := some 83) 12 rfl (by kernel_rfl) (by kernel_rfl) (by kernel_rfl) rfl rfl rfl (fun _wq _hq => r_shl (m := _) rfl rfl (by omega) (by simp only [IntKind.bits]; omega) (by show o * 65536 < _; simp only [topN]; omega)) hS ?_
    refine WT_one (dd := some 84) 13 (by kernel_rfl) rfl rfl rfl rfl (Y_lit1 (u := .int .i64 _) rfl tb_el22 tb_zs3 rfl (by decide) (by decide) (fun b16_13 W86 hb87 hE88 hm16_13 => ⟨.inl (Dc.trans hS (Dc.ext hE88)), ?_⟩))
    have lo_b16_13 : w0.heap.size ≤ b16_13 := hb87 ▸ (Below.size hB)
    have lz_b16_13 : w.heap.size ≤ b16_13 := hb87 ▸ hX.size
    clear hb87
    have sv89_hz := hz
    have sv89_hB := hB
    have sv89_hm0_0 := hm0_0
    have sv89_hm3_3 := hm3_3
    have sv89_hm4_6 := hm4_6
    have sv89_hm3_2 := hm3_2
    replace hz := hE88.at hz
    replace hX := Dx.trans hX (Dx.ext hE88)
    replace hB := below_ext hB hE88 (Nat.le_refl _)
    replace hm0_0 := hE88.at hm0_0
    replace hm3_3 := hE88.at hm3_3
    replace hm4_6 := hE88.at hm4_6
    replace hD := Dia.ext hE88 hD
    replace hm3_2 := hE88.at hm3_2
    replace hS := Dc.trans hS (Dc.ext hE88)
    clear hE88
    have ho90 := own_lit1 (enc := encI) (a := ((o * 65536 : Nat) : Int)) hm16_13 rfl rfl lo_b16_13
    clear hm16_13
    refine WT_one (dd := some 85) 14 (by kernel_rfl) rfl rfl rfl rfl (Yd.callG (r_call2 tb_c32 (v0 := .pointer (some ⟨bz, 0, none⟩)) rfl (v1 := .slice (some ⟨b16_13, 0, none⟩) 1 1) rfl) (C___zdd_Zdd__Of w0.heap.size ba bm bz R nsi _ [((o * 65536 : Nat) : Int)] _ (Below.size hB) hz hD ho90.sl (show 1 ≤ 1000000 by decide)) (fun v16_14 W91 hP16_14 => ⟨.inl (Dc.trans hS (Dc.zdd hD (PE.dx hP16_14) (by decide) (by decide))), ?_⟩))
    replace hS := Dc.trans hS (Dc.zdd hD (PE.dx hP16_14) (by decide) (by decide))
    obtain ⟨ns16_14, id16_14, er16_14, rfl, hx16_14, hDn16_14, hg16_14⟩ := hP16_14
    replace hz := At.dx hD hx16_14 hz (by decide) (by decide)
    replace hX := Dx.trans hX (hx16_14)
    replace hB := Below.dx hB (Nat.le_refl _) (Nat.le_refl _) hx16_14
    replace hm0_0 := At.dx hD hx16_14 hm0_0 (by decide) (by decide)
    replace hm3_3 := At.dx hD hx16_14 hm3_3 (by decide) (by decide)
    replace hm4_6 := At.dx hD hx16_14 hm4_6 (by decide) (by decide)
    replace hm3_2 := At.dx hD hx16_14 hm3_2 (by decide) (by decide)
    replace ho90 := OwT.dx hD hx16_14 ho90 (by decide) (by decide)
    replace hD := hDn16_14
    have hgA := pe_ok hg16_14 (tag_ok hol)
    have hvA := hgA.valid
    have hlA := pre_len hgA.pre
    refine WT_take (dd := some 86) 15 rfl (by kernel_rfl) (by kernel_rfl) (by kernel_rfl) rfl rfl rfl (fun _wq _hq => r_ext2_0 (h := rfl)) hS ?_
    refine WT_take (dd := some 87) 16 rfl (by kernel_rfl) (by kernel_rfl) (by kernel_rfl) rfl rfl rfl (fun _wq _hq => r_ext2_1 (h := rfl)) hS ?_
    refine WT_one (dd := some 88) 17 (by kernel_rfl) rfl rfl rfl rfl (Yd.callG (r_call3 tb_c114 (v0 := .pointer (some ⟨b3_2, 0, none⟩)) rfl (v1 := .int .i64 _) rfl (v2 := .int .i64 _) rfl) (C___tagged_chain__did w0.heap.size b3_2 bz _ _ _ _ (Below.size hB) hm3_2 lo_b3_2) (fun v16_17 W93 hP16_17 => ⟨.inl (Dc.trans hS (Dc.did hP16_17.1 lo_b3_2 hP16_17.2.1)), ?_⟩))
    replace hS := Dc.trans hS (Dc.did hP16_17.1 lo_b3_2 hP16_17.2.1)
    obtain ⟨hG16_17, hc16_17, rfl⟩ := hP16_17
    replace hz := At.grownAt hz hm3_2 hG16_17 (by decide)
    replace hX := Dx.new1 hX lz_b3_2 (Dx.grown hG16_17 (List.mem_cons_self ..) lo_b3_2)
    replace hB := below_grown hB hG16_17 (Nat.le_refl _) (fun j hj => by cases hj; exact lo_b3_2)
    replace hm0_0 := At.grownAt hm0_0 hm3_2 hG16_17 (by decide)
    replace hm3_3 := At.grownAt hm3_3 hm3_2 hG16_17 (by decide)
    replace hm4_6 := At.grownAt hm4_6 hm3_2 hG16_17 (by decide)
    replace hD := Dia.grownAt hD hm3_2 hG16_17 (by decide) (by decide)
    replace ho90 := OwT.grownAt ho90 hm3_2 hG16_17 (by decide)
    replace hm3_2 := hc16_17
    clear hG16_17
    refine WT_one (dd := some 89) 18 (by kernel_rfl) rfl rfl rfl rfl (Yd.callG (r_call3 tb_c23 (v0 := .pointer (some ⟨bz, 0, none⟩)) rfl (v1 := .int .i64 _) rfl (v2 := .int .i64 _) rfl) (C___zdd_Zdd__Join w0.heap.size ba bm bz R ns16_14 f (didV ei er16_14 id16_14) _ (Below.size hB) hz hD (by omega) (didV_v hvA)) (fun v16_18 W95 hP16_18 => ⟨.inl (Dc.trans hS (Dc.zdd hD (PO.dx hP16_18) (by decide) (by decide))), ?_⟩))
    replace hS := Dc.trans hS (Dc.zdd hD (PO.dx hP16_18) (by decide) (by decide))
    obtain ⟨ns16_18, id16_18, er16_18, rfl, hx16_18, hDn16_18, hg16_18⟩ := hP16_18
    replace hz := At.dx hD hx16_18 hz (by decide) (by decide)
    replace hX := Dx.trans hX (hx16_18)
    replace hB := Below.dx hB (Nat.le_refl _) (Nat.le_refl _) hx16_18
    replace hm0_0 := At.dx hD hx16_18 hm0_0 (by decide) (by decide)
    replace hm3_3 := At.dx hD hx16_18 hm3_3 (by decide) (by decide)
    replace hm4_6 := At.dx hD hx16_18 hm4_6 (by decide) (by decide)
    replace hm3_2 := At.dx hD hx16_18 hm3_2 (by decide) (by decide)
    replace ho90 := OwT.dx hD hx16_18 ho90 (by decide) (by decide)
    replace hD := hDn16_18
    have hvJ := hg16_18.valid
    have hlJ := pre_len hg16_18.pre
    refine WT_take (dd := some 90) 19 rfl (by kernel_rfl) (by kernel_rfl) (by kernel_rfl) rfl rfl rfl (fun _wq _hq => r_ext2_0 (h := rfl)) hS ?_
    refine WT_take (dd := some 91) 20 rfl (by kernel_rfl) (by kernel_rfl) (by kernel_rfl) rfl rfl rfl (fun _wq _hq => r_ext2_1 (h := rfl)) hS ?_
    refine WT_one (dd := some 92) 21 (by kernel_rfl) rfl rfl rfl rfl (Yd.callG (r_call3 tb_c114 (v0 := .pointer (some ⟨b3_2, 0, none⟩)) rfl (v1 := .int .i64 _) rfl (v2 := .int .i64 _) rfl) (C___tagged_chain__did w0.heap.size b3_2 bz _ _ _ _ (Below.size hB) hm3_2 lo_b3_2) (fun v16_21 W97 hP16_21 => ⟨.inl (Dc.trans hS (Dc.did hP16_21.1 lo_b3_2 hP16_21.2.1)), ?_⟩))
    replace hS := Dc.trans hS (Dc.did hP16_21.1 lo_b3_2 hP16_21.2.1)
    obtain ⟨hG16_21, hc16_21, rfl⟩ := hP16_21
    replace hz := At.grownAt hz hm3_2 hG16_21 (by decide)
    replace hX := Dx.new1 hX lz_b3_2 (Dx.grown hG16_21 (List.mem_cons_self ..) lo_b3_2)
    replace hB := below_grown hB hG16_21 (Nat.le_refl _) (fun j hj => by cases hj; exact lo_b3_2)
    replace hm0_0 := At.grownAt hm0_0 hm3_2 hG16_21 (by decide)
    replace hm3_3 := At.grownAt hm3_3 hm3_2 hG16_21 (by decide)
    replace hm4_6 := At.grownAt hm4_6 hm3_2 hG16_21 (by decide)
    replace hD := Dia.grownAt hD hm3_2 hG16_21 (by decide) (by decide)
    replace ho90 := OwT.grownAt ho90 hm3_2 hG16_21 (by decide)
    replace hm3_2 := hc16_21
    clear hG16_21
    refine WT_take (dd := some 14) 22 rfl (by kernel_rfl) (by kernel_rfl) (by kernel_rfl) rfl rfl rfl (fun _wq _hq => r_assign (v := .int .i64 _) rfl) hS ?_
    refine WT_done (by kernel_rfl) ?_
    try clear sv89_hz sv89_hB sv89_hm0_0 sv89_hm3_3 sv89_hm4_6
    refine hK83 _ _ ?_
    clear hK83 K82
    refine WC_draw (fun a b => Dc 150 128 w0.heap.size b3_2 bz ba bm a b) tb_mix (fun W99 hE100 => ?_)
    replace hz := hE100.at hz
    replace hX := Dx.trans hX (Dx.ext hE100)
    replace hB := below_ext hB hE100 (Nat.le_refl _)
    replace hm0_0 := hE100.at hm0_0
    replace hm3_3 := hE100.at hm3_3
    replace hm4_6 := hE100.at hm4_6
    replace hD := Dia.ext hE100 hD
    replace hm3_2 := hE100.at hm3_2
    replace ho90 := hE100.ow ho90
    have hwk0 : Wc 128 b3_2 bz W99 := ⟨_, hm3_2⟩
    have hS : Dc 150 128 w0.heap.size b3_2 bz ba bm W99 W99 := Dc.refl
    refine WT_take (dd := some 93) 0 rfl (by kernel_rfl) (by kernel_rfl) (by kernel_rfl) rfl rfl rfl (fun _wq hq => r_load1 (v := .pointer (some ⟨b3_2, 0, none⟩)) rfl tb_sc126 (At.cell (At.dc hD hm3_2 hq hm3_3 (by decide) (by decide) (by decide)) rfl)) hS ?_
    refine WT_take (dd := some 94) 1 rfl (by kernel_rfl) (by kernel_rfl) (by kernel_rfl) rfl rfl rfl (fun _wq hq => r_load1 (v := .pointer (some ⟨b3_2, 0, none⟩)) rfl tb_sc126 (At.cell (At.dc hD hm3_2 hq hm3_3 (by decide) (by decide) (by decide)) rfl)) hS ?_
    refine WT_take (dd := some 95) 2 rfl (by kernel_rfl) (by kernel_rfl) (by kernel_rfl) rfl rfl rfl (fun _wq _hq => r_nilCheck_ptr rfl) hS ?_
    refine WT_take (dd := some 96) 3 rfl (by kernel_rfl) (by kernel_rfl) (by kernel_rfl) rfl rfl rfl (fun _wq _hq => r_fieldAddr (b := _) (o := _) rfl tb_fo128_0) hS ?_
    refine WT_take (dd := some 97) 4 rfl (by kernel_rfl) (by kernel_rfl) (by kernel_rfl) rfl rfl rfl (fun _wq hq => r_load1 (v := .pointer (some ⟨bz, 0, none⟩)) rfl tb_sc24 (Wc.c0 (Dc.wk hq hwk0))) hS ?_
    refine WT_take (dd := some 98) 5 rfl (by kernel_rfl) (by kernel_rfl) (by kernel_rfl) rfl rfl rfl (fun _wq _hq => r_move (v := .int .i64 _) rfl) hS ?_
    refine WT_take (dd := some 99) 6 rfl (by kernel_rfl) (by kernel_rfl) (by kernel_rfl) rfl rfl rfl (fun _wq _hq => r_move (v := .int .i64 _) rfl) hS ?_
    refine WT_one (dd := some 100) 7 (by kernel_rfl) rfl rfl rfl rfl (Yd.callG (r_call3 tb_c33 (v0 := .pointer (some ⟨bz, 0, none⟩)) rfl (v1 := .int .i64 _) rfl (v2 := .int .i64 _) rfl) (C___zdd_Zdd__Union w0.heap.size ba bm bz R ns16_18 out (didV (didE ei er16_14) er16_18 id16_18) _ (Below.size hB) hz hD (by omega) (didV_v hvJ)) (fun v17_7 W101 hP17_7 => ⟨.inl (Dc.trans hS (Dc.zdd hD (PO.dx hP17_7) (by decide) (by decide))), ?_⟩))
    replace hS := Dc.trans hS (Dc.zdd hD (PO.dx hP17_7) (by decide) (by decide))
    obtain ⟨ns17_7, id17_7, er17_7, rfl, hx17_7, hDn17_7, hg17_7⟩ := hP17_7
    replace hz := At.dx hD hx17_7 hz (by decide) (by decide)
    replace hX := Dx.trans hX (hx17_7)
    replace hB := Below.dx hB (Nat.le_refl _) (Nat.le_refl _) hx17_7
    replace hm0_0 := At.dx hD hx17_7 hm0_0 (by decide) (by decide)
    replace hm3_3 := At.dx hD hx17_7 hm3_3 (by decide) (by decide)
    replace hm4_6 := At.dx hD hx17_7 hm4_6 (by decide) (by decide)
    replace hm3_2 := At.dx hD hx17_7 hm3_2 (by decide) (by decide)
    replace ho90 := OwT.dx hD hx17_7 ho90 (by decide) (by decide)
    replace hD := hDn17_7
    refine WT_take (dd := some 101) 8 rfl (by kernel_rfl) (by kernel_rfl) (by kernel_rfl) rfl rfl rfl (fun _wq _hq => r_ext2_0 (h := rfl)) hS ?_
    refine WT_take (dd := some 102) 9 rfl (by kernel_rfl) (by kernel_rfl) (by kernel_rfl) rfl rfl rfl (fun _wq _hq => r_ext2_1 (h := rfl)) hS ?_
    refine WT_one (dd := some 103) 10 (by kernel_rfl) rfl rfl rfl rfl (Yd.callG (r_call3 tb_c114 (v0 := .pointer (some ⟨b3_2, 0, none⟩)) rfl (v1 := .int .i64 _) rfl (v2 := .int .i64 _) rfl) (C___tagged_chain__did w0.heap.size b3_2 bz _ _ _ _ (Below.size hB) hm3_2 lo_b3_2) (fun v17_10 W103 hP17_10 => ⟨.inl (Dc.trans hS (Dc.did hP17_10.1 lo_b3_2 hP17_10.2.1)), ?_⟩))
    replace hS := Dc.trans hS (Dc.did hP17_10.1 lo_b3_2 hP17_10.2.1)
    obtain ⟨hG17_10, hc17_10, rfl⟩ := hP17_10
    have sv105_hz := hz
    have sv105_hB := hB
    have sv105_hm0_0 := hm0_0
    have sv105_hm3_3 := hm3_3
    have sv105_hm4_6 := hm4_6
    have sv105_hm3_2 := hm3_2
    have sv105_ho90 := ho90
    replace hz := At.grownAt hz hm3_2 hG17_10 (by decide)
    replace hX := Dx.new1 hX lz_b3_2 (Dx.grown hG17_10 (List.mem_cons_self ..) lo_b3_2)
    replace hB := below_grown hB hG17_10 (Nat.le_refl _) (fun j hj => by cases hj; exact lo_b3_2)
    replace hm0_0 := At.grownAt hm0_0 hm3_2 hG17_10 (by decide)
    replace hm3_3 := At.grownAt hm3_3 hm3_2 hG17_10 (by decide)
    replace hm4_6 := At.grownAt hm4_6 hm3_2 hG17_10 (by decide)
    replace hD := Dia.grownAt hD hm3_2 hG17_10 (by decide) (by decide)
    replace ho90 := OwT.grownAt ho90 hm3_2 hG17_10 (by decide)
    replace hm3_2 := hc17_10
    clear hG17_10
    refine WT_take (dd := some 9) 11 rfl (by kernel_rfl) (by kernel_rfl) (by kernel_rfl) rfl rfl rfl (fun _wq _hq => r_assign (v := .int .i64 _) rfl) hS ?_
    refine WT_done (by kernel_rfl) ?_
    try clear sv105_hz sv105_hB sv105_hm0_0 sv105_hm3_3 sv105_hm4_6 sv105_ho90
    refine hK52 _ _ ?_
    clear hK52 K51
    refine WC_region ?_
    refine WL_val (dd := some 38) rfl rfl rfl (r_move (v := .int .i64 _) rfl) ?_
    refine WL_val (dd := some 39) rfl rfl rfl (r_addI rfl rfl (by omega) (by omega)) ?_
    refine WL_val (dd := some 11) rfl rfl rfl (r_assign (v := .int .i64 _) rfl) ?_
    refine WL_nil ?_
    refine hJ46 _ _ ((o + 1, didV (didE (didE ei er16_14) er16_18) er17_7 id17_7, ns17_7, didE (didE (didE ei er16_14) er16_18) er17_7)) ?_ ?_ ?_ ?_
    · repeat (first | exact agree.mask _ _ _ | refine agree.updo ?_ rfl _ | refine agree.updL ?_ _ rfl | refine agree.maskS rfl ?_)
    · exact ⟨rfl, rfl, trivial⟩
    · exact ⟨hz, hX, hB, hm0_0, hm3_3, hm4_6, hD, (by exact hm3_2), (by omega), (al_step hr halw hoo.1 hol hfw hgA hg16_18 hg17_7), trivial⟩
    · show 2 ^ S.may.length - (o + 1) < 2 ^ S.may.length - o; omega
  ·
   try with_reducible replace hc1 := of_decide_eq_false hc1
   refine WC_exit ?_
   refine hK40 _ _ ?_
   clear hK48 K47
   clear hJ46 J45
   clear hK40 K39
   refine WC_seq (fun K106 hK107 => ?_)
   refine WC_seq (fun K108 hK109 => ?_)
   obtain rfl : o = 2 ^ S.may.length := by simp only [Nat.one_mul, Int.toNat_natCast] at hc1; omega
   refine WC_region ?_
   refine WL_val (dd := some 104) rfl rfl rfl (r_load1 (v := .pointer (some ⟨b3_2, 0, none⟩)) rfl tb_sc126 (At.cell hm3_3 rfl)) ?_
   refine WL_val (dd := some 105) rfl rfl rfl (r_nilCheck_ptr rfl) ?_
   refine WL_val (dd := some 106) rfl rfl rfl (r_fieldAddr (b := _) (o := _) rfl tb_fo128_1) ?_
   refine WL_val (dd := some 107) rfl rfl rfl (r_load1 (v := .int .i64 _) rfl tb_sc29 (At.cell hm3_2 rfl)) ?_
   refine WL_val (dd := some 108) rfl rfl rfl (r_neq rfl rfl) ?_
   refine WL_nil ?_
   refine hK109 _ _ ?_
   clear hK109 K108
   refine WC_cond (b := _) rfl (fun hc4 => ?_) (fun hc4 => ?_)
   ·
    try with_reducible replace hc4 := of_decide_eq_true hc4
    refine WC_seq (fun K110 hK111 => ?_)
    refine WC_draw Ext tb_mix (fun W112 hE113 => ?_)
    replace hz := hE113.at hz
    replace hX := Dx.trans hX (Dx.ext hE113)
    replace hB := below_ext hB hE113 (Nat.le_refl _)
    replace hm0_0 := hE113.at hm0_0
    replace hm3_3 := hE113.at hm3_3
    replace hm4_6 := hE113.at hm4_6
    replace hD := Dia.ext hE113 hD
    replace hm3_2 := hE113.at hm3_2
    have hS := Ext.refl W112
    refine WT_take (dd := some 109) 0 rfl (by kernel_rfl) (by kernel_rfl) (by kernel_rfl) rfl rfl rfl (fun _wq hq => r_load1 (v := .pointer (some ⟨b3_2, 0, none⟩)) rfl tb_sc126 (At.cell (hq.at hm3_3) rfl)) hS ?_
    refine WT_take (dd := some 110) 1 rfl (by kernel_rfl) (by kernel_rfl) (by kernel_rfl) rfl rfl rfl (fun _wq _hq => r_nilCheck_ptr rfl) hS ?_
    refine WT_take (dd := some 111) 2 rfl (by kernel_rfl) (by kernel_rfl) (by kernel_rfl) rfl rfl rfl (fun _wq _hq => r_fieldAddr (b := _) (o := _) rfl tb_fo128_1) hS ?_
    refine WT_take (dd := some 112) 3 rfl (by kernel_rfl) (by kernel_rfl) (by kernel_rfl) rfl rfl rfl (fun _wq hq => r_load1 (v := .int .i64 _) rfl tb_sc29 (At.cell (hq.at hm3_2) rfl)) hS ?_
    refine WT_take (dd := some 4) 4 rfl (by kernel_rfl) (by kernel_rfl) (by kernel_rfl) rfl rfl rfl (fun _wq _hq => r_assign (v := .int .i64 0) rfl) hS ?_
    refine WT_take (dd := some 5) 5 rfl (by kernel_rfl) (by kernel_rfl) (by kernel_rfl) rfl rfl rfl (fun _wq _hq => r_assign (v := .int .i64 _) rfl) hS ?_
    refine WT_done (by kernel_rfl) ?_
    refine hK111 _ _ ?_
    clear hK111 K110
    refine WC_ret ?_
    repeat (first | refine thenQ_ret ?_ | refine blockQ_ret ?_)
    try clear hK107 K106
    refine ret_tt (v := .int .i64 0) rfl (v1 := .int .i64 _) rfl ?_
    exact ⟨_, _, _, rfl, hX, hD, al_fail halw hc4⟩
   ·
    try with_reducible replace hc4 := of_decide_eq_false hc4
    refine WC_skip ?_
    refine hK107 _ _ ?_
    clear hK107 K106
    refine WC_seq (fun K114 hK115 => ?_)
    refine WC_region ?_
    refine WL_val (dd := some 113) rfl rfl rfl (r_move (v := .int .i64 _) rfl) ?_
    refine WL_val (dd := some 4) rfl rfl rfl (r_assign (v := .int .i64 _) rfl) ?_
    refine WL_val (dd := some 5) rfl rfl rfl (r_assign (v := .int .i64 0) rfl) ?_
    refine WL_nil ?_
    refine hK115 _ _ ?_
    clear hK115 K114
    refine WC_ret ?_
    repeat (first | refine thenQ_ret ?_ | refine blockQ_ret ?_)
    refine ret_tt (v := .int .i64 _) rfl (v1 := .int .i64 0) rfl ?_
    exact ⟨_, _, _, rfl, hX, hD, al_ok halw (Decidable.of_not_not hc4)⟩

theorem C_All_nil (S : Sp) (onV mayV : Value) (w : World) :
    Fn Try.prog 66 #[.pointer none, .agg #[.int .i64 S.n, onV, mayV]] w fun v w' => v = .tuple #[.int .i64 0, .int .i64 1] := by
 refine Fn_intro (n := 114) Try.func66 rfl rfl (Nat.le_of_ble_eq_true rfl) ?_
 have hB : Below w.heap.size w w := Below.refl _ _
 refine WC_seq (fun K1 hK2 => ?_)
 refine WC_region ?_
 refine WL_step (dd := some 3) rfl rfl rfl (Y_box (c := #[_, _, _]) rfl rfl (fun b0_0 W3 hb4 hE5 hm0_0 => ?_))
 have lo_b0_0 : w.heap.size ≤ b0_0 := hb4 ▸ (Below.size hB)
 clear hb4
 replace hB := below_ext hB hE5 (Nat.le_refl _)
 clear hE5
 refine WL_val (dd := some 4) rfl rfl rfl (r_assign (v := .int .i64 0) rfl) ?_
 refine WL_val (dd := some 5) rfl rfl rfl (r_assign (v := .int .i64 0) rfl) ?_
 refine WL_nil ?_
 refine hK2 _ _ ?_
 clear hK2 K1
 refine WC_seq (fun K6 hK7 => ?_)
 refine WC_seq (fun K8 hK9 => ?_)
 refine WC_region ?_
 refine WL_val (dd := some 15) rfl rfl rfl (r_move (v := .pointer none) rfl) ?_
 refine WL_val (dd := some 16) rfl rfl rfl (r_ptrNone rfl rfl Try.underlying24) ?_
 refine WL_val (dd := some 17) rfl rfl rfl (r_move (v := .bool true) rfl) ?_
 refine WL_skip (dd := some 18) rfl rfl rfl ?_
 refine WL_skip (dd := some 19) rfl rfl rfl ?_
 refine WL_skip (dd := some 20) rfl rfl rfl ?_
 refine WL_val (dd := some 21) rfl rfl rfl (r_pick_t rfl (v := .bool true) rfl) ?_
 refine WL_nil ?_
 refine hK9 _ _ ?_
 clear hK9 K8
 refine WC_cond_true rfl ?_
 refine WC_seq (fun K10 hK11 => ?_)
 refine WC_region ?_
 refine WL_val (dd := some 4) rfl rfl rfl (r_assign (v := .int .i64 0) rfl) ?_
 refine WL_val (dd := some 5) rfl rfl rfl (r_assign (v := .int .i64 1) rfl) ?_
 refine WL_nil ?_
 refine hK11 _ _ ?_
 clear hK11 K10
 refine WC_ret ?_
 repeat (first | refine thenQ_ret ?_ | refine blockQ_ret ?_)
 try clear hK7 K6
 refine ret_tt (v := .int .i64 0) rfl (v1 := .int .i64 1) rfl ?_
 refine ⟨hB, ?_⟩
 rfl

end Go.Proofs.Ytpamgfbecgjjeaa
