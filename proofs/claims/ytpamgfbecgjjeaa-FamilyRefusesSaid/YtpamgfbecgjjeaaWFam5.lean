/-
  The walks of what may not be: no diagram, and ids that are nobody's.
-/
import Derived.Test.YtpamgfbecgjjeaaProg
import Derived.Test.YtpamgfbecgjjeaaWFam4
import Derived.Test.YtpamgfbecgjjeaaZ18
namespace Go.Proofs.Ytpamgfbecgjjeaa
set_option linter.unusedVariables false
set_option linter.unusedSimpArgs false
open Go Go.RowKit



theorem C_zthere_nil (xi : Value) (w : World) :
    Fn Try.prog 73 #[.pointer none, xi] w fun v w' => v = .bool false := by
 refine Fn_intro (n := 20) Try.func73 rfl rfl (Nat.le_of_ble_eq_true rfl) ?_
 have hB : Below w.heap.size w w := Below.refl _ _
 refine WC_seq (fun K1 hK2 => ?_)
 refine WC_region ?_
 refine WL_val (dd := some 4) rfl rfl rfl (r_assign (v := .bool false) rfl) ?_
 refine WL_nil ?_
 refine hK2 _ _ ?_
 clear hK2 K1
 refine WC_seq (fun K3 hK4 => ?_)
 refine WC_seq (fun K5 hK6 => ?_)
 refine WC_region ?_
 refine WL_val (dd := some 7) rfl rfl rfl (r_move (v := .pointer none) rfl) ?_
 refine WL_val (dd := some 8) rfl rfl rfl (r_ptrNone rfl rfl Try.underlying24) ?_
 refine WL_nil ?_
 refine hK6 _ _ ?_
 clear hK6 K5
 refine WC_cond_true rfl ?_
 refine WC_seq (fun K7 hK8 => ?_)
 refine WC_region ?_
 refine WL_val (dd := some 4) rfl rfl rfl (r_assign (v := .bool false) rfl) ?_
 refine WL_nil ?_
 refine hK8 _ _ ?_
 clear hK8 K7
 refine WC_ret ?_
 repeat (first | refine thenQ_ret ?_ | refine blockQ_ret ?_)
 try clear hK4 K3
 refine ret_t (v := .bool false) rfl ?_
 refine ⟨hB, ?_⟩
 rfl

theorem C_both_nil (f g : Int) (ge gh : Nat) (w : World) :
    Fn Try.prog 69 #[.pointer none, .int .i64 f, .int .i64 g, .func (.func ge) #[] #[], .func (.func gh) #[] #[]] w fun v w' => v = .tuple #[.int .i64 0, .int .i64 1] := by
 refine Fn_intro (n := 27) Try.func69 rfl rfl (Nat.le_of_ble_eq_true rfl) ?_
 have hB : Below w.heap.size w w := Below.refl _ _
 refine WC_seq (fun K1 hK2 => ?_)
 refine WC_region ?_
 refine WL_val (dd := some 10) rfl rfl rfl (r_assign (v := .int .i64 0) rfl) ?_
 refine WL_val (dd := some 11) rfl rfl rfl (r_assign (v := .int .i64 0) rfl) ?_
 refine WL_nil ?_
 refine hK2 _ _ ?_
 clear hK2 K1
 refine WC_seq (fun K3 hK4 => ?_)
 refine WC_seq (fun K5 hK6 => ?_)
 refine WC_region ?_
 refine WL_val (dd := some 12) rfl rfl rfl (r_move (v := .pointer none) rfl) ?_
 refine WL_val (dd := some 13) rfl rfl rfl (r_move (v := .int .i64 _) rfl) ?_
 refine WL_val (dd := some 14) rfl rfl rfl (r_move (v := .int .i64 _) rfl) ?_
 refine WL_step (dd := some 15) rfl rfl rfl (Y_lit2 (u0 := .int .i64 _) (u1 := .int .i64 _) rfl rfl tb_el22 tb_zs3 rfl rfl (by decide) (by decide) (fun b1_3 W7 hb8 hE9 hm1_3 => ?_))
 have lo_b1_3 : w.heap.size ≤ b1_3 := hb8 ▸ (Below.size hB)
 clear hb8
 replace hB := below_ext hB hE9 (Nat.le_refl _)
 clear hE9
 have ho1_3 := own_lit2 (enc := encI) (sz := 1) (a0 := _) (a1 := _) hm1_3 rfl rfl rfl rfl lo_b1_3
 clear hm1_3
 refine WL_call (dd := some 16) rfl rfl rfl (r_call2 tb_c73 (v0 := .pointer none) rfl (v1 := .slice (some ⟨b1_3, 0, none⟩) 2 2) rfl) (C_zthere_nil _ _) (fun v1_4 W10 hE11 hP1_4 => ?_)
 have hsz12 := (Below.size hB)
 replace hB := below_ext hB hE11 (Nat.le_refl _)
 replace ho1_3 := hE11.ow ho1_3
 clear hE11
 obtain rfl := hP1_4
 clear hsz12
 refine WL_val (dd := some 17) rfl rfl rfl (r_not rfl) ?_
 refine WL_nil ?_
 refine hK6 _ _ ?_
 clear hK6 K5
 refine WC_cond_true rfl ?_
 refine WC_seq (fun K13 hK14 => ?_)
 refine WC_region ?_
 refine WL_val (dd := some 10) rfl rfl rfl (r_assign (v := .int .i64 0) rfl) ?_
 refine WL_val (dd := some 11) rfl rfl rfl (r_assign (v := .int .i64 1) rfl) ?_
 refine WL_nil ?_
 refine hK14 _ _ ?_
 clear hK14 K13
 refine WC_ret ?_
 repeat (first | refine thenQ_ret ?_ | refine blockQ_ret ?_)
 try clear hK4 K3
 refine ret_tt (v := .int .i64 0) rfl (v1 := .int .i64 1) rfl ?_
 refine ⟨hB, ?_⟩
 rfl

theorem C_Union_nil (f g : Int) (w : World) :
    Fn Try.prog 33 #[.pointer none, .int .i64 f, .int .i64 g] w fun v w' => v = .tuple #[.int .i64 0, .int .i64 1] := by
 refine Fn_intro (n := 14) Try.func33 rfl rfl (Nat.le_of_ble_eq_true rfl) ?_
 have hB : Below w.heap.size w w := Below.refl _ _
 refine WC_seq (fun K1 hK2 => ?_)
 refine WC_region ?_
 refine WL_val (dd := some 6) rfl rfl rfl (r_assign (v := .int .i64 0) rfl) ?_
 refine WL_val (dd := some 7) rfl rfl rfl (r_assign (v := .int .i64 0) rfl) ?_
 refine WL_nil ?_
 refine hK2 _ _ ?_
 clear hK2 K1
 refine WC_seq (fun K3 hK4 => ?_)
 refine WC_region ?_
 refine WL_val (dd := some 8) rfl rfl rfl (r_move (v := .pointer none) rfl) ?_
 refine WL_val (dd := some 9) rfl rfl rfl (r_move (v := .int .i64 _) rfl) ?_
 refine WL_val (dd := some 10) rfl rfl rfl (r_move (v := .int .i64 _) rfl) ?_
 refine WL_call (dd := some 11) rfl rfl rfl (r_call5 tb_c69 (v0 := .pointer none) rfl (v1 := .int .i64 _) rfl (v2 := .int .i64 _) rfl (v3 := .func (.func 77) #[] #[]) rfl (v4 := .func (.func 78) #[] #[]) rfl) (C_both_nil f g _ _ _) (fun v1_3 W5 hE6 hP1_3 => ?_)
 have hsz7 := (Below.size hB)
 replace hB := below_ext hB hE6 (Nat.le_refl _)
 clear hE6
 obtain rfl := hP1_3
 clear hsz7
 refine WL_val (dd := some 12) rfl rfl rfl (r_ext2_0 (h := rfl)) ?_
 refine WL_val (dd := some 13) rfl rfl rfl (r_ext2_1 (h := rfl)) ?_
 refine WL_val (dd := some 6) rfl rfl rfl (r_assign (v := .int .i64 _) rfl) ?_
 refine WL_val (dd := some 7) rfl rfl rfl (r_assign (v := .int .i64 _) rfl) ?_
 refine WL_nil ?_
 refine hK4 _ _ ?_
 clear hK4 K3
 refine WC_ret ?_
 repeat (first | refine thenQ_ret ?_ | refine blockQ_ret ?_)
 refine ret_tt (v := .int .i64 _) rfl (v1 := .int .i64 _) rfl ?_
 refine ⟨hB, ?_⟩
 rfl

theorem C_there_nil (xi : Value) (li : List Int) (w : World) (hli : SlT encI 1 w xi li) (h0 : 0 < li.length) (hlb : li.length ≤ 1000) :
    Fn Try.prog 89 #[.pointer none, xi] w fun v w' => v = .bool false := by
 refine Fn_intro (n := 26) Try.func89 rfl rfl (Nat.le_of_ble_eq_true rfl) ?_
 have hB : Below w.heap.size w w := Below.refl _ _
 refine WC_seq (fun K1 hK2 => ?_)
 refine WC_region ?_
 refine WL_val (dd := some 4) rfl rfl rfl (r_assign (v := .bool false) rfl) ?_
 refine WL_nil ?_
 refine hK2 _ _ ?_
 clear hK2 K1
 refine WC_seq (fun K3 hK4 => ?_)
 refine WC_seq (fun K5 hK6 => ?_)
 refine WC_region ?_
 refine WL_val (dd := some 9) rfl rfl rfl (r_move (v := xi) rfl) ?_
 refine WL_val (dd := some 10) rfl rfl rfl (r_lenS (v := xi) rfl (Below.slT hB hli) tb_el22) ?_
 refine WL_val (dd := some 11) rfl rfl rfl (r_move (v := .int .i64 0) rfl) ?_
 refine WL_nil ?_
 refine hK6 _ _ ?_
 clear hK6 K5
 refine WC_block ?_
 refine WC_loop (σ := (Nat)) [4, 6, 7, 8, 11, 12, 13, 14, 15, 16, 17, 18, 19, 20, 21, 22, 23] (fun k => [(11, .int .i64 (k : Int))]) (fun k W => (Below w.heap.size w W) ∧ (k = 0) ∧ (True)) (fun k => li.length - k) (0) ⟨rfl, trivial⟩ ⟨hB, rfl, trivial⟩ ?_
 clear hB
 rintro k g8 W7 ⟨hB, hk, _⟩ J9 hJ10
 refine WC_seq (fun K11 hK12 => ?_)
 refine WC_region ?_
 refine WL_val (dd := some 12) rfl rfl rfl (r_lss rfl rfl) ?_
 refine WL_nil ?_
 refine hK12 _ _ ?_
 clear hK12 K11
 refine WC_seq (fun K13 hK14 => ?_)
 refine WC_cond (b := _) rfl (fun hc0 => ?_) (fun hc0 => ?_)
 ·
  try with_reducible replace hc0 := of_decide_eq_true hc0
  refine WC_skip ?_
  refine hK14 _ _ ?_
  clear hK14 K13
  refine WC_seq (fun K15 hK16 => ?_)
  refine WC_block ?_
  refine WC_seq (fun K17 hK18 => ?_)
  refine WC_region ?_
  refine WL_val (dd := some 13) rfl rfl rfl (r_idxS (v := xi) rfl (Below.slT hB hli) rfl tb_el22 (by omega) (by omega)) ?_
  refine WL_val (dd := some 14) rfl rfl rfl (r_load1 (v := .int .i64 _) rfl tb_sc3 (SlT.cell (Below.slT hB hli) encI_len 0 (by omega) (by omega) 0 rfl)) ?_
  refine WL_val (dd := some 6) rfl rfl rfl (r_assign (v := .int .i64 _) rfl) ?_
  refine WL_nil ?_
  refine hK18 _ _ ?_
  clear hK18 K17
  refine WC_seq (fun K19 hK20 => ?_)
  refine WC_region ?_
  refine WL_val (dd := some 16) rfl rfl rfl (r_move (v := .pointer none) rfl) ?_
  refine WL_val (dd := some 17) rfl rfl rfl (r_move (v := .int .i64 _) rfl) ?_
  refine WL_call (dd := some 18) rfl rfl rfl (r_call3 tb_c33 (v0 := .pointer none) rfl (v1 := .int .i64 _) rfl (v2 := .int .i64 0) rfl) (C_Union_nil _ _ _) (fun v4_2 W21 hE22 hP4_2 => ?_)
  have hsz23 := (Below.size hB)
  replace hB := below_ext hB hE22 (Nat.le_refl _)
  clear hE22
  obtain rfl := hP4_2
  clear hsz23
  refine WL_val (dd := some 15) rfl rfl rfl (r_move (v := .tuple #[.int .i64 _, .int .i64 _]) rfl) ?_
  refine WL_val (dd := some 19) rfl rfl rfl (r_ext2_0 (h := rfl)) ?_
  refine WL_val (dd := some 20) rfl rfl rfl (r_ext2_1 (h := rfl)) ?_
  refine WL_val (dd := some 7) rfl rfl rfl (r_assign (v := .int .i64 _) rfl) ?_
  refine WL_val (dd := some 8) rfl rfl rfl (r_assign (v := .int .i64 _) rfl) ?_
  refine WL_nil ?_
  refine hK20 _ _ ?_
  clear hK20 K19
  refine WC_seq (fun K24 hK25 => ?_)
  refine WC_region ?_
  refine WL_val (dd := some 21) rfl rfl rfl (r_move (v := .int .i64 _) rfl) ?_
  refine WL_val (dd := some 22) rfl rfl rfl (r_neq rfl rfl) ?_
  refine WL_nil ?_
  refine hK25 _ _ ?_
  clear hK25 K24
  refine WC_cond (b := _) rfl (fun hc1 => ?_) (fun hc1 => ?_)
  ·
   try with_reducible replace hc1 := of_decide_eq_true hc1
   refine WC_seq (fun K26 hK27 => ?_)
   refine WC_region ?_
   refine WL_val (dd := some 4) rfl rfl rfl (r_assign (v := .bool false) rfl) ?_
   refine WL_nil ?_
   refine hK27 _ _ ?_
   clear hK27 K26
   refine WC_ret ?_
   repeat (first | refine thenQ_ret ?_ | refine blockQ_ret ?_)
   try clear hK16 K15
   try clear hJ10 J9
   try clear hK4 K3
   refine ret_t (v := .bool false) rfl ?_
   refine ⟨hB, ?_⟩
   rfl
  ·
   try with_reducible replace hc1 := of_decide_eq_false hc1
   exact absurd (by decide) hc1
 ·
  try with_reducible replace hc0 := of_decide_eq_false hc0
  omega

theorem C_Above_nil (f g : Int) (w : World) :
    Fn Try.prog 55 #[.pointer none, .int .i64 f, .int .i64 g] w fun v w' => v = .tuple #[.int .i64 0, .int .i64 1] := by
 refine Fn_intro (n := 25) Try.func55 rfl rfl (Nat.le_of_ble_eq_true rfl) ?_
 have hB : Below w.heap.size w w := Below.refl _ _
 refine WC_seq (fun K1 hK2 => ?_)
 refine WC_region ?_
 refine WL_val (dd := some 6) rfl rfl rfl (r_assign (v := .int .i64 0) rfl) ?_
 refine WL_val (dd := some 7) rfl rfl rfl (r_assign (v := .int .i64 0) rfl) ?_
 refine WL_nil ?_
 refine hK2 _ _ ?_
 clear hK2 K1
 refine WC_seq (fun K3 hK4 => ?_)
 refine WC_seq (fun K5 hK6 => ?_)
 refine WC_region ?_
 refine WL_val (dd := some 9) rfl rfl rfl (r_move (v := .pointer none) rfl) ?_
 refine WL_val (dd := some 10) rfl rfl rfl (r_move (v := .int .i64 _) rfl) ?_
 refine WL_val (dd := some 11) rfl rfl rfl (r_move (v := .int .i64 _) rfl) ?_
 refine WL_step (dd := some 12) rfl rfl rfl (Y_lit2 (u0 := .int .i64 _) (u1 := .int .i64 _) rfl rfl tb_el22 tb_zs3 rfl rfl (by decide) (by decide) (fun b1_3 W7 hb8 hE9 hm1_3 => ?_))
 have lo_b1_3 : w.heap.size ≤ b1_3 := hb8 ▸ (Below.size hB)
 clear hb8
 replace hB := below_ext hB hE9 (Nat.le_refl _)
 clear hE9
 have ho1_3 := own_lit2 (enc := encI) (sz := 1) (a0 := _) (a1 := _) hm1_3 rfl rfl rfl rfl lo_b1_3
 clear hm1_3
 refine WL_call (dd := some 13) rfl rfl rfl (r_call2 tb_c89 (v0 := .pointer none) rfl (v1 := .slice (some ⟨b1_3, 0, none⟩) 2 2) rfl) (C_there_nil _ [f, g] _ ho1_3.sl (by simp) (by simp)) (fun v1_4 W10 hE11 hP1_4 => ?_)
 have hsz12 := (Below.size hB)
 replace hB := below_ext hB hE11 (Nat.le_refl _)
 replace ho1_3 := hE11.ow ho1_3
 clear hE11
 obtain rfl := hP1_4
 clear hsz12
 refine WL_val (dd := some 14) rfl rfl rfl (r_not rfl) ?_
 refine WL_nil ?_
 refine hK6 _ _ ?_
 clear hK6 K5
 refine WC_cond_true rfl ?_
 refine WC_seq (fun K13 hK14 => ?_)
 refine WC_region ?_
 refine WL_val (dd := some 6) rfl rfl rfl (r_assign (v := .int .i64 0) rfl) ?_
 refine WL_val (dd := some 7) rfl rfl rfl (r_assign (v := .int .i64 1) rfl) ?_
 refine WL_nil ?_
 refine hK14 _ _ ?_
 clear hK14 K13
 refine WC_ret ?_
 repeat (first | refine thenQ_ret ?_ | refine blockQ_ret ?_)
 try clear hK4 K3
 refine ret_tt (v := .int .i64 0) rfl (v1 := .int .i64 1) rfl ?_
 refine ⟨hB, ?_⟩
 rfl

theorem C_Most_arg (N ba bm bz R : Nat) (ns : List Nd) (f : Int) (w : World) (hz : At w bz #[.pointer (some ⟨ba, 0, none⟩)] 100) (hD : Dia 147 150 N ba bm R w ns) (hf : f ≤ 9223372036854775807) (hn : thereZ ns f = false) :
    Fn Try.prog 57 #[.pointer (some ⟨bz, 0, none⟩), .int .i64 f] w fun v w' => v = .tuple #[.int .i64 0, .int .i64 1] := by
 refine Fn_intro (n := 21) Try.func57 rfl rfl (Nat.le_of_ble_eq_true rfl) ?_
 have hB : Below w.heap.size w w := Below.refl _ _
 refine WC_seq (fun K1 hK2 => ?_)
 refine WC_region ?_
 refine WL_val (dd := some 4) rfl rfl rfl (r_assign (v := .int .i64 0) rfl) ?_
 refine WL_val (dd := some 5) rfl rfl rfl (r_assign (v := .int .i64 0) rfl) ?_
 refine WL_nil ?_
 refine hK2 _ _ ?_
 clear hK2 K1
 refine WC_seq (fun K3 hK4 => ?_)
 refine WC_seq (fun K5 hK6 => ?_)
 refine WC_region ?_
 refine WL_val (dd := some 7) rfl rfl rfl (r_move (v := .pointer (some ⟨bz, 0, none⟩)) rfl) ?_
 refine WL_val (dd := some 8) rfl rfl rfl (r_move (v := .int .i64 _) rfl) ?_
 refine WL_step (dd := some 9) rfl rfl rfl (Y_lit1 (u := .int .i64 _) rfl tb_el22 tb_zs3 rfl (by decide) (by decide) (fun b1_2 W7 hb8 hE9 hm1_2 => ?_))
 have lo_b1_2 : w.heap.size ≤ b1_2 := hb8 ▸ (Below.size hB)
 clear hb8
 replace hB := below_ext hB hE9 (Nat.le_refl _)
 clear hE9
 have ho10 := own_lit1 (enc := encI) (a := _) hm1_2 rfl rfl lo_b1_2
 clear hm1_2
 refine WL_call (dd := some 10) rfl rfl rfl (r_call2 tb_c89 (v0 := .pointer (some ⟨bz, 0, none⟩)) rfl (v1 := .slice (some ⟨b1_2, 0, none⟩) 1 1) rfl) (C_family_there N ba bm bz R ns _ [f] _ (Below.atI hB hz) (Dia.below hB hD) ho10.sl (by simp) (by simp; omega)) (fun v1_3 W11 hE12 hP1_3 => ?_)
 have hsz13 := (Below.size hB)
 replace hB := below_ext hB hE12 (Nat.le_refl _)
 replace ho10 := hE12.ow ho10
 clear hE12
 clear hsz13
 obtain rfl := hP1_3
 refine WL_val (dd := some 11) rfl rfl rfl (r_not rfl) ?_
 refine WL_nil ?_
 refine hK6 _ _ ?_
 clear hK6 K5
 refine WC_cond (b := _) rfl (fun hc0 => ?_) (fun hc0 => ?_)
 ·
  try with_reducible replace hc0 := of_decide_eq_true hc0
  refine WC_seq (fun K14 hK15 => ?_)
  refine WC_region ?_
  refine WL_val (dd := some 4) rfl rfl rfl (r_assign (v := .int .i64 0) rfl) ?_
  refine WL_val (dd := some 5) rfl rfl rfl (r_assign (v := .int .i64 1) rfl) ?_
  refine WL_nil ?_
  refine hK15 _ _ ?_
  clear hK15 K14
  refine WC_ret ?_
  repeat (first | refine thenQ_ret ?_ | refine blockQ_ret ?_)
  try clear hK4 K3
  refine ret_tt (v := .int .i64 0) rfl (v1 := .int .i64 1) rfl ?_
  refine ⟨hB, ?_⟩
  rfl
 ·
  try with_reducible replace hc0 := of_decide_eq_false hc0
  exact absurd (not_f' hc0) (by simp [hn])

theorem C_Divide_arg (N ba bm bz R : Nat) (ns : List Nd) (f g : Int) (w : World) (hz : At w bz #[.pointer (some ⟨ba, 0, none⟩)] 100) (hD : Dia 147 150 N ba bm R w ns) (hf : f ≤ 9223372036854775807) (hg : g ≤ 9223372036854775807) (hn : [f, g].all (thereZ ns) = false ∨ g = 0) :
    Fn Try.prog 45 #[.pointer (some ⟨bz, 0, none⟩), .int .i64 f, .int .i64 g] w fun v w' => v = .tuple #[.int .i64 0, .int .i64 0, .int .i64 1] := by
 refine Fn_intro (n := 145) Try.func45 rfl rfl (Nat.le_of_ble_eq_true rfl) ?_
 have hB : Below w.heap.size w w := Below.refl _ _
 refine WC_seq (fun K1 hK2 => ?_)
 refine WC_region ?_
 refine WL_val (dd := some 6) rfl rfl rfl (r_assign (v := .int .i64 0) rfl) ?_
 refine WL_val (dd := some 7) rfl rfl rfl (r_assign (v := .int .i64 0) rfl) ?_
 refine WL_val (dd := some 8) rfl rfl rfl (r_assign (v := .int .i64 0) rfl) ?_
 refine WL_nil ?_
 refine hK2 _ _ ?_
 clear hK2 K1
 refine WC_seq (fun K3 hK4 => ?_)
 refine WC_seq (fun K5 hK6 => ?_)
 refine WC_region ?_
 refine WL_val (dd := some 18) rfl rfl rfl (r_move (v := .pointer (some ⟨bz, 0, none⟩)) rfl) ?_
 refine WL_val (dd := some 19) rfl rfl rfl (r_move (v := .int .i64 _) rfl) ?_
 refine WL_val (dd := some 20) rfl rfl rfl (r_move (v := .int .i64 _) rfl) ?_
 refine WL_step (dd := some 21) rfl rfl rfl (Y_lit2 (u0 := .int .i64 _) (u1 := .int .i64 _) rfl rfl tb_el22 tb_zs3 rfl rfl (by decide) (by decide) (fun b1_3 W7 hb8 hE9 hm1_3 => ?_))
 have lo_b1_3 : w.heap.size ≤ b1_3 := hb8 ▸ (Below.size hB)
 clear hb8
 replace hB := below_ext hB hE9 (Nat.le_refl _)
 clear hE9
 have ho1_3 := own_lit2 (enc := encI) (sz := 1) (a0 := _) (a1 := _) hm1_3 rfl rfl rfl rfl lo_b1_3
 clear hm1_3
 refine WL_call (dd := some 22) rfl rfl rfl (r_call2 tb_c89 (v0 := .pointer (some ⟨bz, 0, none⟩)) rfl (v1 := .slice (some ⟨b1_3, 0, none⟩) 2 2) rfl) (C_family_there N ba bm bz R ns _ [f, g] _ (Below.atI hB hz) (Dia.below hB hD) ho1_3.sl (by simp) (by simp; omega)) (fun v1_4 W10 hE11 hP1_4 => ?_)
 have hsz12 := (Below.size hB)
 replace hB := below_ext hB hE11 (Nat.le_refl _)
 replace ho1_3 := hE11.ow ho1_3
 clear hE11
 clear hsz12
 obtain rfl := hP1_4
 refine WL_val (dd := some 23) rfl rfl rfl (r_not rfl) ?_
 refine WL_split (dd := some 24) rfl rfl rfl (r_move (v := .bool _) rfl) (fun hs1_6 => ?_) (fun hs1_6 => ?_)
 ·
  try with_reducible replace hs1_6 := of_decide_eq_true hs1_6
  refine WL_skip (dd := some 25) rfl rfl rfl ?_
  refine WL_skip (dd := some 26) rfl rfl rfl ?_
  refine WL_val (dd := some 27) rfl rfl rfl (r_pick_t rfl (v := .bool true) rfl) ?_
  refine WL_nil ?_
  refine hK6 _ _ ?_
  clear hK6 K5
  refine WC_cond_true rfl ?_
  refine WC_seq (fun K13 hK14 => ?_)
  refine WC_region ?_
  refine WL_val (dd := some 6) rfl rfl rfl (r_assign (v := .int .i64 0) rfl) ?_
  refine WL_val (dd := some 7) rfl rfl rfl (r_assign (v := .int .i64 0) rfl) ?_
  refine WL_val (dd := some 8) rfl rfl rfl (r_assign (v := .int .i64 1) rfl) ?_
  refine WL_nil ?_
  refine hK14 _ _ ?_
  clear hK14 K13
  refine WC_ret ?_
  repeat (first | refine thenQ_ret ?_ | refine blockQ_ret ?_)
  try clear hK4 K3
  refine ret_ttt (v := .int .i64 0) rfl (v1 := .int .i64 0) rfl (v2 := .int .i64 1) rfl ?_
  refine ⟨hB, ?_⟩
  rfl
 ·
  try with_reducible replace hs1_6 := of_decide_eq_false hs1_6
  refine WL_val (dd := some 25) rfl rfl rfl (r_move (v := .int .i64 _) rfl) ?_
  refine WL_val (dd := some 26) rfl rfl rfl (r_eql rfl rfl) ?_
  refine WL_val (dd := some 27) rfl rfl rfl (r_pick_f rfl (v := .bool _) rfl) ?_
  refine WL_nil ?_
  refine hK6 _ _ ?_
  clear hK6 K5
  refine WC_cond (b := _) rfl (fun hc0 => ?_) (fun hc0 => ?_)
  ·
   try with_reducible replace hc0 := of_decide_eq_true hc0
   refine WC_seq (fun K15 hK16 => ?_)
   refine WC_region ?_
   refine WL_val (dd := some 6) rfl rfl rfl (r_assign (v := .int .i64 0) rfl) ?_
   refine WL_val (dd := some 7) rfl rfl rfl (r_assign (v := .int .i64 0) rfl) ?_
   refine WL_val (dd := some 8) rfl rfl rfl (r_assign (v := .int .i64 1) rfl) ?_
   refine WL_nil ?_
   refine hK16 _ _ ?_
   clear hK16 K15
   refine WC_ret ?_
   repeat (first | refine thenQ_ret ?_ | refine blockQ_ret ?_)
   try clear hK4 K3
   refine ret_ttt (v := .int .i64 0) rfl (v1 := .int .i64 0) rfl (v2 := .int .i64 1) rfl ?_
   refine ⟨hB, ?_⟩
   rfl
  ·
   try with_reducible replace hc0 := of_decide_eq_false hc0
   rcases hn with h | h
   · exact absurd (not_f' hs1_6) (by rw [h]; decide)
   · exact absurd h hc0

def DVX (N ba bm R : Nat) (w : World) (ns : List Nd) (f g : Nat) (v : Value) (w' : World) : Prop := ∃ (ns' : List Nd) (q r : Nat) (er : Int), v = .tuple #[.int .i64 (q : Int), .int .i64 (r : Int), .int .i64 er] ∧ Dx 150 N [ba, bm] w w' ∧ Dia 147 150 N ba bm R w' ns' ∧ DvX R ns f g ns' q r er
theorem C_DivideX (N ba bm bz R : Nat) (ns : List Nd) (f g : Nat) (w : World) (hN0 : N ≤ w.heap.size) (hz : At w bz #[.pointer (some ⟨ba, 0, none⟩)] 100) (hD : Dia 147 150 N ba bm R w ns) (hf : f < ns.length + 2) (hg : g < ns.length + 2) (hgc : (mems ns g).length ≤ 1000) :
    FnG Try.prog 45 #[.pointer (some ⟨bz, 0, none⟩), .int .i64 (f : Int), .int .i64 (g : Int)] w fun v w' => DVX N ba bm R w ns f g v w' := by
  by_cases h : g = 0
  · have hr := hD.room
    have ht := hD.top
    refine ⟨Calls.mono (C_Divide_arg N ba bm bz R ns (f : Int) (g : Int) w hz hD (by omega) (by omega) (.inr (by omega))).out fun _ _ ⟨v, he, hx, hq⟩ => ⟨v, he, ns, 0, 0, 1, hq, Dx.ext hx, Dia.ext hx hD, .inl ⟨h, rfl, rfl, rfl, rfl⟩⟩⟩
  · refine ⟨Calls.mono (C_family_Divide N ba bm bz R ns f g w hN0 hz hD hf hg h hgc).out fun _ _ ⟨v, he, ns', q, r, er, h1, h2, h3, h4⟩ => ⟨v, he, ns', q, r, er, h1, h2, h3, .inr ⟨h, h4⟩⟩⟩

end Go.Proofs.Ytpamgfbecgjjeaa
