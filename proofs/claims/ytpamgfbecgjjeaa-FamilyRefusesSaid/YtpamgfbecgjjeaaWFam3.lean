/-
  The walks of what is above, and below, another family.
-/
import Derived.Test.YtpamgfbecgjjeaaProg
import Derived.Test.YtpamgfbecgjjeaaWFam2
import Derived.Test.YtpamgfbecgjjeaaZ11
namespace Go.Proofs.Ytpamgfbecgjjeaa
set_option linter.unusedVariables false
set_option linter.unusedSimpArgs false
open Go Go.RowKit

theorem tb_c89 : callB Try.prog 89 = true := by kernel_rfl
theorem tb_c90 : callB Try.prog 90 = true := by kernel_rfl
theorem tb_c99 : callB Try.prog 99 = true := by kernel_rfl

theorem WalkAll : ∀ n, WalkAt n
  | 0 => fun ab N ba bm bz bw bd R ns e dl f g i w _ _ _ _ _ _ _ _ _ _ _ _ _ _ hn => by omega
  | n + 1 => fun ab N ba bm bz bw bd R ns e dl f g i w => C_walk n ab N ba bm bz bw bd R ns e dl f g i w (WalkAll n)

theorem C_do_end (ge gh : Nat) (o : Op) (bz bd bx : Nat) (f g : Nat) (w : World) (hE : EnOk ge o) (hcE : callB Try.prog ge = true) (hbd : At w bd #[.pointer (some ⟨bz, 0, none⟩), .func (.func ge) #[] #[], .func (.func gh) #[] #[], .map (some bx)] 94) (hend : (o.ends f g).2 = true) :
    Fn Try.prog 72 #[.pointer (some ⟨bd, 0, none⟩), .int .i64 (f : Int), .int .i64 (g : Int)] w fun v w' => v = .tuple #[.int .i64 ((o.ends f g).1 : Int), .int .i64 0] := by
 refine Fn_intro (n := 130) Try.func72 rfl rfl (Nat.le_of_ble_eq_true rfl) ?_
 have hB : Below w.heap.size w w := Below.refl _ _
 refine WC_seq (fun K1 hK2 => ?_)
 refine WC_region ?_
 refine WL_val (dd := some 6) rfl rfl rfl (r_assign (v := .int .i64 0) rfl) ?_
 refine WL_val (dd := some 7) rfl rfl rfl (r_assign (v := .int .i64 0) rfl) ?_
 refine WL_nil ?_
 refine hK2 _ _ ?_
 clear hK2 K1
 refine WC_seq (fun K3 hK4 => ?_)
 refine WC_seq (fun K5 hK6 => ?_)
 refine WC_region ?_
 refine WL_val (dd := some 20) rfl rfl rfl (r_move (v := .pointer (some ⟨bd, 0, none⟩)) rfl) ?_
 refine WL_val (dd := some 21) rfl rfl rfl (r_nilCheck_ptr rfl) ?_
 refine WL_val (dd := some 22) rfl rfl rfl (r_fieldAddr (b := _) (o := _) rfl tb_fo94_1) ?_
 refine WL_val (dd := some 23) rfl rfl rfl (r_load1 (v := .func (.func ge) #[] #[]) rfl tb_sc87 (At.cell (Below.atI hB hbd) rfl)) ?_
 refine WL_val (dd := some 24) rfl rfl rfl (r_move (v := .int .i64 _) rfl) ?_
 refine WL_val (dd := some 25) rfl rfl rfl (r_move (v := .int .i64 _) rfl) ?_
 refine WL_call (dd := some 26) rfl rfl rfl (r_callv2 (q := ge) rfl hcE (v0 := .int .i64 _) rfl (v1 := .int .i64 _) rfl) (hE _ _ _) (fun v1_6 W7 hE8 hP1_6 => ?_)
 have hsz9 := (Below.size hB)
 replace hB := below_ext hB hE8 (Nat.le_refl _)
 clear hE8
 obtain rfl := hP1_6
 clear hsz9
 refine WL_val (dd := some 19) rfl rfl rfl (r_move (v := .tuple #[.int .i64 _, .bool _]) rfl) ?_
 refine WL_val (dd := some 27) rfl rfl rfl (r_ext2_0 (h := rfl)) ?_
 refine WL_val (dd := some 28) rfl rfl rfl (r_ext2_1 (h := rfl)) ?_
 refine WL_val (dd := some 8) rfl rfl rfl (r_assign (v := .int .i64 _) rfl) ?_
 refine WL_val (dd := some 9) rfl rfl rfl (r_assign (v := .bool _) rfl) ?_
 refine WL_nil ?_
 refine hK6 _ _ ?_
 clear hK6 K5
 refine WC_seq (fun K10 hK11 => ?_)
 refine WC_region ?_
 refine WL_val (dd := some 29) rfl rfl rfl (r_move (v := .bool _) rfl) ?_
 refine WL_nil ?_
 refine hK11 _ _ ?_
 clear hK11 K10
 refine WC_cond (b := _) rfl (fun hc0 => ?_) (fun hc0 => ?_)
 ·
  try with_reducible replace hc0 := of_decide_eq_true hc0
  refine WC_seq (fun K12 hK13 => ?_)
  refine WC_region ?_
  refine WL_val (dd := some 30) rfl rfl rfl (r_move (v := .int .i64 _) rfl) ?_
  refine WL_val (dd := some 6) rfl rfl rfl (r_assign (v := .int .i64 _) rfl) ?_
  refine WL_val (dd := some 7) rfl rfl rfl (r_assign (v := .int .i64 0) rfl) ?_
  refine WL_nil ?_
  refine hK13 _ _ ?_
  clear hK13 K12
  refine WC_ret ?_
  repeat (first | refine thenQ_ret ?_ | refine blockQ_ret ?_)
  try clear hK4 K3
  refine ret_tt (v := .int .i64 _) rfl (v1 := .int .i64 0) rfl ?_
  refine ⟨hB, ?_⟩
  first | rfl | (simp_all; done)
 ·
  try with_reducible replace hc0 := of_decide_eq_false hc0
  exact absurd hend (by rw [hc0]; decide)

theorem C_both0 (ge gh : Nat) (o : Op) (N ba bm bz R : Nat) (ns : List Nd) (id : Int) (w : World) (hz : At w bz #[.pointer (some ⟨ba, 0, none⟩)] 100) (hD : Dia 147 150 N ba bm R w ns) (hid : id ≤ 9223372036854775807) (hE : EnOk ge o) (hcE : callB Try.prog ge = true) (hend : ∀ f, (o.ends f 0).2 = true ∧ (o.ends f 0).1 = f) :
    Fn Try.prog 69 #[.pointer (some ⟨bz, 0, none⟩), .int .i64 id, .int .i64 0, .func (.func ge) #[] #[], .func (.func gh) #[] #[]] w fun v w' => v = .tuple #[.int .i64 (if thereZ ns id = true then id else 0), .int .i64 (if thereZ ns id = true then 0 else 1)] := by
 refine Fn_intro (n := 27) Try.func69 rfl rfl (Nat.le_of_ble_eq_true rfl) ?_
 have hB : Below w.heap.size w w := Below.refl _ _
 refine WC_seq (fun K1 hK2 => ?_)
 refine WC_region ?_
 refine WL_val (dd := some 10) rfl rfl rfl (r_assign (v := .int .i64 0) rfl) ?_
 refine WL_val (dd := some 11) rfl rfl rfl (r_assign (v := .int .i64 0) rfl) ?_
 refine WL_nil ?_
 refine hK2 _ _ ?_
 clear hK2 K1
 refine WC_seq (fun K3 hK4 => ?_)
 refine WC_seq (fun K5 hK6 => ?_)
 refine WC_region ?_
 refine WL_val (dd := some 12) rfl rfl rfl (r_move (v := .pointer (some ⟨bz, 0, none⟩)) rfl) ?_
 refine WL_val (dd := some 13) rfl rfl rfl (r_move (v := .int .i64 _) rfl) ?_
 refine WL_val (dd := some 14) rfl rfl rfl (r_move (v := .int .i64 _) rfl) ?_
 refine WL_step (dd := some 15) rfl rfl rfl (Y_lit2 (u0 := .int .i64 _) (u1 := .int .i64 _) rfl rfl tb_el22 tb_zs3 rfl rfl (by decide) (by decide) (fun b1_3 W7 hb8 hE9 hm1_3 => ?_))
 have lo_b1_3 : w.heap.size ≤ b1_3 := hb8 ▸ (Below.size hB)
 clear hb8
 replace hB := below_ext hB hE9 (Nat.le_refl _)
 clear hE9
 have ho1_3 := own_lit2 (enc := encI) (sz := 1) (a0 := _) (a1 := _) hm1_3 rfl rfl rfl rfl lo_b1_3
 clear hm1_3
 refine WL_call (dd := some 16) rfl rfl rfl (r_call2 tb_c73 (v0 := .pointer (some ⟨bz, 0, none⟩)) rfl (v1 := .slice (some ⟨b1_3, 0, none⟩) 2 2) rfl) (C___zdd_Zdd__there N ba bm bz R ns _ [id, 0] _ (Below.atI hB hz) (Dia.below hB hD) ho1_3.sl (by simp) (by simp; omega)) (fun v1_4 W10 hE11 hP1_4 => ?_)
 have hsz12 := (Below.size hB)
 replace hB := below_ext hB hE11 (Nat.le_refl _)
 replace ho1_3 := hE11.ow ho1_3
 clear hE11
 clear hsz12
 obtain rfl := hP1_4
 refine WL_val (dd := some 17) rfl rfl rfl (r_not rfl) ?_
 refine WL_nil ?_
 refine hK6 _ _ ?_
 clear hK6 K5
 refine WC_cond (b := _) rfl (fun hc0 => ?_) (fun hc0 => ?_)
 ·
  try with_reducible replace hc0 := of_decide_eq_true hc0
  refine WC_seq (fun K13 hK14 => ?_)
  refine WC_region ?_
  refine WL_val (dd := some 10) rfl rfl rfl (r_assign (v := .int .i64 0) rfl) ?_
  refine WL_val (dd := some 11) rfl rfl rfl (r_assign (v := .int .i64 1) rfl) ?_
  refine WL_nil ?_
  refine hK14 _ _ ?_
  clear hK14 K13
  refine WC_ret ?_
  repeat (first | refine thenQ_ret ?_ | refine blockQ_ret ?_)
  try clear hK4 K3
  refine ret_tt (v := .int .i64 0) rfl (v1 := .int .i64 1) rfl ?_
  refine ⟨hB, ?_⟩
  refine u0_no (Bool.eq_false_iff.2 fun k => ?_)
  have := not_t' hc0
  simp only [List.all_cons, List.all_nil, k, Bool.true_and, Bool.and_true] at this
  exact absurd this (by rw [tz_iff.2 ⟨by omega, by omega⟩]; decide)
 ·
  try with_reducible replace hc0 := of_decide_eq_false hc0
  refine WC_skip ?_
  refine hK4 _ _ ?_
  clear hK4 K3
  refine WC_seq (fun K15 hK16 => ?_)
  have hti : thereZ ns id = true := by have := not_f' hc0; simp only [List.all_cons, Bool.and_eq_true] at this; exact this.1
  have htz := tz_iff.1 hti
  obtain ⟨f, rfl⟩ := Int.eq_ofNat_of_zero_le htz.1
  refine WC_region ?_
  refine WL_val (dd := some 18) rfl rfl rfl (r_move (v := .pointer (some ⟨bz, 0, none⟩)) rfl) ?_
  refine WL_val (dd := some 19) rfl rfl rfl (r_move (v := .func _ _ _) rfl) ?_
  refine WL_val (dd := some 20) rfl rfl rfl (r_move (v := .func _ _ _) rfl) ?_
  refine WL_call (dd := some 21) rfl rfl rfl (r_call3 tb_c118 (v0 := .pointer (some ⟨bz, 0, none⟩)) rfl (v1 := .func _ _ _) rfl (v2 := .func _ _ _) rfl) (C___zdd_Zdd__deed bz ge gh _) (fun v3_3 W17 hE18 hP3_3 => ?_)
  have hsz19 := (Below.size hB)
  replace hB := below_ext hB hE18 (Nat.le_refl _)
  replace ho1_3 := hE18.ow ho1_3
  clear hE18
  obtain ⟨bd3_3, bx3_3, rfl, hbd, hdn, lbd3_3, lbx3_3⟩ := hP3_3
  clear hsz19
  refine WL_val (dd := some 22) rfl rfl rfl (r_move (v := .int .i64 _) rfl) ?_
  refine WL_val (dd := some 23) rfl rfl rfl (r_move (v := .int .i64 _) rfl) ?_
  refine WL_call (dd := some 24) rfl rfl rfl (r_call (q := 72) (first := #[.pointer (some ⟨bd3_3, 0, none⟩)]) (cap := #[]) (vs := #[.pointer (some ⟨bd3_3, 0, none⟩), .int .i64 _, .int .i64 _]) rfl tb_c72 (by simp only [List.map_toArray, List.map_cons, List.map_nil, List.append_toArray, List.nil_append, List.cons_append]; rfl)) (C_do_end ge gh o bz bd3_3 bx3_3 f 0 _ hE hcE hbd (hend f).1) (fun v3_6 W20 hE21 hP3_6 => ?_)
  have hsz22 := (Below.size hB)
  replace hB := below_ext hB hE21 (Nat.le_refl _)
  replace ho1_3 := hE21.ow ho1_3
  replace hbd := hE21.at hbd
  clear hE21
  obtain rfl := hP3_6
  clear hsz22
  refine WL_val (dd := some 25) rfl rfl rfl (r_ext2_0 (h := rfl)) ?_
  refine WL_val (dd := some 26) rfl rfl rfl (r_ext2_1 (h := rfl)) ?_
  refine WL_val (dd := some 10) rfl rfl rfl (r_assign (v := .int .i64 _) rfl) ?_
  refine WL_val (dd := some 11) rfl rfl rfl (r_assign (v := .int .i64 _) rfl) ?_
  refine WL_nil ?_
  refine hK16 _ _ ?_
  clear hK16 K15
  refine WC_ret ?_
  repeat (first | refine thenQ_ret ?_ | refine blockQ_ret ?_)
  refine ret_tt (v := .int .i64 _) rfl (v1 := .int .i64 _) rfl ?_
  refine ⟨hB, ?_⟩
  rw [(hend f).2]
  exact u0_yes hti

theorem C_Union0 (N ba bm bz R : Nat) (ns : List Nd) (id : Int) (w : World) (hz : At w bz #[.pointer (some ⟨ba, 0, none⟩)] 100) (hD : Dia 147 150 N ba bm R w ns) (hid : id ≤ 9223372036854775807) :
    Fn Try.prog 33 #[.pointer (some ⟨bz, 0, none⟩), .int .i64 id, .int .i64 0] w fun v w' => v = .tuple #[.int .i64 (if thereZ ns id = true then id else 0), .int .i64 (if thereZ ns id = true then 0 else 1)] := by
 refine Fn_intro (n := 14) Try.func33 rfl rfl (Nat.le_of_ble_eq_true rfl) ?_
 have hB : Below w.heap.size w w := Below.refl _ _
 refine WC_seq (fun K1 hK2 => ?_)
 refine WC_region ?_
 refine WL_val (dd := some 6) rfl rfl rfl (r_assign (v := .int .i64 0) rfl) ?_
 refine WL_val (dd := some 7) rfl rfl rfl (r_assign (v := .int .i64 0) rfl) ?_
 refine WL_nil ?_
 refine hK2 _ _ ?_
 clear hK2 K1
 refine WC_seq (fun K3 hK4 => ?_)
 refine WC_region ?_
 refine WL_val (dd := some 8) rfl rfl rfl (r_move (v := .pointer (some ⟨bz, 0, none⟩)) rfl) ?_
 refine WL_val (dd := some 9) rfl rfl rfl (r_move (v := .int .i64 _) rfl) ?_
 refine WL_val (dd := some 10) rfl rfl rfl (r_move (v := .int .i64 _) rfl) ?_
 refine WL_call (dd := some 11) rfl rfl rfl (r_call5 tb_c69 (v0 := .pointer (some ⟨bz, 0, none⟩)) rfl (v1 := .int .i64 _) rfl (v2 := .int .i64 _) rfl (v3 := .func (.func 77) #[] #[]) rfl (v4 := .func (.func 78) #[] #[]) rfl) (C_both0 _ 78 opU N ba bm bz R ns id _ (Below.atI hB hz) (Dia.below hB hD) hid (fun f g w => C___zdd_Zdd__Union_1 f g w) tb_c77 opU_0) (fun v1_3 W5 hE6 hP1_3 => ?_)
 have hsz7 := (Below.size hB)
 replace hB := below_ext hB hE6 (Nat.le_refl _)
 clear hE6
 obtain rfl := hP1_3
 clear hsz7
 refine WL_val (dd := some 12) rfl rfl rfl (r_ext2_0 (h := rfl)) ?_
 refine WL_val (dd := some 13) rfl rfl rfl (r_ext2_1 (h := rfl)) ?_
 refine WL_val (dd := some 6) rfl rfl rfl (r_assign (v := .int .i64 _) rfl) ?_
 refine WL_val (dd := some 7) rfl rfl rfl (r_assign (v := .int .i64 _) rfl) ?_
 refine WL_nil ?_
 refine hK4 _ _ ?_
 clear hK4 K3
 refine WC_ret ?_
 repeat (first | refine thenQ_ret ?_ | refine blockQ_ret ?_)
 refine ret_tt (v := .int .i64 _) rfl (v1 := .int .i64 _) rfl ?_
 refine ⟨hB, ?_⟩
 first | rfl | (simp_all; done)

theorem C_family_there (N ba bm bz R : Nat) (ns : List Nd) (xi : Value) (li : List Int) (w : World) (hz : At w bz #[.pointer (some ⟨ba, 0, none⟩)] 100) (hD : Dia 147 150 N ba bm R w ns) (hli : SlT encI 1 w xi li) (hlb : li.length ≤ 1000) (hmx : ∀ x, x ∈ li → x ≤ 9223372036854775807) :
    Fn Try.prog 89 #[.pointer (some ⟨bz, 0, none⟩), xi] w fun v w' => v = .bool (li.all (thereZ ns)) := by
 refine Fn_intro (n := 26) Try.func89 rfl rfl (Nat.le_of_ble_eq_true rfl) ?_
 have hB : Below w.heap.size w w := Below.refl _ _
 refine WC_seq (fun K1 hK2 => ?_)
 refine WC_region ?_
 refine WL_val (dd := some 4) rfl rfl rfl (r_assign (v := .bool false) rfl) ?_
 refine WL_nil ?_
 refine hK2 _ _ ?_
 clear hK2 K1
 refine WC_seq (fun K3 hK4 => ?_)
 refine WC_seq (fun K5 hK6 => ?_)
 refine WC_region ?_
 refine WL_val (dd := some 9) rfl rfl rfl (r_move (v := xi) rfl) ?_
 refine WL_val (dd := some 10) rfl rfl rfl (r_lenS (v := xi) rfl (Below.slT hB hli) tb_el22) ?_
 refine WL_val (dd := some 11) rfl rfl rfl (r_move (v := .int .i64 0) rfl) ?_
 refine WL_nil ?_
 refine hK6 _ _ ?_
 clear hK6 K5
 refine WC_block ?_
 refine WC_loop (σ := (Nat)) [4, 6, 7, 8, 11, 12, 13, 14, 15, 16, 17, 18, 19, 20, 21, 22, 23] (fun k => [(11, .int .i64 (k : Int))]) (fun k W => (Below w.heap.size w W) ∧ (k ≤ li.length) ∧ (∀ q, q < k → thereZ ns (li.getD q 0) = true) ∧ (True)) (fun k => li.length - k) (0) ⟨rfl, trivial⟩ ⟨hB, (Nat.zero_le _), upTo_zero, trivial⟩ ?_
 clear hB
 rintro k g8 W7 ⟨hB, hk, hq, _⟩ J9 hJ10
 refine WC_seq (fun K11 hK12 => ?_)
 refine WC_region ?_
 refine WL_val (dd := some 12) rfl rfl rfl (r_lss rfl rfl) ?_
 refine WL_nil ?_
 refine hK12 _ _ ?_
 clear hK12 K11
 refine WC_seq (fun K13 hK14 => ?_)
 refine WC_cond (b := _) rfl (fun hc0 => ?_) (fun hc0 => ?_)
 ·
  try with_reducible replace hc0 := of_decide_eq_true hc0
  refine WC_skip ?_
  refine hK14 _ _ ?_
  clear hK14 K13
  refine WC_seq (fun K15 hK16 => ?_)
  refine WC_block ?_
  refine WC_seq (fun K17 hK18 => ?_)
  refine WC_region ?_
  refine WL_val (dd := some 13) rfl rfl rfl (r_idxS (v := xi) rfl (Below.slT hB hli) rfl tb_el22 (by omega) (by omega)) ?_
  refine WL_val (dd := some 14) rfl rfl rfl (r_load1 (v := .int .i64 _) rfl tb_sc3 (SlT.cell (Below.slT hB hli) encI_len 0 (by omega) (by omega) 0 rfl)) ?_
  refine WL_val (dd := some 6) rfl rfl rfl (r_assign (v := .int .i64 _) rfl) ?_
  refine WL_nil ?_
  refine hK18 _ _ ?_
  clear hK18 K17
  refine WC_seq (fun K19 hK20 => ?_)
  have hmk := hmx (li.getD k 0) (getD_mem (by omega))
  refine WC_region ?_
  refine WL_val (dd := some 16) rfl rfl rfl (r_move (v := .pointer (some ⟨bz, 0, none⟩)) rfl) ?_
  refine WL_val (dd := some 17) rfl rfl rfl (r_move (v := .int .i64 _) rfl) ?_
  refine WL_call (dd := some 18) rfl rfl rfl (r_call3 tb_c33 (v0 := .pointer (some ⟨bz, 0, none⟩)) rfl (v1 := .int .i64 _) rfl (v2 := .int .i64 0) rfl) (C_Union0 N ba bm bz R ns (li.getD k 0) _ (Below.atI hB hz) (Dia.below hB hD) hmk) (fun v4_2 W21 hE22 hP4_2 => ?_)
  have hsz23 := (Below.size hB)
  replace hB := below_ext hB hE22 (Nat.le_refl _)
  clear hE22
  obtain rfl := hP4_2
  clear hsz23
  refine WL_val (dd := some 15) rfl rfl rfl (r_move (v := .tuple #[.int .i64 _, .int .i64 _]) rfl) ?_
  refine WL_val (dd := some 19) rfl rfl rfl (r_ext2_0 (h := rfl)) ?_
  refine WL_val (dd := some 20) rfl rfl rfl (r_ext2_1 (h := rfl)) ?_
  refine WL_val (dd := some 7) rfl rfl rfl (r_assign (v := .int .i64 _) rfl) ?_
  refine WL_val (dd := some 8) rfl rfl rfl (r_assign (v := .int .i64 _) rfl) ?_
  refine WL_nil ?_
  refine hK20 _ _ ?_
  clear hK20 K19
  refine WC_seq (fun K24 hK25 => ?_)
  refine WC_region ?_
  refine WL_val (dd := some 21) rfl rfl rfl (r_move (v := .int .i64 _) rfl) ?_
  refine WL_val (dd := some 22) rfl rfl rfl (r_neq rfl rfl) ?_
  refine WL_nil ?_
  refine hK25 _ _ ?_
  clear hK25 K24
  refine WC_cond (b := _) rfl (fun hc1 => ?_) (fun hc1 => ?_)
  ·
   try with_reducible replace hc1 := of_decide_eq_true hc1
   refine WC_seq (fun K26 hK27 => ?_)
   refine WC_region ?_
   refine WL_val (dd := some 4) rfl rfl rfl (r_assign (v := .bool false) rfl) ?_
   refine WL_nil ?_
   refine hK27 _ _ ?_
   clear hK27 K26
   refine WC_ret ?_
   repeat (first | refine thenQ_ret ?_ | refine blockQ_ret ?_)
   try clear hK16 K15
   try clear hJ10 J9
   try clear hK4 K3
   refine ret_t (v := .bool false) rfl ?_
   refine ⟨hB, ?_⟩
   exact allZ_no' (k := k) (by omega) (u0_er hc1)
  ·
   try with_reducible replace hc1 := of_decide_eq_false hc1
   refine WC_skip ?_
   refine hK16 _ _ ?_
   clear hK16 K15
   refine WC_region ?_
   refine WL_val (dd := some 23) rfl rfl rfl (r_addI rfl rfl (by omega) (by omega)) ?_
   refine WL_val (dd := some 11) rfl rfl rfl (r_move (v := .int .i64 _) rfl) ?_
   refine WL_nil ?_
   refine hJ10 _ _ (k + 1) ?_ ?_ ?_ ?_
   · repeat (first | exact agree.mask _ _ _ | refine agree.updo ?_ rfl _ | refine agree.updL ?_ _ rfl | refine agree.maskS rfl ?_)
   · exact ⟨rfl, trivial⟩
   · exact ⟨hB, (by omega), (upTo_succ hq (u0_ok hc1)), trivial⟩
   · first | omega | (dsimp only; omega)
 ·
  try with_reducible replace hc0 := of_decide_eq_false hc0
  refine WC_exit ?_
  refine hK4 _ _ ?_
  clear hK14 K13
  clear hJ10 J9
  clear hK4 K3
  refine WC_seq (fun K28 hK29 => ?_)
  refine WC_region ?_
  refine WL_val (dd := some 24) rfl rfl rfl (r_move (v := .pointer (some ⟨bz, 0, none⟩)) rfl) ?_
  refine WL_val (dd := some 25) rfl rfl rfl (r_ptrNilN rfl rfl Try.underlying24) ?_
  refine WL_val (dd := some 4) rfl rfl rfl (r_assign (v := .bool true) rfl) ?_
  refine WL_nil ?_
  refine hK29 _ _ ?_
  clear hK29 K28
  refine WC_ret ?_
  repeat (first | refine thenQ_ret ?_ | refine blockQ_ret ?_)
  refine ret_t (v := .bool true) rfl ?_
  refine ⟨hB, ?_⟩
  exact all_yes (k := k) (by omega) hq

set_option maxRecDepth 10000 in
theorem C_family_Above (N ba bm bz R : Nat) (ns : List Nd) (f g : Nat) (w : World) (hN0 : N ≤ w.heap.size) (hz : At w bz #[.pointer (some ⟨ba, 0, none⟩)] 100) (hD : Dia 147 150 N ba bm R w ns) (hf : f < ns.length + 2) (hg : g < ns.length + 2) :
    FnG Try.prog 55 #[.pointer (some ⟨bz, 0, none⟩), .int .i64 (f : Int), .int .i64 (g : Int)] w fun v w' => PW 147 150 N ba bm R w ns (AbW true R ns f g) v w' := by
 refine FnG_intro (n := 25) Try.func55 rfl rfl (Nat.le_of_ble_eq_true rfl) ?_
 have hB : Below N w w := Below.refl _ _
 have hX : Dx 150 N [ba, bm] w w := Dx.refl
 have hwf := hD.wf
 have hroom := hD.room
 have htop := hD.top
 have hbmlt := hD.hm.lt
 refine WC_seq (fun K1 hK2 => ?_)
 refine WC_region ?_
 refine WL_val (dd := some 6) rfl rfl rfl (r_assign (v := .int .i64 0) rfl) ?_
 refine WL_val (dd := some 7) rfl rfl rfl (r_assign (v := .int .i64 0) rfl) ?_
 refine WL_nil ?_
 refine hK2 _ _ ?_
 clear hK2 K1
 refine WC_seq (fun K3 hK4 => ?_)
 refine WC_seq (fun K5 hK6 => ?_)
 refine WC_region ?_
 refine WL_val (dd := some 9) rfl rfl rfl (r_move (v := .pointer (some ⟨bz, 0, none⟩)) rfl) ?_
 refine WL_val (dd := some 10) rfl rfl rfl (r_move (v := .int .i64 _) rfl) ?_
 refine WL_val (dd := some 11) rfl rfl rfl (r_move (v := .int .i64 _) rfl) ?_
 refine WL_step (dd := some 12) rfl rfl rfl (Y_lit2 (u0 := .int .i64 _) (u1 := .int .i64 _) rfl rfl tb_el22 tb_zs3 rfl rfl (by decide) (by decide) (fun b1_3 W7 hb8 hE9 hm1_3 => ?_))
 have lo_b1_3 : N ≤ b1_3 := hb8 ▸ (Nat.le_trans hN0 (Below.size hB))
 clear hb8
 replace hz := hE9.at hz
 replace hD := Dia.ext hE9 hD
 replace hX := Dx.trans hX (Dx.ext hE9)
 replace hB := below_ext hB hE9 hN0
 clear hE9
 have ho1_3 := own_lit2 (enc := encI) (sz := 1) (a0 := _) (a1 := _) hm1_3 rfl rfl rfl rfl lo_b1_3
 clear hm1_3
 refine WL_call (dd := some 13) rfl rfl rfl (r_call2 tb_c89 (v0 := .pointer (some ⟨bz, 0, none⟩)) rfl (v1 := .slice (some ⟨b1_3, 0, none⟩) 2 2) rfl) (C_family_there N ba bm bz R ns _ [(f : Int), (g : Int)] _ hz hD ho1_3.sl (by simp) (by simp; omega)) (fun v1_4 W10 hE11 hP1_4 => ?_)
 have hsz12 := (Nat.le_trans hN0 (Below.size hB))
 replace hz := hE11.at hz
 replace hD := Dia.ext hE11 hD
 replace hX := Dx.trans hX (Dx.ext hE11)
 replace hB := below_ext hB hE11 hN0
 replace ho1_3 := hE11.ow ho1_3
 clear hE11
 clear hsz12
 obtain rfl := hP1_4
 refine WL_val (dd := some 14) rfl rfl rfl (r_not rfl) ?_
 refine WL_nil ?_
 refine hK6 _ _ ?_
 clear hK6 K5
 refine WC_cond (b := _) rfl (fun hc0 => ?_) (fun hc0 => ?_)
 ·
  try with_reducible replace hc0 := of_decide_eq_true hc0
  exact absurd (not_t' hc0) (by rw [two_there hf hg]; decide)
 ·
  try with_reducible replace hc0 := of_decide_eq_false hc0
  refine WC_skip ?_
  refine hK4 _ _ ?_
  clear hK4 K3
  refine WC_seq (fun K13 hK14 => ?_)
  have hszX := hX.size
  refine WC_region ?_
  refine WL_val (dd := some 15) rfl rfl rfl (r_move (v := .pointer (some ⟨bz, 0, none⟩)) rfl) ?_
  refine WL_call (dd := some 16) rfl rfl rfl (r_call1 tb_c90 (v0 := .pointer (some ⟨bz, 0, none⟩)) rfl) (C_family_begin _ _) (fun v3_1 W15 hE16 hP3_1 => ?_)
  have hsz17 := (Nat.le_trans hN0 (Below.size hB))
  replace hz := hE16.at hz
  replace hD := Dia.ext hE16 hD
  replace hX := Dx.trans hX (Dx.ext hE16)
  replace hB := below_ext hB hE16 hN0
  replace ho1_3 := hE16.ow ho1_3
  clear hE16
  obtain ⟨bw, bd, rfl, hw, hdn, lbw, lbd⟩ := hP3_1
  have low : N ≤ bw := Nat.le_trans hsz17 lbw
  have lod : N ≤ bd := Nat.le_trans hsz17 lbd
  have hdm : bd ≠ bm := fun e => Nat.lt_irrefl _ (Nat.lt_of_lt_of_le hbmlt (Nat.le_trans hszX (e ▸ lbd)))
  have hnw := Nat.le_trans hszX lbw
  have hnd := Nat.le_trans hszX lbd
  clear hsz17
  refine WL_val (dd := some 8) rfl rfl rfl (r_assign (v := .pointer (some ⟨bw, 0, none⟩)) rfl) ?_
  refine WL_nil ?_
  refine hK14 _ _ ?_
  clear hK14 K13
  refine WC_seq (fun K18 hK19 => ?_)
  refine WC_region ?_
  refine WL_val (dd := some 17) rfl rfl rfl (r_move (v := .pointer (some ⟨bw, 0, none⟩)) rfl) ?_
  refine WL_val (dd := some 18) rfl rfl rfl (r_move (v := .pointer (some ⟨bw, 0, none⟩)) rfl) ?_
  refine WL_val (dd := some 19) rfl rfl rfl (r_move (v := .int .i64 _) rfl) ?_
  refine WL_val (dd := some 20) rfl rfl rfl (r_move (v := .int .i64 _) rfl) ?_
  refine WL_callG (dd := some 21) rfl rfl rfl (r_call5 tb_c100 (v0 := .pointer (some ⟨bw, 0, none⟩)) rfl (v1 := .int .i64 _) rfl (v2 := .int .i64 _) rfl (v3 := .int .i64 0) rfl (v4 := .bool true) rfl) (WalkAll 25 true N ba bm bz bw bd R ns 0 [] f g 0 _ (Nat.le_trans hN0 (Below.size hB)) hz hD hw low hdn lod hdm hf hg (by omega) (fun _ => Nat.zero_le _) (fun _ => Nat.zero_le _) (fun _ => DoneW.nil) (by omega)) (fun v4_4 W20 hP4_4 => ?_)
  obtain ⟨ns4_4, e4_4, id4_4, dl4_4, rfl, hx4_4, hz4_4, hD4_4, hw4_4, hdn4_4, hp4_4, hdone4_4⟩ := hP4_4
  replace hX := Dx.new2 hX hnw hnd hx4_4.dx
  replace hB := Below.dx hB (Nat.le_refl _) hN0 hx4_4.dx
  try clear ho1_3
  replace hz := hz4_4
  replace hD := hD4_4
  replace hw := hw4_4
  replace hdn := hdn4_4
  refine WL_call (dd := some 22) rfl rfl rfl (r_call2 tb_c99 (v0 := .pointer (some ⟨bw, 0, none⟩)) rfl (v1 := .int .i64 _) rfl) (C___family_work__end bw bz bd e4_4 id4_4 _ hw) (fun v4_5 W22 hE23 hP4_5 => ?_)
  have hsz24 := (Nat.le_trans hN0 (Below.size hB))
  replace hz := hE23.at hz
  replace hD := Dia.ext hE23 hD
  replace hX := Dx.trans hX (Dx.ext hE23)
  replace hB := below_ext hB hE23 hN0
  replace hw := hE23.at hw
  replace hdn := hE23.mapT hdn
  clear hE23
  obtain rfl := hP4_5
  clear hsz24
  refine WL_val (dd := some 23) rfl rfl rfl (r_ext2_0 (h := rfl)) ?_
  refine WL_val (dd := some 24) rfl rfl rfl (r_ext2_1 (h := rfl)) ?_
  refine WL_val (dd := some 6) rfl rfl rfl (r_assign (v := .int .i64 _) rfl) ?_
  refine WL_val (dd := some 7) rfl rfl rfl (r_assign (v := .int .i64 _) rfl) ?_
  refine WL_nil ?_
  refine hK19 _ _ ?_
  clear hK19 K18
  refine WC_ret ?_
  repeat (first | refine thenQ_ret ?_ | refine blockQ_ret ?_)
  refine ret_tt (v := .int .i64 _) rfl (v1 := .int .i64 _) rfl ?_
  exact ⟨_, _, _, rfl, hX, hD, abw_end hp4_4⟩

set_option maxRecDepth 10000 in
theorem C_family_Below (N ba bm bz R : Nat) (ns : List Nd) (f g : Nat) (w : World) (hN0 : N ≤ w.heap.size) (hz : At w bz #[.pointer (some ⟨ba, 0, none⟩)] 100) (hD : Dia 147 150 N ba bm R w ns) (hf : f < ns.length + 2) (hg : g < ns.length + 2) :
    FnG Try.prog 56 #[.pointer (some ⟨bz, 0, none⟩), .int .i64 (f : Int), .int .i64 (g : Int)] w fun v w' => PW 147 150 N ba bm R w ns (AbW false R ns f g) v w' := by
 refine FnG_intro (n := 25) Try.func56 rfl rfl (Nat.le_of_ble_eq_true rfl) ?_
 have hB : Below N w w := Below.refl _ _
 have hX : Dx 150 N [ba, bm] w w := Dx.refl
 have hwf := hD.wf
 have hroom := hD.room
 have htop := hD.top
 have hbmlt := hD.hm.lt
 refine WC_seq (fun K1 hK2 => ?_)
 refine WC_region ?_
 refine WL_val (dd := some 6) rfl rfl rfl (r_assign (v := .int .i64 0) rfl) ?_
 refine WL_val (dd := some 7) rfl rfl rfl (r_assign (v := .int .i64 0) rfl) ?_
 refine WL_nil ?_
 refine hK2 _ _ ?_
 clear hK2 K1
 refine WC_seq (fun K3 hK4 => ?_)
 refine WC_seq (fun K5 hK6 => ?_)
 refine WC_region ?_
 refine WL_val (dd := some 9) rfl rfl rfl (r_move (v := .pointer (some ⟨bz, 0, none⟩)) rfl) ?_
 refine WL_val (dd := some 10) rfl rfl rfl (r_move (v := .int .i64 _) rfl) ?_
 refine WL_val (dd := some 11) rfl rfl rfl (r_move (v := .int .i64 _) rfl) ?_
 refine WL_step (dd := some 12) rfl rfl rfl (Y_lit2 (u0 := .int .i64 _) (u1 := .int .i64 _) rfl rfl tb_el22 tb_zs3 rfl rfl (by decide) (by decide) (fun b1_3 W7 hb8 hE9 hm1_3 => ?_))
 have lo_b1_3 : N ≤ b1_3 := hb8 ▸ (Nat.le_trans hN0 (Below.size hB))
 clear hb8
 replace hz := hE9.at hz
 replace hD := Dia.ext hE9 hD
 replace hX := Dx.trans hX (Dx.ext hE9)
 replace hB := below_ext hB hE9 hN0
 clear hE9
 have ho1_3 := own_lit2 (enc := encI) (sz := 1) (a0 := _) (a1 := _) hm1_3 rfl rfl rfl rfl lo_b1_3
 clear hm1_3
 refine WL_call (dd := some 13) rfl rfl rfl (r_call2 tb_c89 (v0 := .pointer (some ⟨bz, 0, none⟩)) rfl (v1 := .slice (some ⟨b1_3, 0, none⟩) 2 2) rfl) (C_family_there N ba bm bz R ns _ [(f : Int), (g : Int)] _ hz hD ho1_3.sl (by simp) (by simp; omega)) (fun v1_4 W10 hE11 hP1_4 => ?_)
 have hsz12 := (Nat.le_trans hN0 (Below.size hB))
 replace hz := hE11.at hz
 replace hD := Dia.ext hE11 hD
 replace hX := Dx.trans hX (Dx.ext hE11)
 replace hB := below_ext hB hE11 hN0
 replace ho1_3 := hE11.ow ho1_3
 clear hE11
 clear hsz12
 obtain rfl := hP1_4
 refine WL_val (dd := some 14) rfl rfl rfl (r_not rfl) ?_
 refine WL_nil ?_
 refine hK6 _ _ ?_
 clear hK6 K5
 refine WC_cond (b := _) rfl (fun hc0 => ?_) (fun hc0 => ?_)
 ·
  try with_reducible replace hc0 := of_decide_eq_true hc0
  exact absurd (not_t' hc0) (by rw [two_there hf hg]; decide)
 ·
  try with_reducible replace hc0 := of_decide_eq_false hc0
  refine WC_skip ?_
  refine hK4 _ _ ?_
  clear hK4 K3
  refine WC_seq (fun K13 hK14 => ?_)
  have hszX := hX.size
  refine WC_region ?_
  refine WL_val (dd := some 15) rfl rfl rfl (r_move (v := .pointer (some ⟨bz, 0, none⟩)) rfl) ?_
  refine WL_call (dd := some 16) rfl rfl rfl (r_call1 tb_c90 (v0 := .pointer (some ⟨bz, 0, none⟩)) rfl) (C_family_begin _ _) (fun v3_1 W15 hE16 hP3_1 => ?_)
  have hsz17 := (Nat.le_trans hN0 (Below.size hB))
  replace hz := hE16.at hz
  replace hD := Dia.ext hE16 hD
  replace hX := Dx.trans hX (Dx.ext hE16)
  replace hB := below_ext hB hE16 hN0
  replace ho1_3 := hE16.ow ho1_3
  clear hE16
  obtain ⟨bw, bd, rfl, hw, hdn, lbw, lbd⟩ := hP3_1
  have low : N ≤ bw := Nat.le_trans hsz17 lbw
  have lod : N ≤ bd := Nat.le_trans hsz17 lbd
  have hdm : bd ≠ bm := fun e => Nat.lt_irrefl _ (Nat.lt_of_lt_of_le hbmlt (Nat.le_trans hszX (e ▸ lbd)))
  have hnw := Nat.le_trans hszX lbw
  have hnd := Nat.le_trans hszX lbd
  clear hsz17
  refine WL_val (dd := some 8) rfl rfl rfl (r_assign (v := .pointer (some ⟨bw, 0, none⟩)) rfl) ?_
  refine WL_nil ?_
  refine hK14 _ _ ?_
  clear hK14 K13
  refine WC_seq (fun K18 hK19 => ?_)
  refine WC_region ?_
  refine WL_val (dd := some 17) rfl rfl rfl (r_move (v := .pointer (some ⟨bw, 0, none⟩)) rfl) ?_
  refine WL_val (dd := some 18) rfl rfl rfl (r_move (v := .pointer (some ⟨bw, 0, none⟩)) rfl) ?_
  refine WL_val (dd := some 19) rfl rfl rfl (r_move (v := .int .i64 _) rfl) ?_
  refine WL_val (dd := some 20) rfl rfl rfl (r_move (v := .int .i64 _) rfl) ?_
  refine WL_callG (dd := some 21) rfl rfl rfl (r_call5 tb_c100 (v0 := .pointer (some ⟨bw, 0, none⟩)) rfl (v1 := .int .i64 _) rfl (v2 := .int .i64 _) rfl (v3 := .int .i64 0) rfl (v4 := .bool false) rfl) (WalkAll 25 false N ba bm bz bw bd R ns 0 [] f g 0 _ (Nat.le_trans hN0 (Below.size hB)) hz hD hw low hdn lod hdm hf hg (by omega) (fun _ => Nat.zero_le _) (fun _ => Nat.zero_le _) (fun _ => DoneW.nil) (by omega)) (fun v4_4 W20 hP4_4 => ?_)
  obtain ⟨ns4_4, e4_4, id4_4, dl4_4, rfl, hx4_4, hz4_4, hD4_4, hw4_4, hdn4_4, hp4_4, hdone4_4⟩ := hP4_4
  replace hX := Dx.new2 hX hnw hnd hx4_4.dx
  replace hB := Below.dx hB (Nat.le_refl _) hN0 hx4_4.dx
  try clear ho1_3
  replace hz := hz4_4
  replace hD := hD4_4
  replace hw := hw4_4
  replace hdn := hdn4_4
  refine WL_call (dd := some 22) rfl rfl rfl (r_call2 tb_c99 (v0 := .pointer (some ⟨bw, 0, none⟩)) rfl (v1 := .int .i64 _) rfl) (C___family_work__end bw bz bd e4_4 id4_4 _ hw) (fun v4_5 W22 hE23 hP4_5 => ?_)
  have hsz24 := (Nat.le_trans hN0 (Below.size hB))
  replace hz := hE23.at hz
  replace hD := Dia.ext hE23 hD
  replace hX := Dx.trans hX (Dx.ext hE23)
  replace hB := below_ext hB hE23 hN0
  replace hw := hE23.at hw
  replace hdn := hE23.mapT hdn
  clear hE23
  obtain rfl := hP4_5
  clear hsz24
  refine WL_val (dd := some 23) rfl rfl rfl (r_ext2_0 (h := rfl)) ?_
  refine WL_val (dd := some 24) rfl rfl rfl (r_ext2_1 (h := rfl)) ?_
  refine WL_val (dd := some 6) rfl rfl rfl (r_assign (v := .int .i64 _) rfl) ?_
  refine WL_val (dd := some 7) rfl rfl rfl (r_assign (v := .int .i64 _) rfl) ?_
  refine WL_nil ?_
  refine hK19 _ _ ?_
  clear hK19 K18
  refine WC_ret ?_
  repeat (first | refine thenQ_ret ?_ | refine blockQ_ret ?_)
  refine ret_tt (v := .int .i64 _) rfl (v1 := .int .i64 _) rfl ?_
  exact ⟨_, _, _, rfl, hX, hD, abw_end hp4_4⟩

end Go.Proofs.Ytpamgfbecgjjeaa
