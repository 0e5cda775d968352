/-
  The walks of building, of parts, of what holds none, of the least, and of counting.
-/
import Derived.Test.YtpamgfbecgjjeaaProg
import Derived.Test.YtpamgfbecgjjeaaWZdd2
import Derived.Test.YtpamgfbecgjjeaaZ1
namespace Go.Proofs.Ytpamgfbecgjjeaa
set_option linter.unusedVariables false
set_option linter.unusedSimpArgs false
open Go Go.RowKit

theorem tb_c76 : callB Try.prog 76 = true := by kernel_rfl
theorem tb_c39 : callB Try.prog 39 = true := by kernel_rfl

def BuildAt (n : Nat) : Prop := ∀ (N ba bm bz R : Nat) (ns : List Nd) (xl : Value) (l : List Int) (lv : Nat) (w : World), (N ≤ w.heap.size) → (At w bz #[.pointer (some ⟨ba, 0, none⟩)] 100) → (Dia 147 150 N ba bm R w ns) → (SlT encI 1 w xl l) → (∀ m, m ∈ l → 0 ≤ m ∧ m < 16777216) → (l.length ≤ 1000000) → (lv ≤ 24) → 25 - lv ≤ n →
  FnG Try.prog 76 #[.pointer (some ⟨bz, 0, none⟩), xl, .int .i64 (lv : Int)] w fun v w' => PO 147 150 N ba bm R w ns (bcL lv l) (lv) (bS l lv) v w'

set_option maxRecDepth 10000 in
theorem C_build (n : Nat) (N ba bm bz R : Nat) (ns : List Nd) (xl : Value) (l : List Int) (lv : Nat) (w : World) (ih : BuildAt n) (hN0 : N ≤ w.heap.size) (hz : At w bz #[.pointer (some ⟨ba, 0, none⟩)] 100) (hD : Dia 147 150 N ba bm R w ns) (hl : SlT encI 1 w xl l) (hm : ∀ m, m ∈ l → 0 ≤ m ∧ m < 16777216) (hll : l.length ≤ 1000000) (hlv : lv ≤ 24) (hn : 25 - lv ≤ n + 1) :
    FnG Try.prog 76 #[.pointer (some ⟨bz, 0, none⟩), xl, .int .i64 (lv : Int)] w fun v w' => PO 147 150 N ba bm R w ns (bcL lv l) (lv) (bS l lv) v w' := by
 refine FnG_intro (n := 71) Try.func76 rfl rfl (Nat.le_of_ble_eq_true rfl) ?_
 have hB : Below N w w := Below.refl _ _
 have hX : Dx 150 N [ba, bm] w w := Dx.refl
 have hwf := hD.wf
 have hroom := hD.room
 have htop := hD.top
 refine WC_seq (fun K1 hK2 => ?_)
 refine WC_region ?_
 refine WL_val (dd := some 6) rfl rfl rfl (r_assign (v := .int .i64 0) rfl) ?_
 refine WL_val (dd := some 7) rfl rfl rfl (r_assign (v := .int .i64 0) rfl) ?_
 refine WL_nil ?_
 refine hK2 _ _ ?_
 clear hK2 K1
 refine WC_seq (fun K3 hK4 => ?_)
 refine WC_block ?_
 refine WC_seq (fun K5 hK6 => ?_)
 refine WC_region ?_
 refine WL_val (dd := some 16) rfl rfl rfl (r_move (v := xl) rfl) ?_
 refine WL_val (dd := some 17) rfl rfl rfl (r_lenS (v := xl) rfl hl tb_el22) ?_
 refine WL_val (dd := some 18) rfl rfl rfl (r_eql rfl rfl) ?_
 refine WL_val (dd := some 15) rfl rfl rfl (r_assign (v := .bool _) rfl) ?_
 refine WL_nil ?_
 refine hK6 _ _ ?_
 clear hK6 K5
 refine WC_cond (b := _) rfl (fun hc0 => ?_) (fun hc0 => ?_)
 ·
  try with_reducible replace hc0 := of_decide_eq_true hc0
  refine WC_seq (fun K7 hK8 => ?_)
  refine WC_region ?_
  refine WL_val (dd := some 6) rfl rfl rfl (r_assign (v := .int .i64 0) rfl) ?_
  refine WL_val (dd := some 7) rfl rfl rfl (r_assign (v := .int .i64 0) rfl) ?_
  refine WL_nil ?_
  refine hK8 _ _ ?_
  clear hK8 K7
  refine WC_ret ?_
  repeat (first | refine thenQ_ret ?_ | refine blockQ_ret ?_)
  try clear hK4 K3
  refine ret_tt (v := .int .i64 0) rfl (v1 := .int .i64 0) rfl ?_
  exact ⟨ns, 0, 0, rfl, hX, hD, Got.same (by omega) (by rw [lvl0]; exact hlv) (build_0 (by omega))⟩
 ·
  try with_reducible replace hc0 := of_decide_eq_false hc0
  refine WC_seq (fun K9 hK10 => ?_)
  refine WC_region ?_
  refine WL_val (dd := some 20) rfl rfl rfl (r_move (v := .int .i64 _) rfl) ?_
  refine WL_val (dd := some 21) rfl rfl rfl (r_eql rfl rfl) ?_
  refine WL_val (dd := some 19) rfl rfl rfl (r_assign (v := .bool _) rfl) ?_
  refine WL_nil ?_
  refine hK10 _ _ ?_
  clear hK10 K9
  refine WC_cond (b := _) rfl (fun hc1 => ?_) (fun hc1 => ?_)
  ·
   try with_reducible replace hc1 := of_decide_eq_true hc1
   refine WC_seq (fun K11 hK12 => ?_)
   refine WC_region ?_
   refine WL_val (dd := some 6) rfl rfl rfl (r_assign (v := .int .i64 1) rfl) ?_
   refine WL_val (dd := some 7) rfl rfl rfl (r_assign (v := .int .i64 0) rfl) ?_
   refine WL_nil ?_
   refine hK12 _ _ ?_
   clear hK12 K11
   refine WC_ret ?_
   repeat (first | refine thenQ_ret ?_ | refine blockQ_ret ?_)
   try clear hK4 K3
   refine ret_tt (v := .int .i64 1) rfl (v1 := .int .i64 0) rfl ?_
   obtain rfl : lv = 24 := by omega
   exact ⟨ns, 1, 0, rfl, hX, hD, Got.same (by omega) (by rw [lvl_small (by decide)]; exact hlv) (build_1 (by omega) hm)⟩
  ·
   try with_reducible replace hc1 := of_decide_eq_false hc1
   refine WC_skip ?_
   refine hK4 _ _ ?_
   clear hK4 K3
   refine WC_seq (fun K13 hK14 => ?_)
   have hBo15 := hB
   replace hB := Below.refl w.heap.size w
   have hne : 1 ≤ l.length := by omega
   have h24 : lv < 24 := by omega
   refine WC_region ?_
   refine WL_val (dd := some 8) rfl rfl rfl (r_assign (v := .slice none 0 0) rfl) ?_
   refine WL_val (dd := some 9) rfl rfl rfl (r_assign (v := .slice none 0 0) rfl) ?_
   refine WL_nil ?_
   refine hK14 _ _ ?_
   clear hK14 K13
   refine WC_seq (fun K16 hK17 => ?_)
   refine WC_seq (fun K18 hK19 => ?_)
   refine WC_region ?_
   refine WL_val (dd := some 22) rfl rfl rfl (r_move (v := xl) rfl) ?_
   refine WL_val (dd := some 23) rfl rfl rfl (r_lenS (v := xl) rfl (Below.slT hB hl) tb_el22) ?_
   refine WL_val (dd := some 24) rfl rfl rfl (r_move (v := .int .i64 0) rfl) ?_
   refine WL_nil ?_
   refine hK19 _ _ ?_
   clear hK19 K18
   refine WC_block ?_
   refine WC_loop (σ := (Nat) × (Value) × (Value)) [8, 9, 11, 24, 25, 26, 27, 28, 29, 30, 31, 32, 33, 34, 35, 36, 37, 38, 39, 40, 41] (fun (k, v0, v1) => [(24, .int .i64 (k : Int)), (8, v0), (9, v1)]) (fun sg W => match sg with | (k, v0, v1) => (Below w.heap.size w W) ∧ (OwT encI 1 3 W w.heap.size v0 (woT l lv k)) ∧ (OwT encI 1 3 W w.heap.size v1 (wiT l lv k)) ∧ (Apart v0 v1) ∧ (k ≤ l.length) ∧ (True)) (fun (k, v0, v1) => l.length - k) ((0, .slice none 0 0, .slice none 0 0)) ⟨rfl, rfl, rfl, trivial⟩ ⟨hB, OwT.nil, OwT.nil, Apart.nilL, (Nat.zero_le _), trivial⟩ ?_
   clear hB
   rintro ⟨k, v0, v1⟩ g21 W20 ⟨hB, ho, hoo, hap, hk, _⟩ J22 hJ23
   refine WC_seq (fun K24 hK25 => ?_)
   refine WC_region ?_
   refine WL_val (dd := some 25) rfl rfl rfl (r_lss rfl rfl) ?_
   refine WL_nil ?_
   refine hK25 _ _ ?_
   clear hK25 K24
   refine WC_seq (fun K26 hK27 => ?_)
   refine WC_cond (b := _) rfl (fun hc2 => ?_) (fun hc2 => ?_)
   ·
    try with_reducible replace hc2 := of_decide_eq_true hc2
    refine WC_skip ?_
    refine hK27 _ _ ?_
    clear hK27 K26
    refine WC_seq (fun K28 hK29 => ?_)
    refine WC_block ?_
    refine WC_seq (fun K30 hK31 => ?_)
    refine WC_region ?_
    refine WL_val (dd := some 26) rfl rfl rfl (r_idxS (v := xl) rfl (Below.slT hB hl) rfl tb_el22 (by omega) (by omega)) ?_
    refine WL_val (dd := some 27) rfl rfl rfl (r_load1 (v := .int .i64 _) rfl tb_sc3 (SlT.cell (Below.slT hB hl) encI_len 0 (by omega) (by omega) 0 rfl)) ?_
    refine WL_val (dd := some 11) rfl rfl rfl (r_assign (v := .int .i64 _) rfl) ?_
    refine WL_nil ?_
    refine hK31 _ _ ?_
    clear hK31 K30
    refine WC_seq (fun K32 hK33 => ?_)
    obtain ⟨hm0, hm1⟩ := hm (l.getD k 0) (getD_mem (by omega))
    have hbl : (l.getD k 0).toNat < 9223372036854775808 := by omega
    have hwl := wo_len l lv k
    rw [List.length_take] at hwl
    refine WC_region ?_
    refine WL_val (dd := some 28) rfl rfl rfl (r_move (v := .int .i64 _) rfl) ?_
    refine WL_val (dd := some 29) rfl rfl rfl (r_move (v := .int .i64 _) rfl) ?_
    refine WL_val (dd := some 30) rfl rfl rfl (r_shrI rfl rfl hm0 (by omega) (by omega)) ?_
    refine WL_val (dd := some 31) rfl rfl rfl (r_and (n := 1) rfl rfl rfl (by exact Nat.lt_of_le_of_lt (Nat.div_le_self _ _) hbl) (by decide)) ?_
    refine WL_val (dd := some 32) rfl rfl rfl (r_eql rfl rfl) ?_
    refine WL_nil ?_
    refine hK33 _ _ ?_
    clear hK33 K32
    refine WC_cond (b := _) rfl (fun hc3 => ?_) (fun hc3 => ?_)
    ·
     try with_reducible replace hc3 := of_decide_eq_true hc3
     have hbt : (l.getD k 0).toNat.testBit lv = true := and1_bit.1 hc3
     refine WC_region ?_
     refine WL_val (dd := some 33) rfl rfl rfl (r_move (v := v1) rfl) ?_
     refine WL_val (dd := some 34) rfl rfl rfl (r_move (v := .int .i64 _) rfl) ?_
     refine WL_step (dd := some 35) rfl rfl rfl (Y_lit1 (u := .int .i64 _) rfl tb_el22 tb_zs3 rfl (by decide) (by decide) (fun b10_2 W34 hb35 hE36 hm10_2 => ?_))
     have lo_b10_2 : w.heap.size ≤ b10_2 := hb35 ▸ (Below.size hB)
     have no_v0_b10_2 := OwT.neB (b := b10_2) ho (Nat.le_of_eq hb35.symm)
     have no_v1_b10_2 := OwT.neB (b := b10_2) hoo (Nat.le_of_eq hb35.symm)
     clear hb35
     replace hB := below_ext hB hE36 (Nat.le_refl _)
     replace ho := hE36.ow ho
     replace hoo := hE36.ow hoo
     clear hE36
     refine WL_step (dd := some 36) rfl rfl rfl (Y_appendA (v := v1) (v2 := .slice (some ⟨b10_2, 0, none⟩) 1 1) rfl rfl tb_el22 tb_zs3 (by decide) hoo (sl_lit1 hm10_2 rfl) rfl (by have := Below.size hB; omega) (by first | omega | (simp; omega)) (by first | omega | (simp; omega)) (fun v10_3 W37 hG38 ho10_3 hob39 => ?_))
     have hap40 := Apart.app (Apart.symm hap) hob39 ho
     replace ho10_3 := OwT.snoc (enc := encI) (x := (l.getD k 0)) rfl rfl rfl rfl ho10_3
     clear hm10_2
     replace hB := below_grown hB hG38 (Nat.le_refl _) (fun j hj => (OwT.lt hoo j hj))
     replace ho := OwT.grownAp ho (Apart.symm hap) hG38
     clear hG38
     clear hoo
     refine WL_val (dd := some 9) rfl rfl rfl (r_assign (v := v10_3) rfl) ?_
     refine WL_nil ?_
     refine hK29 _ _ ?_
     clear hK29 K28
     refine WC_region ?_
     refine WL_val (dd := some 41) rfl rfl rfl (r_addI rfl rfl (by omega) (by omega)) ?_
     refine WL_val (dd := some 24) rfl rfl rfl (r_move (v := .int .i64 _) rfl) ?_
     refine WL_nil ?_
     refine hJ23 _ _ ((k + 1, v0, v10_3)) ?_ ?_ ?_ ?_
     · repeat (first | exact agree.mask _ _ _ | refine agree.updo ?_ rfl _ | refine agree.updL ?_ _ rfl | refine agree.maskS rfl ?_)
     · exact ⟨rfl, rfl, rfl, trivial⟩
     · exact ⟨hB, (by first | (rw [← (wi_t (by omega) hbt).2]; exact ho) | (rw [← (wi_f (by omega) hbt).1]; exact ho)), (by first | (rw [← (wi_t (by omega) hbt).1]; exact ho10_3) | (rw [← (wi_f (by omega) hbt).2]; exact ho10_3)), (Apart.symm hap40), (by omega), trivial⟩
     · show l.length - (k + 1) < l.length - k; omega
    ·
     try with_reducible replace hc3 := of_decide_eq_false hc3
     have hbt : ¬ (l.getD k 0).toNat.testBit lv = true := fun q => hc3 (and1_bit.2 q)
     refine WC_region ?_
     refine WL_val (dd := some 37) rfl rfl rfl (r_move (v := v0) rfl) ?_
     refine WL_val (dd := some 38) rfl rfl rfl (r_move (v := .int .i64 _) rfl) ?_
     refine WL_step (dd := some 39) rfl rfl rfl (Y_lit1 (u := .int .i64 _) rfl tb_el22 tb_zs3 rfl (by decide) (by decide) (fun b11_2 W41 hb42 hE43 hm11_2 => ?_))
     have lo_b11_2 : w.heap.size ≤ b11_2 := hb42 ▸ (Below.size hB)
     have no_v0_b11_2 := OwT.neB (b := b11_2) ho (Nat.le_of_eq hb42.symm)
     have no_v1_b11_2 := OwT.neB (b := b11_2) hoo (Nat.le_of_eq hb42.symm)
     clear hb42
     replace hB := below_ext hB hE43 (Nat.le_refl _)
     replace ho := hE43.ow ho
     replace hoo := hE43.ow hoo
     clear hE43
     refine WL_step (dd := some 40) rfl rfl rfl (Y_appendA (v := v0) (v2 := .slice (some ⟨b11_2, 0, none⟩) 1 1) rfl rfl tb_el22 tb_zs3 (by decide) ho (sl_lit1 hm11_2 rfl) rfl (by have := Below.size hB; omega) (by first | omega | (simp; omega)) (by first | omega | (simp; omega)) (fun v11_3 W44 hG45 ho11_3 hob46 => ?_))
     have hap47 := Apart.app hap hob46 hoo
     replace ho11_3 := OwT.snoc (enc := encI) (x := (l.getD k 0)) rfl rfl rfl rfl ho11_3
     clear hm11_2
     replace hB := below_grown hB hG45 (Nat.le_refl _) (fun j hj => (OwT.lt ho j hj))
     replace hoo := OwT.grownAp hoo hap hG45
     clear hG45
     clear ho
     refine WL_val (dd := some 8) rfl rfl rfl (r_assign (v := v11_3) rfl) ?_
     refine WL_nil ?_
     refine hK29 _ _ ?_
     clear hK29 K28
     refine WC_region ?_
     refine WL_val (dd := some 41) rfl rfl rfl (r_addI rfl rfl (by omega) (by omega)) ?_
     refine WL_val (dd := some 24) rfl rfl rfl (r_move (v := .int .i64 _) rfl) ?_
     refine WL_nil ?_
     refine hJ23 _ _ ((k + 1, v11_3, v1)) ?_ ?_ ?_ ?_
     · repeat (first | exact agree.mask _ _ _ | refine agree.updo ?_ rfl _ | refine agree.updL ?_ _ rfl | refine agree.maskS rfl ?_)
     · exact ⟨rfl, rfl, rfl, trivial⟩
     · exact ⟨hB, (by first | (rw [← (wi_t (by omega) hbt).2]; exact ho11_3) | (rw [← (wi_f (by omega) hbt).1]; exact ho11_3)), (by first | (rw [← (wi_t (by omega) hbt).1]; exact hoo) | (rw [← (wi_f (by omega) hbt).2]; exact hoo)), hap47, (by omega), trivial⟩
     · show l.length - (k + 1) < l.length - k; omega
   ·
    try with_reducible replace hc2 := of_decide_eq_false hc2
    refine WC_exit ?_
    refine hK17 _ _ ?_
    clear hK27 K26
    clear hJ23 J22
    clear hK17 K16
    refine WC_seq (fun K48 hK49 => ?_)
    replace hz := Below.atI hB hz
    replace hD := Dia.below hB hD
    replace hX := Dx.trans hX (Dx.below hB)
    clear hl
    have hzs := Nat.le_trans hN0 (Below.size hBo15)
    replace ho := OwT.mono ho hzs
    replace hoo := OwT.mono hoo hzs
    replace hB := Below.trans hBo15 (Below.mono hB hzs)
    clear hBo15 hzs
    obtain rfl : k = l.length := by omega
    have hwl := wo_len l lv l.length
    rw [List.take_length] at hwl
    have hbc := build_c1 (l := l) h24
    refine WC_region ?_
    refine WL_val (dd := some 43) rfl rfl rfl (r_move (v := .pointer (some ⟨bz, 0, none⟩)) rfl) ?_
    refine WL_val (dd := some 44) rfl rfl rfl (r_move (v := v0) rfl) ?_
    refine WL_val (dd := some 45) rfl rfl rfl (r_move (v := .int .i64 _) rfl) ?_
    refine WL_val (dd := some 46) rfl rfl rfl (r_addI rfl rfl (by omega) (by omega)) ?_
    refine WL_callG (dd := some 47) rfl rfl rfl (r_call3 tb_c76 (v0 := .pointer (some ⟨bz, 0, none⟩)) rfl (v1 := v0) rfl (v2 := .int .i64 _) rfl) (ih N ba bm bz R ns _ (woT l lv l.length) (lv + 1) _ (Nat.le_trans hN0 (Below.size hB)) hz hD ho.sl (fun m h => hm m (wo_mem h)) (by omega) (by omega) (by omega)) (fun v13_4 W50 hP13_4 => ?_)
    obtain ⟨ns13_4, id13_4, er13_4, rfl, hx13_4, hDn13_4, hg13_4⟩ := hP13_4
    replace hz := At.dx hD hx13_4 hz (by decide) (by decide)
    replace hX := Dx.trans hX (hx13_4)
    replace hB := Below.dx hB (Nat.le_refl _) hN0 hx13_4
    replace ho := OwT.dx hD hx13_4 ho (by decide) (by decide)
    replace hoo := OwT.dx hD hx13_4 hoo (by decide) (by decide)
    replace hD := hDn13_4
    refine WL_val (dd := some 42) rfl rfl rfl (r_move (v := .tuple #[.int .i64 (id13_4 : Int), .int .i64 er13_4]) rfl) ?_
    refine WL_val (dd := some 48) rfl rfl rfl (r_ext2_0 (h := rfl)) ?_
    refine WL_val (dd := some 49) rfl rfl rfl (r_ext2_1 (h := rfl)) ?_
    refine WL_val (dd := some 12) rfl rfl rfl (r_assign (v := .int .i64 _) rfl) ?_
    refine WL_val (dd := some 13) rfl rfl rfl (r_assign (v := .int .i64 _) rfl) ?_
    refine WL_nil ?_
    refine hK49 _ _ ?_
    clear hK49 K48
    refine WC_seq (fun K52 hK53 => ?_)
    refine WC_seq (fun K54 hK55 => ?_)
    refine WC_region ?_
    refine WL_val (dd := some 50) rfl rfl rfl (r_move (v := .int .i64 _) rfl) ?_
    refine WL_val (dd := some 51) rfl rfl rfl (r_neq rfl rfl) ?_
    refine WL_nil ?_
    refine hK55 _ _ ?_
    clear hK55 K54
    refine WC_cond (b := _) rfl (fun hc4 => ?_) (fun hc4 => ?_)
    ·
     try with_reducible replace hc4 := of_decide_eq_true hc4
     refine WC_seq (fun K56 hK57 => ?_)
     refine WC_region ?_
     refine WL_val (dd := some 52) rfl rfl rfl (r_move (v := .int .i64 _) rfl) ?_
     refine WL_val (dd := some 6) rfl rfl rfl (r_assign (v := .int .i64 0) rfl) ?_
     refine WL_val (dd := some 7) rfl rfl rfl (r_assign (v := .int .i64 _) rfl) ?_
     refine WL_nil ?_
     refine hK57 _ _ ?_
     clear hK57 K56
     refine WC_ret ?_
     repeat (first | refine thenQ_ret ?_ | refine blockQ_ret ?_)
     try clear hK53 K52
     refine ret_tt (v := .int .i64 0) rfl (v1 := .int .i64 _) rfl ?_
     exact ⟨_, 0, _, rfl, hX, hD, hg13_4.fail hc4 (by omega)⟩
    ·
     try with_reducible replace hc4 := of_decide_eq_false hc4
     refine WC_skip ?_
     refine hK53 _ _ ?_
     clear hK53 K52
     refine WC_seq (fun K58 hK59 => ?_)
     have he : er13_4 = 0 := Decidable.of_not_not hc4
     subst he
     refine WC_region ?_
     refine WL_val (dd := some 54) rfl rfl rfl (r_move (v := .pointer (some ⟨bz, 0, none⟩)) rfl) ?_
     refine WL_val (dd := some 55) rfl rfl rfl (r_move (v := v1) rfl) ?_
     refine WL_val (dd := some 56) rfl rfl rfl (r_move (v := .int .i64 _) rfl) ?_
     refine WL_val (dd := some 57) rfl rfl rfl (r_addI rfl rfl (by omega) (by omega)) ?_
     refine WL_callG (dd := some 58) rfl rfl rfl (r_call3 tb_c76 (v0 := .pointer (some ⟨bz, 0, none⟩)) rfl (v1 := v1) rfl (v2 := .int .i64 _) rfl) (ih N ba bm bz R ns13_4 _ (wiT l lv l.length) (lv + 1) _ (Nat.le_trans hN0 (Below.size hB)) hz hD hoo.sl (fun m h => hm m (wi_mem h)) (by omega) (by omega) (by omega)) (fun v16_4 W60 hP16_4 => ?_)
     obtain ⟨ns16_4, id16_4, er16_4, rfl, hx16_4, hDn16_4, hg16_4⟩ := hP16_4
     replace hz := At.dx hD hx16_4 hz (by decide) (by decide)
     replace hX := Dx.trans hX (hx16_4)
     replace hB := Below.dx hB (Nat.le_refl _) hN0 hx16_4
     replace ho := OwT.dx hD hx16_4 ho (by decide) (by decide)
     replace hoo := OwT.dx hD hx16_4 hoo (by decide) (by decide)
     replace hD := hDn16_4
     refine WL_val (dd := some 53) rfl rfl rfl (r_move (v := .tuple #[.int .i64 (id16_4 : Int), .int .i64 er16_4]) rfl) ?_
     refine WL_val (dd := some 59) rfl rfl rfl (r_ext2_0 (h := rfl)) ?_
     refine WL_val (dd := some 60) rfl rfl rfl (r_ext2_1 (h := rfl)) ?_
     refine WL_val (dd := some 14) rfl rfl rfl (r_assign (v := .int .i64 _) rfl) ?_
     refine WL_val (dd := some 13) rfl rfl rfl (r_assign (v := .int .i64 _) rfl) ?_
     refine WL_nil ?_
     refine hK59 _ _ ?_
     clear hK59 K58
     refine WC_seq (fun K62 hK63 => ?_)
     refine WC_seq (fun K64 hK65 => ?_)
     refine WC_region ?_
     refine WL_val (dd := some 61) rfl rfl rfl (r_move (v := .int .i64 _) rfl) ?_
     refine WL_val (dd := some 62) rfl rfl rfl (r_neq rfl rfl) ?_
     refine WL_nil ?_
     refine hK65 _ _ ?_
     clear hK65 K64
     refine WC_cond (b := _) rfl (fun hc5 => ?_) (fun hc5 => ?_)
     ·
      try with_reducible replace hc5 := of_decide_eq_true hc5
      refine WC_seq (fun K66 hK67 => ?_)
      refine WC_region ?_
      refine WL_val (dd := some 63) rfl rfl rfl (r_move (v := .int .i64 _) rfl) ?_
      refine WL_val (dd := some 6) rfl rfl rfl (r_assign (v := .int .i64 0) rfl) ?_
      refine WL_val (dd := some 7) rfl rfl rfl (r_assign (v := .int .i64 _) rfl) ?_
      refine WL_nil ?_
      refine hK67 _ _ ?_
      clear hK67 K66
      refine WC_ret ?_
      repeat (first | refine thenQ_ret ?_ | refine blockQ_ret ?_)
      try clear hK63 K62
      refine ret_tt (v := .int .i64 0) rfl (v1 := .int .i64 _) rfl ?_
      exact ⟨_, 0, _, rfl, hX, hD, hg13_4.fail2 hg16_4 hc5 (by omega)⟩
     ·
      try with_reducible replace hc5 := of_decide_eq_false hc5
      refine WC_skip ?_
      refine hK63 _ _ ?_
      clear hK63 K62
      refine WC_seq (fun K68 hK69 => ?_)
      have he : er16_4 = 0 := Decidable.of_not_not hc5
      subst he
      have hw16 := hD.wf
      obtain ⟨v1, v1l, _⟩ := hg13_4.ok rfl
      obtain ⟨p1, _, p3⟩ := hg16_4.old v1
      obtain ⟨q1, q2, _⟩ := hg16_4.ok rfl
      refine WC_region ?_
      refine WL_val (dd := some 64) rfl rfl rfl (r_move (v := .pointer (some ⟨bz, 0, none⟩)) rfl) ?_
      refine WL_val (dd := some 65) rfl rfl rfl (r_move (v := .int .i64 _) rfl) ?_
      refine WL_val (dd := some 66) rfl rfl rfl (r_move (v := .int .i64 _) rfl) ?_
      refine WL_val (dd := some 67) rfl rfl rfl (r_move (v := .int .i64 _) rfl) ?_
      refine WL_callG (dd := some 68) rfl rfl rfl (r_call4 tb_c121 (v0 := .pointer (some ⟨bz, 0, none⟩)) rfl (v1 := .int .i64 _) rfl (v2 := .int .i64 _) rfl (v3 := .int .i64 _) rfl) (C___zdd_Zdd__node N ba bm bz R ns16_4 lv id13_4 id16_4 _ (Nat.le_trans hN0 (Below.size hB)) hz hD p1 q1 (by omega) (by omega) h24) (fun v19_4 W70 hP19_4 => ?_)
      obtain ⟨ns19_4, id19_4, er19_4, rfl, hx19_4, hDn19_4, hg19_4⟩ := hP19_4
      replace hz := At.dx hD hx19_4 hz (by decide) (by decide)
      replace hX := Dx.trans hX (hx19_4)
      replace hB := Below.dx hB (Nat.le_refl _) hN0 hx19_4
      replace ho := OwT.dx hD hx19_4 ho (by decide) (by decide)
      replace hoo := OwT.dx hD hx19_4 hoo (by decide) (by decide)
      replace hD := hDn19_4
      refine WL_val (dd := some 69) rfl rfl rfl (r_ext2_0 (h := rfl)) ?_
      refine WL_val (dd := some 70) rfl rfl rfl (r_ext2_1 (h := rfl)) ?_
      refine WL_val (dd := some 6) rfl rfl rfl (r_assign (v := .int .i64 _) rfl) ?_
      refine WL_val (dd := some 7) rfl rfl rfl (r_assign (v := .int .i64 _) rfl) ?_
      refine WL_nil ?_
      refine hK69 _ _ ?_
      clear hK69 K68
      refine WC_ret ?_
      repeat (first | refine thenQ_ret ?_ | refine blockQ_ret ?_)
      refine ret_tt (v := .int .i64 _) rfl (v1 := .int .i64 _) rfl ?_
      exact ⟨_, _, _, rfl, hX, hD, build_got hw16 h24 hne hg13_4 hg16_4 hg19_4⟩

theorem BuildAll : ∀ n, BuildAt n
  | 0 => fun N ba bm bz R ns xl l lv w _ _ _ _ _ _ hlv hn => by omega
  | n + 1 => fun N ba bm bz R ns xl l lv w => C_build n N ba bm bz R ns xl l lv w (BuildAll n)

theorem C___zdd_Zdd__Of (N ba bm bz R : Nat) (ns : List Nd) (xl : Value) (l : List Int) (w : World) (hN0 : N ≤ w.heap.size) (hz : At w bz #[.pointer (some ⟨ba, 0, none⟩)] 100) (hD : Dia 147 150 N ba bm R w ns) (hl : SlT encI 1 w xl l) (hll : l.length ≤ 1000000) :
    FnG Try.prog 32 #[.pointer (some ⟨bz, 0, none⟩), xl] w fun v w' => PE 147 150 N ba bm R w ns (ofZB l) (bcL 0 l) (0) (bS l 0) v w' := by
 refine FnG_intro (n := 28) Try.func32 rfl rfl (Nat.le_of_ble_eq_true rfl) ?_
 have hB : Below N w w := Below.refl _ _
 have hX : Dx 150 N [ba, bm] w w := Dx.refl
 have hwf := hD.wf
 have hroom := hD.room
 have htop := hD.top
 refine WC_seq (fun K1 hK2 => ?_)
 refine WC_region ?_
 refine WL_val (dd := some 4) rfl rfl rfl (r_assign (v := .int .i64 0) rfl) ?_
 refine WL_val (dd := some 5) rfl rfl rfl (r_assign (v := .int .i64 0) rfl) ?_
 refine WL_nil ?_
 refine hK2 _ _ ?_
 clear hK2 K1
 refine WC_seq (fun K3 hK4 => ?_)
 refine WC_seq (fun K5 hK6 => ?_)
 refine WC_region ?_
 refine WL_val (dd := some 8) rfl rfl rfl (r_move (v := .pointer (some ⟨bz, 0, none⟩)) rfl) ?_
 refine WL_val (dd := some 9) rfl rfl rfl (r_ptrNil rfl rfl Try.underlying24) ?_
 refine WL_nil ?_
 refine hK6 _ _ ?_
 clear hK6 K5
 refine WC_cond_false rfl ?_
 refine WC_skip ?_
 refine hK4 _ _ ?_
 clear hK4 K3
 refine WC_seq (fun K7 hK8 => ?_)
 refine WC_seq (fun K9 hK10 => ?_)
 refine WC_region ?_
 refine WL_val (dd := some 10) rfl rfl rfl (r_move (v := xl) rfl) ?_
 refine WL_val (dd := some 11) rfl rfl rfl (r_lenS (v := xl) rfl hl tb_el22) ?_
 refine WL_val (dd := some 12) rfl rfl rfl (r_move (v := .int .i64 0) rfl) ?_
 refine WL_nil ?_
 refine hK10 _ _ ?_
 clear hK10 K9
 refine WC_block ?_
 refine WC_loop (σ := (Nat)) [4, 5, 7, 12, 13, 14, 15, 16, 17, 18, 19, 20, 21, 22] (fun k => [(12, .int .i64 (k : Int))]) (fun k W => (At W bz _ 100) ∧ (Dia 147 150 N ba bm R W ns) ∧ (Dx 150 N [ba, bm] w W) ∧ (SlT encI 1 W xl _) ∧ (Below N w W) ∧ (k ≤ l.length) ∧ (∀ q, q < k → 0 ≤ l.getD q 0 ∧ l.getD q 0 < 16777216) ∧ (True)) (fun k => l.length - k) (0) ⟨rfl, trivial⟩ ⟨hz, hD, hX, hl, hB, (Nat.zero_le _), upTo_zero, trivial⟩ ?_
 clear hz hD hX hl hB
 rintro k g12 W11 ⟨hz, hD, hX, hl, hB, hk, hq, _⟩ J13 hJ14
 refine WC_seq (fun K15 hK16 => ?_)
 refine WC_region ?_
 refine WL_val (dd := some 13) rfl rfl rfl (r_lss rfl rfl) ?_
 refine WL_nil ?_
 refine hK16 _ _ ?_
 clear hK16 K15
 refine WC_seq (fun K17 hK18 => ?_)
 refine WC_cond (b := _) rfl (fun hc1 => ?_) (fun hc1 => ?_)
 ·
  try with_reducible replace hc1 := of_decide_eq_true hc1
  refine WC_skip ?_
  refine hK18 _ _ ?_
  clear hK18 K17
  refine WC_seq (fun K19 hK20 => ?_)
  refine WC_block ?_
  refine WC_seq (fun K21 hK22 => ?_)
  refine WC_region ?_
  refine WL_val (dd := some 14) rfl rfl rfl (r_idxS (v := xl) rfl hl rfl tb_el22 (by omega) (by omega)) ?_
  refine WL_val (dd := some 15) rfl rfl rfl (r_load1 (v := .int .i64 _) rfl tb_sc3 (SlT.cell hl encI_len 0 (by omega) (by omega) 0 rfl)) ?_
  refine WL_val (dd := some 7) rfl rfl rfl (r_assign (v := .int .i64 _) rfl) ?_
  refine WL_nil ?_
  refine hK22 _ _ ?_
  clear hK22 K21
  refine WC_seq (fun K23 hK24 => ?_)
  refine WC_region ?_
  refine WL_val (dd := some 16) rfl rfl rfl (r_move (v := .int .i64 _) rfl) ?_
  refine WL_val (dd := some 17) rfl rfl rfl (r_lss rfl rfl) ?_
  refine WL_split (dd := some 18) rfl rfl rfl (r_move (v := .bool _) rfl) (fun hs6_2 => ?_) (fun hs6_2 => ?_)
  ·
   try with_reducible replace hs6_2 := of_decide_eq_true hs6_2
   refine WL_skip (dd := some 19) rfl rfl rfl ?_
   refine WL_skip (dd := some 20) rfl rfl rfl ?_
   refine WL_val (dd := some 21) rfl rfl rfl (r_pick_t rfl (v := .bool true) rfl) ?_
   refine WL_nil ?_
   refine hK24 _ _ ?_
   clear hK24 K23
   refine WC_cond_true rfl ?_
   refine WC_seq (fun K25 hK26 => ?_)
   refine WC_region ?_
   refine WL_val (dd := some 4) rfl rfl rfl (r_assign (v := .int .i64 0) rfl) ?_
   refine WL_val (dd := some 5) rfl rfl rfl (r_assign (v := .int .i64 1) rfl) ?_
   refine WL_nil ?_
   refine hK26 _ _ ?_
   clear hK26 K25
   refine WC_ret ?_
   repeat (first | refine thenQ_ret ?_ | refine blockQ_ret ?_)
   try clear hK20 K19
   try clear hJ14 J13
   try clear hK8 K7
   refine ret_tt (v := .int .i64 0) rfl (v1 := .int .i64 1) rfl ?_
   exact ⟨ns, 0, 1, rfl, hX, hD, .inr ⟨ofB_k (k := k) (by omega) (.inl hs6_2), rfl, rfl, rfl⟩⟩
  ·
   try with_reducible replace hs6_2 := of_decide_eq_false hs6_2
   refine WL_val (dd := some 19) rfl rfl rfl (r_move (v := .int .i64 _) rfl) ?_
   refine WL_val (dd := some 20) rfl rfl rfl (r_geq rfl rfl) ?_
   refine WL_val (dd := some 21) rfl rfl rfl (r_pick_f rfl (v := .bool _) rfl) ?_
   refine WL_nil ?_
   refine hK24 _ _ ?_
   clear hK24 K23
   refine WC_cond (b := _) rfl (fun hc2 => ?_) (fun hc2 => ?_)
   ·
    try with_reducible replace hc2 := of_decide_eq_true hc2
    refine WC_seq (fun K27 hK28 => ?_)
    refine WC_region ?_
    refine WL_val (dd := some 4) rfl rfl rfl (r_assign (v := .int .i64 0) rfl) ?_
    refine WL_val (dd := some 5) rfl rfl rfl (r_assign (v := .int .i64 1) rfl) ?_
    refine WL_nil ?_
    refine hK28 _ _ ?_
    clear hK28 K27
    refine WC_ret ?_
    repeat (first | refine thenQ_ret ?_ | refine blockQ_ret ?_)
    try clear hK20 K19
    try clear hJ14 J13
    try clear hK8 K7
    refine ret_tt (v := .int .i64 0) rfl (v1 := .int .i64 1) rfl ?_
    exact ⟨ns, 0, 1, rfl, hX, hD, .inr ⟨ofB_k (k := k) (by omega) (.inr hc2), rfl, rfl, rfl⟩⟩
   ·
    try with_reducible replace hc2 := of_decide_eq_false hc2
    refine WC_skip ?_
    refine hK20 _ _ ?_
    clear hK20 K19
    refine WC_region ?_
    refine WL_val (dd := some 22) rfl rfl rfl (r_addI rfl rfl (by omega) (by omega)) ?_
    refine WL_val (dd := some 12) rfl rfl rfl (r_move (v := .int .i64 _) rfl) ?_
    refine WL_nil ?_
    refine hJ14 _ _ (k + 1) ?_ ?_ ?_ ?_
    · repeat (first | exact agree.mask _ _ _ | refine agree.updo ?_ rfl _ | refine agree.updL ?_ _ rfl | refine agree.maskS rfl ?_)
    · exact ⟨rfl, trivial⟩
    · exact ⟨hz, hD, hX, hl, hB, (by omega), (upTo_succ hq ⟨Int.not_lt.1 hs6_2, Int.not_le.1 hc2⟩), trivial⟩
    · first | omega | (dsimp only; omega)
 ·
  try with_reducible replace hc1 := of_decide_eq_false hc1
  refine WC_exit ?_
  refine hK8 _ _ ?_
  clear hK18 K17
  clear hJ14 J13
  clear hK8 K7
  refine WC_seq (fun K29 hK30 => ?_)
  have hok := ofB_all (l := l) (k := k) (by omega) hq
  refine WC_region ?_
  refine WL_val (dd := some 23) rfl rfl rfl (r_move (v := .pointer (some ⟨bz, 0, none⟩)) rfl) ?_
  refine WL_val (dd := some 24) rfl rfl rfl (r_move (v := xl) rfl) ?_
  refine WL_callG (dd := some 25) rfl rfl rfl (r_call3 tb_c76 (v0 := .pointer (some ⟨bz, 0, none⟩)) rfl (v1 := xl) rfl (v2 := .int .i64 0) rfl) (BuildAll 25 N ba bm bz R ns _ l 0 _ (Nat.le_trans hN0 (Below.size hB)) hz hD hl (ofB_iff.1 hok) hll (by omega) (by omega)) (fun v9_2 W31 hP9_2 => ?_)
  obtain ⟨ns9_2, id9_2, er9_2, rfl, hx9_2, hDn9_2, hg9_2⟩ := hP9_2
  replace hz := At.dx hD hx9_2 hz (by decide) (by decide)
  replace hX := Dx.trans hX (hx9_2)
  try clear hl
  replace hB := Below.dx hB (Nat.le_refl _) hN0 hx9_2
  replace hD := hDn9_2
  refine WL_val (dd := some 26) rfl rfl rfl (r_ext2_0 (h := rfl)) ?_
  refine WL_val (dd := some 27) rfl rfl rfl (r_ext2_1 (h := rfl)) ?_
  refine WL_val (dd := some 4) rfl rfl rfl (r_assign (v := .int .i64 _) rfl) ?_
  refine WL_val (dd := some 5) rfl rfl rfl (r_assign (v := .int .i64 _) rfl) ?_
  refine WL_nil ?_
  refine hK30 _ _ ?_
  clear hK30 K29
  refine WC_ret ?_
  repeat (first | refine thenQ_ret ?_ | refine blockQ_ret ?_)
  refine ret_tt (v := .int .i64 _) rfl (v1 := .int .i64 _) rfl ?_
  exact ⟨_, _, _, rfl, hX, hD, .inl ⟨hok, hg9_2⟩⟩

def CountAt (n : Nat) : Prop := ∀ (N ba bm bz R : Nat) (ns : List Nd) (id : Int) (w : World), At w bz #[.pointer (some ⟨ba, 0, none⟩)] 100 → Dia 147 150 N ba bm R w ns → id ≤ 9223372036854775807 → id.toNat < n → Fn Try.prog 39 #[.pointer (some ⟨bz, 0, none⟩), .int .i64 id] w fun v w' => v = .int .i64 (cntI ns id)

theorem C_count (n : Nat) (N ba bm bz R : Nat) (ns : List Nd) (id : Int) (w : World) (ih : CountAt n) (hz : At w bz #[.pointer (some ⟨ba, 0, none⟩)] 100) (hD : Dia 147 150 N ba bm R w ns) (hid : id ≤ 9223372036854775807) (hn : id.toNat < n + 1) :
    Fn Try.prog 39 #[.pointer (some ⟨bz, 0, none⟩), .int .i64 id] w fun v w' => v = .int .i64 (cntI ns id) := by
 refine Fn_intro (n := 35) Try.func39 rfl rfl (Nat.le_of_ble_eq_true rfl) ?_
 have hB : Below w.heap.size w w := Below.refl _ _
 have hwf := hD.wf
 have hroom := hD.room
 have htop := hD.top
 refine WC_seq (fun K1 hK2 => ?_)
 refine WC_region ?_
 refine WL_val (dd := some 4) rfl rfl rfl (r_assign (v := .int .i64 0) rfl) ?_
 refine WL_nil ?_
 refine hK2 _ _ ?_
 clear hK2 K1
 refine WC_seq (fun K3 hK4 => ?_)
 refine WC_seq (fun K5 hK6 => ?_)
 refine WC_region ?_
 refine WL_val (dd := some 9) rfl rfl rfl (r_move (v := .pointer (some ⟨bz, 0, none⟩)) rfl) ?_
 refine WL_val (dd := some 10) rfl rfl rfl (r_move (v := .int .i64 _) rfl) ?_
 refine WL_step (dd := some 11) rfl rfl rfl (Y_lit1 (u := .int .i64 _) rfl tb_el22 tb_zs3 rfl (by decide) (by decide) (fun b1_2 W7 hb8 hE9 hm1_2 => ?_))
 have lo_b1_2 : w.heap.size ≤ b1_2 := hb8 ▸ (Below.size hB)
 clear hb8
 replace hB := below_ext hB hE9 (Nat.le_refl _)
 clear hE9
 have ho10 := own_lit1 (enc := encI) (a := _) hm1_2 rfl rfl lo_b1_2
 clear hm1_2
 refine WL_call (dd := some 12) rfl rfl rfl (r_call2 tb_c73 (v0 := .pointer (some ⟨bz, 0, none⟩)) rfl (v1 := .slice (some ⟨b1_2, 0, none⟩) 1 1) rfl) (C___zdd_Zdd__there N ba bm bz R ns _ [id] _ (Below.atI hB hz) (Dia.below hB hD) ho10.sl (by simp) (by simp; omega)) (fun v1_3 W11 hE12 hP1_3 => ?_)
 have hsz13 := (Below.size hB)
 replace hB := below_ext hB hE12 (Nat.le_refl _)
 replace ho10 := hE12.ow ho10
 clear hE12
 clear hsz13
 obtain rfl := hP1_3
 refine WL_val (dd := some 13) rfl rfl rfl (r_not rfl) ?_
 refine WL_nil ?_
 refine hK6 _ _ ?_
 clear hK6 K5
 refine WC_cond (b := _) rfl (fun hc0 => ?_) (fun hc0 => ?_)
 ·
  try with_reducible replace hc0 := of_decide_eq_true hc0
  refine WC_seq (fun K14 hK15 => ?_)
  refine WC_region ?_
  refine WL_val (dd := some 4) rfl rfl rfl (r_assign (v := .int .i64 0) rfl) ?_
  refine WL_nil ?_
  refine hK15 _ _ ?_
  clear hK15 K14
  refine WC_ret ?_
  repeat (first | refine thenQ_ret ?_ | refine blockQ_ret ?_)
  try clear hK4 K3
  refine ret_t (v := .int .i64 0) rfl ?_
  refine ⟨hB, ?_⟩
  exact cnt_none (by simpa using not_t' hc0)
 ·
  try with_reducible replace hc0 := of_decide_eq_false hc0
  refine WC_skip ?_
  refine hK4 _ _ ?_
  clear hK4 K3
  refine WC_seq (fun K16 hK17 => ?_)
  refine WC_seq (fun K18 hK19 => ?_)
  have htz : thereZ ns id = true := by simpa using not_f' hc0
  have hti := tz_iff.1 htz
  refine WC_region ?_
  refine WL_val (dd := some 14) rfl rfl rfl (r_move (v := .int .i64 _) rfl) ?_
  refine WL_val (dd := some 15) rfl rfl rfl (r_lss rfl rfl) ?_
  refine WL_nil ?_
  refine hK19 _ _ ?_
  clear hK19 K18
  refine WC_cond (b := _) rfl (fun hc1 => ?_) (fun hc1 => ?_)
  ·
   try with_reducible replace hc1 := of_decide_eq_true hc1
   refine WC_seq (fun K20 hK21 => ?_)
   refine WC_region ?_
   refine WL_val (dd := some 16) rfl rfl rfl (r_move (v := .int .i64 _) rfl) ?_
   refine WL_val (dd := some 4) rfl rfl rfl (r_assign (v := .int .i64 _) rfl) ?_
   refine WL_nil ?_
   refine hK21 _ _ ?_
   clear hK21 K20
   refine WC_ret ?_
   repeat (first | refine thenQ_ret ?_ | refine blockQ_ret ?_)
   try clear hK17 K16
   refine ret_t (v := .int .i64 _) rfl ?_
   refine ⟨hB, ?_⟩
   exact cnt_small htz hc1
  ·
   try with_reducible replace hc1 := of_decide_eq_false hc1
   refine WC_skip ?_
   refine hK17 _ _ ?_
   clear hK17 K16
   refine WC_seq (fun K22 hK23 => ?_)
   obtain ⟨f, rfl⟩ := Int.eq_ofNat_of_zero_le hti.1
   have hnd := node_of hwf (show f < ns.length + 2 by omega) (there_iff.2 (show 2 ≤ (f : Int) ∧ (f : Int) < (ns.length : Int) + 2 by omega))
   have h1 := hnd.ltlo
   have h2 := hnd.lthi
   have k1 := mems_card hwf hnd.vlo
   have k2 := mems_card hwf hnd.vhi
   have e1 := cntI_nat hnd.vlo
   have e2 := cntI_nat hnd.vhi
   refine WC_region ?_
   refine WL_val (dd := some 18) rfl rfl rfl (r_move (v := .pointer (some ⟨bz, 0, none⟩)) rfl) ?_
   refine WL_val (dd := some 19) rfl rfl rfl (r_nilCheck_ptr rfl) ?_
   refine WL_val (dd := some 20) rfl rfl rfl (r_fieldAddr (b := _) (o := _) rfl tb_fo100_0) ?_
   refine WL_val (dd := some 21) rfl rfl rfl (r_load1 (v := .pointer (some ⟨ba, 0, none⟩)) rfl tb_sc96 (At.cell (Below.atI hB hz) rfl)) ?_
   refine WL_val (dd := some 22) rfl rfl rfl (r_move (v := .int .i64 _) rfl) ?_
   refine WL_call (dd := some 23) rfl rfl rfl (r_call2 tb_c86 (v0 := .pointer (some ⟨ba, 0, none⟩)) rfl (v1 := .int .i64 _) rfl) (C___arena_Arena__Node _ _ _ _ _ _ _ (Dia.below hB hD) (by first | assumption | omega)) (fun v5_5 W24 hE25 hP5_5 => ?_)
   have hsz26 := (Below.size hB)
   replace hB := below_ext hB hE25 (Nat.le_refl _)
   replace ho10 := hE25.ow ho10
   clear hE25
   obtain rfl := hP5_5
   clear hsz26
   refine WL_val (dd := some 17) rfl rfl rfl (r_move (v := .tuple #[.int .i64 _, .int .i64 _, .int .i64 _, .bool _]) rfl) ?_
   refine WL_val (dd := some 24) rfl rfl rfl (r_ext4_0 (h := rfl)) ?_
   refine WL_val (dd := some 25) rfl rfl rfl (r_ext4_1 (h := rfl)) ?_
   refine WL_val (dd := some 26) rfl rfl rfl (r_ext4_2 (h := rfl)) ?_
   refine WL_val (dd := some 27) rfl rfl rfl (r_ext4_3 (h := rfl)) ?_
   refine WL_val (dd := some 5) rfl rfl rfl (r_assign (v := .int .i64 _) rfl) ?_
   refine WL_val (dd := some 6) rfl rfl rfl (r_assign (v := .int .i64 _) rfl) ?_
   refine WL_val (dd := some 7) rfl rfl rfl (r_assign (v := .int .i64 _) rfl) ?_
   refine WL_val (dd := some 8) rfl rfl rfl (r_assign (v := .bool _) rfl) ?_
   refine WL_nil ?_
   refine hK23 _ _ ?_
   clear hK23 K22
   refine WC_seq (fun K27 hK28 => ?_)
   refine WC_region ?_
   refine WL_val (dd := some 28) rfl rfl rfl (r_move (v := .pointer (some ⟨bz, 0, none⟩)) rfl) ?_
   refine WL_val (dd := some 29) rfl rfl rfl (r_move (v := .int .i64 _) rfl) ?_
   refine WL_call (dd := some 30) rfl rfl rfl (r_call2 tb_c39 (v0 := .pointer (some ⟨bz, 0, none⟩)) rfl (v1 := .int .i64 _) rfl) (ih N ba bm bz R ns _ _ (Below.atI hB hz) (Dia.below hB hD) (by omega) (by omega)) (fun v6_2 W29 hE30 hP6_2 => ?_)
   have hsz31 := (Below.size hB)
   replace hB := below_ext hB hE30 (Nat.le_refl _)
   replace ho10 := hE30.ow ho10
   clear hE30
   clear hsz31
   obtain rfl := hP6_2
   refine WL_val (dd := some 31) rfl rfl rfl (r_move (v := .pointer (some ⟨bz, 0, none⟩)) rfl) ?_
   refine WL_val (dd := some 32) rfl rfl rfl (r_move (v := .int .i64 _) rfl) ?_
   refine WL_call (dd := some 33) rfl rfl rfl (r_call2 tb_c39 (v0 := .pointer (some ⟨bz, 0, none⟩)) rfl (v1 := .int .i64 _) rfl) (ih N ba bm bz R ns _ _ (Below.atI hB hz) (Dia.below hB hD) (by omega) (by omega)) (fun v6_5 W32 hE33 hP6_5 => ?_)
   have hsz34 := (Below.size hB)
   replace hB := below_ext hB hE33 (Nat.le_refl _)
   replace ho10 := hE33.ow ho10
   clear hE33
   clear hsz34
   obtain rfl := hP6_5
   refine WL_val (dd := some 34) rfl rfl rfl (r_addI rfl rfl (by omega) (by omega)) ?_
   refine WL_val (dd := some 4) rfl rfl rfl (r_assign (v := .int .i64 _) rfl) ?_
   refine WL_nil ?_
   refine hK28 _ _ ?_
   clear hK28 K27
   refine WC_ret ?_
   repeat (first | refine thenQ_ret ?_ | refine blockQ_ret ?_)
   refine ret_t (v := .int .i64 _) rfl ?_
   refine ⟨hB, ?_⟩
   rw [cnt_node (by omega) hnd]

end Go.Proofs.Ytpamgfbecgjjeaa
