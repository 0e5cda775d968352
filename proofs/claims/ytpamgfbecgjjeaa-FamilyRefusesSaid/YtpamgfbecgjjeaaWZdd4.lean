/-
  The walks of building, of parts, of what holds none, of the least, and of counting.
-/
import Derived.Test.YtpamgfbecgjjeaaProg
import Derived.Test.YtpamgfbecgjjeaaWZdd2
import Derived.Test.YtpamgfbecgjjeaaZ1
namespace Go.Proofs.Ytpamgfbecgjjeaa
set_option linter.unusedVariables false
set_option linter.unusedSimpArgs false
open Go Go.RowKit

theorem tb_c76 : callB Try.prog 76 = true := by kernel_rfl
theorem tb_c88 : callB Try.prog 88 = true := by kernel_rfl
theorem tb_c87 : callB Try.prog 87 = true := by kernel_rfl
theorem tb_c141 : callB Try.prog 141 = true := by kernel_rfl
theorem tb_build89_ {f : Nat → Value} {w : World} {d : Option Nat} {ty : TypeId} {ps : String} {af : Array Edge} {g : Option (Nat × Bool)}    :
    (execOp (evF f) ⟨d, .build 89 #[], ty, ps, af, g⟩).run Try.prog w = .ok (.value (.agg #[.int .i64 0, .int .i64 0])) w := by
  obtain ⟨i0, hi0, hz0⟩ := Option.bind_eq_some_iff.1 (show (Try.prog.info? 89).bind (·.zero) = _ from tb_z89)
  obtain ⟨j3, hj3, hs3⟩ := Option.map_eq_some_iff.1 tb_size3
  simp [execOp, Instr.build, zeroValue, typeInfo, sizeOf, hi0, hz0, run_underlying Try.underlying89, Instr.fill, cells_agg, hj3, hs3]
theorem tb_c122 : callB Try.prog 122 = true := by kernel_rfl
theorem tb_c74 : callB Try.prog 74 = true := by kernel_rfl
theorem tb_c39 : callB Try.prog 39 = true := by kernel_rfl

def BuildAt (n : Nat) : Prop := ∀ (N ba bm bz R : Nat) (ns : List Nd) (xl : Value) (l : List Int) (lv : Nat) (w : World), (N ≤ w.heap.size) → (At w bz #[.pointer (some ⟨ba, 0, none⟩)] 100) → (Dia 147 150 N ba bm R w ns) → (SlT encI 1 w xl l) → (∀ m, m ∈ l → 0 ≤ m ∧ m < 16777216) → (l.length ≤ 1000000) → (lv ≤ 24) → 25 - lv ≤ n →
  FnG Try.prog 76 #[.pointer (some ⟨bz, 0, none⟩), xl, .int .i64 (lv : Int)] w fun v w' => PO 147 150 N ba bm R w ns (bcL lv l) (lv) (bS l lv) v w'

set_option maxRecDepth 10000 in
theorem C_build (n : Nat) (N ba bm bz R : Nat) (ns : List Nd) (xl : Value) (l : List Int) (lv : Nat) (w : World) (ih : BuildAt n) (hN0 : N ≤ w.heap.size) (hz : At w bz #[.pointer (some ⟨ba, 0, none⟩)] 100) (hD : Dia 147 150 N ba bm R w ns) (hl : SlT encI 1 w xl l) (hm : ∀ m, m ∈ l → 0 ≤ m ∧ m < 16777216) (hll : l.length ≤ 1000000) (hlv : lv ≤ 24) (hn : 25 - lv ≤ n + 1) :
    FnG Try.prog 76 #[.pointer (some ⟨bz, 0, none⟩), xl, .int .i64 (lv : Int)] w fun v w' => PO 147 150 N ba bm R w ns (bcL lv l) (lv) (bS l lv) v w' := by
 refine FnG_intro (n := 71) Try.func76 rfl rfl (Nat.le_of_ble_eq_true rfl) ?_
 have hB : Below N w w := Below.refl _ _
 have hX : Dx 150 N [ba, bm] w w := Dx.refl
 have hwf := hD.wf
 have hroom := hD.room
 have htop := hD.top
 refine WC_seq (fun K1 hK2 => ?_)
 refine WC_region ?_
 refine WL_val (dd := some 6) rfl rfl rfl (r_assign (v := .int .i64 0) rfl) ?_
 refine WL_val (dd := some 7) rfl rfl rfl (r_assign (v := .int .i64 0) rfl) ?_
 refine WL_nil ?_
 refine hK2 _ _ ?_
 clear hK2 K1
 refine WC_seq (fun K3 hK4 => ?_)
 refine WC_block ?_
 refine WC_seq (fun K5 hK6 => ?_)
 refine WC_region ?_
 refine WL_val (dd := some 16) rfl rfl rfl (r_move (v := xl) rfl) ?_
 refine WL_val (dd := some 17) rfl rfl rfl (r_lenS (v := xl) rfl hl tb_el22) ?_
 refine WL_val (dd := some 18) rfl rfl rfl (r_eql rfl rfl) ?_
 refine WL_val (dd := some 15) rfl rfl rfl (r_assign (v := .bool _) rfl) ?_
 refine WL_nil ?_
 refine hK6 _ _ ?_
 clear hK6 K5
 refine WC_cond (b := _) rfl (fun hc0 => ?_) (fun hc0 => ?_)
 ·
  try with_reducible replace hc0 := of_decide_eq_true hc0
  refine WC_seq (fun K7 hK8 => ?_)
  refine WC_region ?_
  refine WL_val (dd := some 6) rfl rfl rfl (r_assign (v := .int .i64 0) rfl) ?_
  refine WL_val (dd := some 7) rfl rfl rfl (r_assign (v := .int .i64 0) rfl) ?_
  refine WL_nil ?_
  refine hK8 _ _ ?_
  clear hK8 K7
  refine WC_ret ?_
  repeat (first | refine thenQ_ret ?_ | refine blockQ_ret ?_)
  try clear hK4 K3
  refine ret_tt (v := .int .i64 0) rfl (v1 := .int .i64 0) rfl ?_
  exact ⟨ns, 0, 0, rfl, hX, hD, Got.same (by omega) (by rw [lvl0]; exact hlv) (build_0 (by omega))⟩
 ·
  try with_reducible replace hc0 := of_decide_eq_false hc0
  refine WC_seq (fun K9 hK10 => ?_)
  refine WC_region ?_
  refine WL_val (dd := some 20) rfl rfl rfl (r_move (v := .int .i64 _) rfl) ?_
  refine WL_val (dd := some 21) rfl rfl rfl (r_eql rfl rfl) ?_
  refine WL_val (dd := some 19) rfl rfl rfl (r_assign (v := .bool _) rfl) ?_
  refine WL_nil ?_
  refine hK10 _ _ ?_
  clear hK10 K9
  refine WC_cond (b := _) rfl (fun hc1 => ?_) (fun hc1 => ?_)
  ·
   try with_reducible replace hc1 := of_decide_eq_true hc1
   refine WC_seq (fun K11 hK12 => ?_)
   refine WC_region ?_
   refine WL_val (dd := some 6) rfl rfl rfl (r_assign (v := .int .i64 1) rfl) ?_
   refine WL_val (dd := some 7) rfl rfl rfl (r_assign (v := .int .i64 0) rfl) ?_
   refine WL_nil ?_
   refine hK12 _ _ ?_
   clear hK12 K11
   refine WC_ret ?_
   repeat (first | refine thenQ_ret ?_ | refine blockQ_ret ?_)
   try clear hK4 K3
   refine ret_tt (v := .int .i64 1) rfl (v1 := .int .i64 0) rfl ?_
   obtain rfl : lv = 24 := by omega
   exact ⟨ns, 1, 0, rfl, hX, hD, Got.same (by omega) (by rw [lvl_small (by decide)]; exact hlv) (build_1 (by omega) hm)⟩
  ·
   try with_reducible replace hc1 := of_decide_eq_false hc1
   refine WC_skip ?_
   refine hK4 _ _ ?_
   clear hK4 K3
   refine WC_seq (fun K13 hK14 => ?_)
   have hBo15 := hB
   replace hB := Below.refl w.heap.size w
   have hne : 1 ≤ l.length := by omega
   have h24 : lv < 24 := by omega
   refine WC_region ?_
   refine WL_val (dd := some 8) rfl rfl rfl (r_assign (v := .slice none 0 0) rfl) ?_
   refine WL_val (dd := some 9) rfl rfl rfl (r_assign (v := .slice none 0 0) rfl) ?_
   refine WL_nil ?_
   refine hK14 _ _ ?_
   clear hK14 K13
   refine WC_seq (fun K16 hK17 => ?_)
   refine WC_seq (fun K18 hK19 => ?_)
   refine WC_region ?_
   refine WL_val (dd := some 22) rfl rfl rfl (r_move (v := xl) rfl) ?_
   refine WL_val (dd := some 23) rfl rfl rfl (r_lenS (v := xl) rfl (Below.slT hB hl) tb_el22) ?_
   refine WL_val (dd := some 24) rfl rfl rfl (r_move (v := .int .i64 0) rfl) ?_
   refine WL_nil ?_
   refine hK19 _ _ ?_
   clear hK19 K18
   refine WC_block ?_
   refine WC_loop (σ := (Nat) × (Value) × (Value)) [8, 9, 11, 24, 25, 26, 27, 28, 29, 30, 31, 32, 33, 34, 35, 36, 37, 38, 39, 40, 41] (fun (k, v0, v1) => [(24, .int .i64 (k : Int)), (8, v0), (9, v1)]) (fun sg W => match sg with | (k, v0, v1) => (Below w.heap.size w W) ∧ (OwT encI 1 3 W w.heap.size v0 (woT l lv k)) ∧ (OwT encI 1 3 W w.heap.size v1 (wiT l lv k)) ∧ (Apart v0 v1) ∧ (k ≤ l.length) ∧ (True)) (fun (k, v0, v1) => l.length - k) ((0, .slice none 0 0, .slice none 0 0)) ⟨rfl, rfl, rfl, trivial⟩ ⟨hB, OwT.nil, OwT.nil, Apart.nilL, (Nat.zero_le _), trivial⟩ ?_
   clear hB
   rintro ⟨k, v0, v1⟩ g21 W20 ⟨hB, ho, hoo, hap, hk, _⟩ J22 hJ23
   refine WC_seq (fun K24 hK25 => ?_)
   refine WC_region ?_
   refine WL_val (dd := some 25) rfl rfl rfl (r_lss rfl rfl) ?_
   refine WL_nil ?_
   refine hK25 _ _ ?_
   clear hK25 K24
   refine WC_seq (fun K26 hK27 => ?_)
   refine WC_cond (b := _) rfl (fun hc2 => ?_) (fun hc2 => ?_)
   ·
    try with_reducible replace hc2 := of_decide_eq_true hc2
    refine WC_skip ?_
    refine hK27 _ _ ?_
    clear hK27 K26
    refine WC_seq (fun K28 hK29 => ?_)
    refine WC_block ?_
    refine WC_seq (fun K30 hK31 => ?_)
    refine WC_region ?_
    refine WL_val (dd := some 26) rfl rfl rfl (r_idxS (v := xl) rfl (Below.slT hB hl) rfl tb_el22 (by omega) (by omega)) ?_
    refine WL_val (dd := some 27) rfl rfl rfl (r_load1 (v := .int .i64 _) rfl tb_sc3 (SlT.cell (Below.slT hB hl) encI_len 0 (by omega) (by omega) 0 rfl)) ?_
    refine WL_val (dd := some 11) rfl rfl rfl (r_assign (v := .int .i64 _) rfl) ?_
    refine WL_nil ?_
    refine hK31 _ _ ?_
    clear hK31 K30
    refine WC_seq (fun K32 hK33 => ?_)
    obtain ⟨hm0, hm1⟩ := hm (l.getD k 0) (getD_mem (by omega))
    have hbl : (l.getD k 0).toNat < 9223372036854775808 := by omega
    have hwl := wo_len l lv k
    rw [List.length_take] at hwl
    refine WC_region ?_
    refine WL_val (dd := some 28) rfl rfl rfl (r_move (v := .int .i64 _) rfl) ?_
    refine WL_val (dd := some 29) rfl rfl rfl (r_move (v := .int .i64 _) rfl) ?_
    refine WL_val (dd := some 30) rfl rfl rfl (r_shrI rfl rfl hm0 (by omega) (by omega)) ?_
    refine WL_val (dd := some 31) rfl rfl rfl (r_and (n := 1) rfl rfl rfl (by exact Nat.lt_of_le_of_lt (Nat.div_le_self _ _) hbl) (by decide)) ?_
    refine WL_val (dd := some 32) rfl rfl rfl (r_eql rfl rfl) ?_
    refine WL_nil ?_
    refine hK33 _ _ ?_
    clear hK33 K32
    refine WC_cond (b := _) rfl (fun hc3 => ?_) (fun hc3 => ?_)
    ·
     try with_reducible replace hc3 := of_decide_eq_true hc3
     have hbt : (l.getD k 0).toNat.testBit lv = true := and1_bit.1 hc3
     refine WC_region ?_
     refine WL_val (dd := some 33) rfl rfl rfl (r_move (v := v1) rfl) ?_
     refine WL_val (dd := some 34) rfl rfl rfl (r_move (v := .int .i64 _) rfl) ?_
     refine WL_step (dd := some 35) rfl rfl rfl (Y_lit1 (u := .int .i64 _) rfl tb_el22 tb_zs3 rfl (by decide) (by decide) (fun b10_2 W34 hb35 hE36 hm10_2 => ?_))
     have lo_b10_2 : w.heap.size ≤ b10_2 := hb35 ▸ (Below.size hB)
     have no_v0_b10_2 := OwT.neB (b := b10_2) ho (Nat.le_of_eq hb35.symm)
     have no_v1_b10_2 := OwT.neB (b := b10_2) hoo (Nat.le_of_eq hb35.symm)
     clear hb35
     replace hB := below_ext hB hE36 (Nat.le_refl _)
     replace ho := hE36.ow ho
     replace hoo := hE36.ow hoo
     clear hE36
     refine WL_step (dd := some 36) rfl rfl rfl (Y_appendA (v := v1) (v2 := .slice (some ⟨b10_2, 0, none⟩) 1 1) rfl rfl tb_el22 tb_zs3 (by decide) hoo (sl_lit1 hm10_2 rfl) rfl (by have := Below.size hB; omega) (by first | omega | (simp; omega)) (by first | omega | (simp; omega)) (fun v10_3 W37 hG38 ho10_3 hob39 => ?_))
     have hap40 := Apart.app (Apart.symm hap) hob39 ho
     replace ho10_3 := OwT.snoc (enc := encI) (x := (l.getD k 0)) rfl rfl rfl rfl ho10_3
     clear hm10_2
     replace hB := below_grown hB hG38 (Nat.le_refl _) (fun j hj => (OwT.lt hoo j hj))
     replace ho := OwT.grownAp ho (Apart.symm hap) hG38
     clear hG38
     clear hoo
     refine WL_val (dd := some 9) rfl rfl rfl (r_assign (v := v10_3) rfl) ?_
     refine WL_nil ?_
     refine hK29 _ _ ?_
     clear hK29 K28
     refine WC_region ?_
     refine WL_val (dd := some 41) rfl rfl rfl (r_addI rfl rfl (by omega) (by omega)) ?_
     refine WL_val (dd := some 24) rfl rfl rfl (r_move (v := .int .i64 _) rfl) ?_
     refine WL_nil ?_
     refine hJ23 _ _ ((k + 1, v0, v10_3)) ?_ ?_ ?_ ?_
     · repeat (first | exact agree.mask _ _ _ | refine agree.updo ?_ rfl _ | refine agree.updL ?_ _ rfl | refine agree.maskS rfl ?_)
     · exact ⟨rfl, rfl, rfl, trivial⟩
     · exact ⟨hB, (by first | (rw [← (wi_t (by omega) hbt).2]; exact ho) | (rw [← (wi_f (by omega) hbt).1]; exact ho)), (by first | (rw [← (wi_t (by omega) hbt).1]; exact ho10_3) | (rw [← (wi_f (by omega) hbt).2]; exact ho10_3)), (Apart.symm hap40), (by omega), trivial⟩
     · show l.length - (k + 1) < l.length - k; omega
    ·
     try with_reducible replace hc3 := of_decide_eq_false hc3
     have hbt : ¬ (l.getD k 0).toNat.testBit lv = true := fun q => hc3 (and1_bit.2 q)
     refine WC_region ?_
     refine WL_val (dd := some 37) rfl rfl rfl (r_move (v := v0) rfl) ?_
     refine WL_val (dd := some 38) rfl rfl rfl (r_move (v := .int .i64 _) rfl) ?_
     refine WL_step (dd := some 39) rfl rfl rfl (Y_lit1 (u := .int .i64 _) rfl tb_el22 tb_zs3 rfl (by decide) (by decide) (fun b11_2 W41 hb42 hE43 hm11_2 => ?_))
     have lo_b11_2 : w.heap.size ≤ b11_2 := hb42 ▸ (Below.size hB)
     have no_v0_b11_2 := OwT.neB (b := b11_2) ho (Nat.le_of_eq hb42.symm)
     have no_v1_b11_2 := OwT.neB (b := b11_2) hoo (Nat.le_of_eq hb42.symm)
     clear hb42
     replace hB := below_ext hB hE43 (Nat.le_refl _)
     replace ho := hE43.ow ho
     replace hoo := hE43.ow hoo
     clear hE43
     refine WL_step (dd := some 40) rfl rfl rfl (Y_appendA (v := v0) (v2 := .slice (some ⟨b11_2, 0, none⟩) 1 1) rfl rfl tb_el22 tb_zs3 (by decide) ho (sl_lit1 hm11_2 rfl) rfl (by have := Below.size hB; omega) (by first | omega | (simp; omega)) (by first | omega | (simp; omega)) (fun v11_3 W44 hG45 ho11_3 hob46 => ?_))
     have hap47 := Apart.app hap hob46 hoo
     replace ho11_3 := OwT.snoc (enc := encI) (x := (l.getD k 0)) rfl rfl rfl rfl ho11_3
     clear hm11_2
     replace hB := below_grown hB hG45 (Nat.le_refl _) (fun j hj => (OwT.lt ho j hj))
     replace hoo := OwT.grownAp hoo hap hG45
     clear hG45
     clear ho
     refine WL_val (dd := some 8) rfl rfl rfl (r_assign (v := v11_3) rfl) ?_
     refine WL_nil ?_
     refine hK29 _ _ ?_
     clear hK29 K28
     refine WC_region ?_
     refine WL_val (dd := some 41) rfl rfl rfl (r_addI rfl rfl (by omega) (by omega)) ?_
     refine WL_val (dd := some 24) rfl rfl rfl (r_move (v := .int .i64 _) rfl) ?_
     refine WL_nil ?_
     refine hJ23 _ _ ((k + 1, v11_3, v1)) ?_ ?_ ?_ ?_
     · repeat (first | exact agree.mask _ _ _ | refine agree.updo ?_ rfl _ | refine agree.updL ?_ _ rfl | refine agree.maskS rfl ?_)
     · exact ⟨rfl, rfl, rfl, trivial⟩
     · exact ⟨hB, (by first | (rw [← (wi_t (by omega) hbt).2]; exact ho11_3) | (rw [← (wi_f (by omega) hbt).1]; exact ho11_3)), (by first | (rw [← (wi_t (by omega) hbt).1]; exact hoo) | (rw [← (wi_f (by omega) hbt).2]; exact hoo)), hap47, (by omega), trivial⟩
     · show l.length - (k + 1) < l.length - k; omega
   ·
    try with_reducible replace hc2 := of_decide_eq_false hc2
    refine WC_exit ?_
    refine hK17 _ _ ?_
    clear hK27 K26
    clear hJ23 J22
    clear hK17 K16
    refine WC_seq (fun K48 hK49 => ?_)
    replace hz := Below.atI hB hz
    replace hD := Dia.below hB hD
    replace hX := Dx.trans hX (Dx.below hB)
    clear hl
    have hzs := Nat.le_trans hN0 (Below.size hBo15)
    replace ho := OwT.mono ho hzs
    replace hoo := OwT.mono hoo hzs
    replace hB := Below.trans hBo15 (Below.mono hB hzs)
    clear hBo15 hzs
    obtain rfl : k = l.length := by omega
    have hwl := wo_len l lv l.length
    rw [List.take_length] at hwl
    have hbc := build_c1 (l := l) h24
    refine WC_region ?_
    refine WL_val (dd := some 43) rfl rfl rfl (r_move (v := .pointer (some ⟨bz, 0, none⟩)) rfl) ?_
    refine WL_val (dd := some 44) rfl rfl rfl (r_move (v := v0) rfl) ?_
    refine WL_val (dd := some 45) rfl rfl rfl (r_move (v := .int .i64 _) rfl) ?_
    refine WL_val (dd := some 46) rfl rfl rfl (r_addI rfl rfl (by omega) (by omega)) ?_
    refine WL_callG (dd := some 47) rfl rfl rfl (r_call3 tb_c76 (v0 := .pointer (some ⟨bz, 0, none⟩)) rfl (v1 := v0) rfl (v2 := .int .i64 _) rfl) (ih N ba bm bz R ns _ (woT l lv l.length) (lv + 1) _ (Nat.le_trans hN0 (Below.size hB)) hz hD ho.sl (fun m h => hm m (wo_mem h)) (by omega) (by omega) (by omega)) (fun v13_4 W50 hP13_4 => ?_)
    obtain ⟨ns13_4, id13_4, er13_4, rfl, hx13_4, hDn13_4, hg13_4⟩ := hP13_4
    replace hz := At.dx hD hx13_4 hz (by decide) (by decide)
    replace hX := Dx.trans hX (hx13_4)
    replace hB := Below.dx hB (Nat.le_refl _) hN0 hx13_4
    replace ho := OwT.dx hD hx13_4 ho (by decide) (by decide)
    replace hoo := OwT.dx hD hx13_4 hoo (by decide) (by decide)
    replace hD := hDn13_4
    refine WL_val (dd := some 42) rfl rfl rfl (r_move (v := .tuple #[.int .i64 (id13_4 : Int), .int .i64 er13_4]) rfl) ?_
    refine WL_val (dd := some 48) rfl rfl rfl (r_ext2_0 (h := rfl)) ?_
    refine WL_val (dd := some 49) rfl rfl rfl (r_ext2_1 (h := rfl)) ?_
    refine WL_val (dd := some 12) rfl rfl rfl (r_assign (v := .int .i64 _) rfl) ?_
    refine WL_val (dd := some 13) rfl rfl rfl (r_assign (v := .int .i64 _) rfl) ?_
    refine WL_nil ?_
    refine hK49 _ _ ?_
    clear hK49 K48
    refine WC_seq (fun K52 hK53 => ?_)
    refine WC_seq (fun K54 hK55 => ?_)
    refine WC_region ?_
    refine WL_val (dd := some 50) rfl rfl rfl (r_move (v := .int .i64 _) rfl) ?_
    refine WL_val (dd := some 51) rfl rfl rfl (r_neq rfl rfl) ?_
    refine WL_nil ?_
    refine hK55 _ _ ?_
    clear hK55 K54
    refine WC_cond (b := _) rfl (fun hc4 => ?_) (fun hc4 => ?_)
    ·
     try with_reducible replace hc4 := of_decide_eq_true hc4
     refine WC_seq (fun K56 hK57 => ?_)
     refine WC_region ?_
     refine WL_val (dd := some 52) rfl rfl rfl (r_move (v := .int .i64 _) rfl) ?_
     refine WL_val (dd := some 6) rfl rfl rfl (r_assign (v := .int .i64 0) rfl) ?_
     refine WL_val (dd := some 7) rfl rfl rfl (r_assign (v := .int .i64 _) rfl) ?_
     refine WL_nil ?_
     refine hK57 _ _ ?_
     clear hK57 K56
     refine WC_ret ?_
     repeat (first | refine thenQ_ret ?_ | refine blockQ_ret ?_)
     try clear hK53 K52
     refine ret_tt (v := .int .i64 0) rfl (v1 := .int .i64 _) rfl ?_
     exact ⟨_, 0, _, rfl, hX, hD, hg13_4.fail hc4 (by omega)⟩
    ·
     try with_reducible replace hc4 := of_decide_eq_false hc4
     refine WC_skip ?_
     refine hK53 _ _ ?_
     clear hK53 K52
     refine WC_seq (fun K58 hK59 => ?_)
     have he : er13_4 = 0 := Decidable.of_not_not hc4
     subst he
     refine WC_region ?_
     refine WL_val (dd := some 54) rfl rfl rfl (r_move (v := .pointer (some ⟨bz, 0, none⟩)) rfl) ?_
     refine WL_val (dd := some 55) rfl rfl rfl (r_move (v := v1) rfl) ?_
     refine WL_val (dd := some 56) rfl rfl rfl (r_move (v := .int .i64 _) rfl) ?_
     refine WL_val (dd := some 57) rfl rfl rfl (r_addI rfl rfl (by omega) (by omega)) ?_
     refine WL_callG (dd := some 58) rfl rfl rfl (r_call3 tb_c76 (v0 := .pointer (some ⟨bz, 0, none⟩)) rfl (v1 := v1) rfl (v2 := .int .i64 _) rfl) (ih N ba bm bz R ns13_4 _ (wiT l lv l.length) (lv + 1) _ (Nat.le_trans hN0 (Below.size hB)) hz hD hoo.sl (fun m h => hm m (wi_mem h)) (by omega) (by omega) (by omega)) (fun v16_4 W60 hP16_4 => ?_)
     obtain ⟨ns16_4, id16_4, er16_4, rfl, hx16_4, hDn16_4, hg16_4⟩ := hP16_4
     replace hz := At.dx hD hx16_4 hz (by decide) (by decide)
     replace hX := Dx.trans hX (hx16_4)
     replace hB := Below.dx hB (Nat.le_refl _) hN0 hx16_4
     replace ho := OwT.dx hD hx16_4 ho (by decide) (by decide)
     replace hoo := OwT.dx hD hx16_4 hoo (by decide) (by decide)
     replace hD := hDn16_4
     refine WL_val (dd := some 53) rfl rfl rfl (r_move (v := .tuple #[.int .i64 (id16_4 : Int), .int .i64 er16_4]) rfl) ?_
     refine WL_val (dd := some 59) rfl rfl rfl (r_ext2_0 (h := rfl)) ?_
     refine WL_val (dd := some 60) rfl rfl rfl (r_ext2_1 (h := rfl)) ?_
     refine WL_val (dd := some 14) rfl rfl rfl (r_assign (v := .int .i64 _) rfl) ?_
     refine WL_val (dd := some 13) rfl rfl rfl (r_assign (v := .int .i64 _) rfl) ?_
     refine WL_nil ?_
     refine hK59 _ _ ?_
     clear hK59 K58
     refine WC_seq (fun K62 hK63 => ?_)
     refine WC_seq (fun K64 hK65 => ?_)
     refine WC_region ?_
     refine WL_val (dd := some 61) rfl rfl rfl (r_move (v := .int .i64 _) rfl) ?_
     refine WL_val (dd := some 62) rfl rfl rfl (r_neq rfl rfl) ?_
     refine WL_nil ?_
     refine hK65 _ _ ?_
     clear hK65 K64
     refine WC_cond (b := _) rfl (fun hc5 => ?_) (fun hc5 => ?_)
     ·
      try with_reducible replace hc5 := of_decide_eq_true hc5
      refine WC_seq (fun K66 hK67 => ?_)
      refine WC_region ?_
      refine WL_val (dd := some 63) rfl rfl rfl (r_move (v := .int .i64 _) rfl) ?_
      refine WL_val (dd := some 6) rfl rfl rfl (r_assign (v := .int .i64 0) rfl) ?_
      refine WL_val (dd := some 7) rfl rfl rfl (r_assign (v := .int .i64 _) rfl) ?_
      refine WL_nil ?_
      refine hK67 _ _ ?_
      clear hK67 K66
      refine WC_ret ?_
      repeat (first | refine thenQ_ret ?_ | refine blockQ_ret ?_)
      try clear hK63 K62
      refine ret_tt (v := .int .i64 0) rfl (v1 := .int .i64 _) rfl ?_
      exact ⟨_, 0, _, rfl, hX, hD, hg13_4.fail2 hg16_4 hc5 (by omega)⟩
     ·
      try with_reducible replace hc5 := of_decide_eq_false hc5
      refine WC_skip ?_
      refine hK63 _ _ ?_
      clear hK63 K62
      refine WC_seq (fun K68 hK69 => ?_)
      have he : er16_4 = 0 := Decidable.of_not_not hc5
      subst he
      have hw16 := hD.wf
      obtain ⟨v1, v1l, _⟩ := hg13_4.ok rfl
      obtain ⟨p1, _, p3⟩ := hg16_4.old v1
      obtain ⟨q1, q2, _⟩ := hg16_4.ok rfl
      refine WC_region ?_
      refine WL_val (dd := some 64) rfl rfl rfl (r_move (v := .pointer (some ⟨bz, 0, none⟩)) rfl) ?_
      refine WL_val (dd := some 65) rfl rfl rfl (r_move (v := .int .i64 _) rfl) ?_
      refine WL_val (dd := some 66) rfl rfl rfl (r_move (v := .int .i64 _) rfl) ?_
      refine WL_val (dd := some 67) rfl rfl rfl (r_move (v := .int .i64 _) rfl) ?_
      refine WL_callG (dd := some 68) rfl rfl rfl (r_call4 tb_c121 (v0 := .pointer (some ⟨bz, 0, none⟩)) rfl (v1 := .int .i64 _) rfl (v2 := .int .i64 _) rfl (v3 := .int .i64 _) rfl) (C___zdd_Zdd__node N ba bm bz R ns16_4 lv id13_4 id16_4 _ (Nat.le_trans hN0 (Below.size hB)) hz hD p1 q1 (by omega) (by omega) h24) (fun v19_4 W70 hP19_4 => ?_)
      obtain ⟨ns19_4, id19_4, er19_4, rfl, hx19_4, hDn19_4, hg19_4⟩ := hP19_4
      replace hz := At.dx hD hx19_4 hz (by decide) (by decide)
      replace hX := Dx.trans hX (hx19_4)
      replace hB := Below.dx hB (Nat.le_refl _) hN0 hx19_4
      replace ho := OwT.dx hD hx19_4 ho (by decide) (by decide)
      replace hoo := OwT.dx hD hx19_4 hoo (by decide) (by decide)
      replace hD := hDn19_4
      refine WL_val (dd := some 69) rfl rfl rfl (r_ext2_0 (h := rfl)) ?_
      refine WL_val (dd := some 70) rfl rfl rfl (r_ext2_1 (h := rfl)) ?_
      refine WL_val (dd := some 6) rfl rfl rfl (r_assign (v := .int .i64 _) rfl) ?_
      refine WL_val (dd := some 7) rfl rfl rfl (r_assign (v := .int .i64 _) rfl) ?_
      refine WL_nil ?_
      refine hK69 _ _ ?_
      clear hK69 K68
      refine WC_ret ?_
      repeat (first | refine thenQ_ret ?_ | refine blockQ_ret ?_)
      refine ret_tt (v := .int .i64 _) rfl (v1 := .int .i64 _) rfl ?_
      exact ⟨_, _, _, rfl, hX, hD, build_got hw16 h24 hne hg13_4 hg16_4 hg19_4⟩

theorem BuildAll : ∀ n, BuildAt n
  | 0 => fun N ba bm bz R ns xl l lv w _ _ _ _ _ _ hlv hn => by omega
  | n + 1 => fun N ba bm bz R ns xl l lv w => C_build n N ba bm bz R ns xl l lv w (BuildAll n)

theorem C___zdd_Zdd__Of (N ba bm bz R : Nat) (ns : List Nd) (xl : Value) (l : List Int) (w : World) (hN0 : N ≤ w.heap.size) (hz : At w bz #[.pointer (some ⟨ba, 0, none⟩)] 100) (hD : Dia 147 150 N ba bm R w ns) (hl : SlT encI 1 w xl l) (hll : l.length ≤ 1000000) :
    FnG Try.prog 32 #[.pointer (some ⟨bz, 0, none⟩), xl] w fun v w' => PE 147 150 N ba bm R w ns (ofZB l) (bcL 0 l) (0) (bS l 0) v w' := by
 refine FnG_intro (n := 28) Try.func32 rfl rfl (Nat.le_of_ble_eq_true rfl) ?_
 have hB : Below N w w := Below.refl _ _
 have hX : Dx 150 N [ba, bm] w w := Dx.refl
 have hwf := hD.wf
 have hroom := hD.room
 have htop := hD.top
 refine WC_seq (fun K1 hK2 => ?_)
 refine WC_region ?_
 refine WL_val (dd := some 4) rfl rfl rfl (r_assign (v := .int .i64 0) rfl) ?_
 refine WL_val (dd := some 5) rfl rfl rfl (r_assign (v := .int .i64 0) rfl) ?_
 refine WL_nil ?_
 refine hK2 _ _ ?_
 clear hK2 K1
 refine WC_seq (fun K3 hK4 => ?_)
 refine WC_seq (fun K5 hK6 => ?_)
 refine WC_region ?_
 refine WL_val (dd := some 8) rfl rfl rfl (r_move (v := .pointer (some ⟨bz, 0, none⟩)) rfl) ?_
 refine WL_val (dd := some 9) rfl rfl rfl (r_ptrNil rfl rfl Try.underlying24) ?_
 refine WL_nil ?_
 refine hK6 _ _ ?_
 clear hK6 K5
 refine WC_cond_false rfl ?_
 refine WC_skip ?_
 refine hK4 _ _ ?_
 clear hK4 K3
 refine WC_seq (fun K7 hK8 => ?_)
 refine WC_seq (fun K9 hK10 => ?_)
 refine WC_region ?_
 refine WL_val (dd := some 10) rfl rfl rfl (r_move (v := xl) rfl) ?_
 refine WL_val (dd := some 11) rfl rfl rfl (r_lenS (v := xl) rfl hl tb_el22) ?_
 refine WL_val (dd := some 12) rfl rfl rfl (r_move (v := .int .i64 0) rfl) ?_
 refine WL_nil ?_
 refine hK10 _ _ ?_
 clear hK10 K9
 refine WC_block ?_
 refine WC_loop (σ := (Nat)) [4, 5, 7, 12, 13, 14, 15, 16, 17, 18, 19, 20, 21, 22] (fun k => [(12, .int .i64 (k : Int))]) (fun k W => (At W bz _ 100) ∧ (Dia 147 150 N ba bm R W ns) ∧ (Dx 150 N [ba, bm] w W) ∧ (SlT encI 1 W xl _) ∧ (Below N w W) ∧ (k ≤ l.length) ∧ (∀ q, q < k → 0 ≤ l.getD q 0 ∧ l.getD q 0 < 16777216) ∧ (True)) (fun k => l.length - k) (0) ⟨rfl, trivial⟩ ⟨hz, hD, hX, hl, hB, (Nat.zero_le _), upTo_zero, trivial⟩ ?_
 clear hz hD hX hl hB
 rintro k g12 W11 ⟨hz, hD, hX, hl, hB, hk, hq, _⟩ J13 hJ14
 refine WC_seq (fun K15 hK16 => ?_)
 refine WC_region ?_
 refine WL_val (dd := some 13) rfl rfl rfl (r_lss rfl rfl) ?_
 refine WL_nil ?_
 refine hK16 _ _ ?_
 clear hK16 K15
 refine WC_seq (fun K17 hK18 => ?_)
 refine WC_cond (b := _) rfl (fun hc1 => ?_) (fun hc1 => ?_)
 ·
  try with_reducible replace hc1 := of_decide_eq_true hc1
  refine WC_skip ?_
  refine hK18 _ _ ?_
  clear hK18 K17
  refine WC_seq (fun K19 hK20 => ?_)
  refine WC_block ?_
  refine WC_seq (fun K21 hK22 => ?_)
  refine WC_region ?_
  refine WL_val (dd := some 14) rfl rfl rfl (r_idxS (v := xl) rfl hl rfl tb_el22 (by omega) (by omega)) ?_
  refine WL_val (dd := some 15) rfl rfl rfl (r_load1 (v := .int .i64 _) rfl tb_sc3 (SlT.cell hl encI_len 0 (by omega) (by omega) 0 rfl)) ?_
  refine WL_val (dd := some 7) rfl rfl rfl (r_assign (v := .int .i64 _) rfl) ?_
  refine WL_nil ?_
  refine hK22 _ _ ?_
  clear hK22 K21
  refine WC_seq (fun K23 hK24 => ?_)
  refine WC_region ?_
  refine WL_val (dd := some 16) rfl rfl rfl (r_move (v := .int .i64 _) rfl) ?_
  refine WL_val (dd := some 17) rfl rfl rfl (r_lss rfl rfl) ?_
  refine WL_split (dd := some 18) rfl rfl rfl (r_move (v := .bool _) rfl) (fun hs6_2 => ?_) (fun hs6_2 => ?_)
  ·
   try with_reducible replace hs6_2 := of_decide_eq_true hs6_2
   refine WL_skip (dd := some 19) rfl rfl rfl ?_
   refine WL_skip (dd := some 20) rfl rfl rfl ?_
   refine WL_val (dd := some 21) rfl rfl rfl (r_pick_t rfl (v := .bool true) rfl) ?_
   refine WL_nil ?_
   refine hK24 _ _ ?_
   clear hK24 K23
   refine WC_cond_true rfl ?_
   refine WC_seq (fun K25 hK26 => ?_)
   refine WC_region ?_
   refine WL_val (dd := some 4) rfl rfl rfl (r_assign (v := .int .i64 0) rfl) ?_
   refine WL_val (dd := some 5) rfl rfl rfl (r_assign (v := .int .i64 1) rfl) ?_
   refine WL_nil ?_
   refine hK26 _ _ ?_
   clear hK26 K25
   refine WC_ret ?_
   repeat (first | refine thenQ_ret ?_ | refine blockQ_ret ?_)
   try clear hK20 K19
   try clear hJ14 J13
   try clear hK8 K7
   refine ret_tt (v := .int .i64 0) rfl (v1 := .int .i64 1) rfl ?_
   exact ⟨ns, 0, 1, rfl, hX, hD, .inr ⟨ofB_k (k := k) (by omega) (.inl hs6_2), rfl, rfl, rfl⟩⟩
  ·
   try with_reducible replace hs6_2 := of_decide_eq_false hs6_2
   refine WL_val (dd := some 19) rfl rfl rfl (r_move (v := .int .i64 _) rfl) ?_
   refine WL_val (dd := some 20) rfl rfl rfl (r_geq rfl rfl) ?_
   refine WL_val (dd := some 21) rfl rfl rfl (r_pick_f rfl (v := .bool _) rfl) ?_
   refine WL_nil ?_
   refine hK24 _ _ ?_
   clear hK24 K23
   refine WC_cond (b := _) rfl (fun hc2 => ?_) (fun hc2 => ?_)
   ·
    try with_reducible replace hc2 := of_decide_eq_true hc2
    refine WC_seq (fun K27 hK28 => ?_)
    refine WC_region ?_
    refine WL_val (dd := some 4) rfl rfl rfl (r_assign (v := .int .i64 0) rfl) ?_
    refine WL_val (dd := some 5) rfl rfl rfl (r_assign (v := .int .i64 1) rfl) ?_
    refine WL_nil ?_
    refine hK28 _ _ ?_
    clear hK28 K27
    refine WC_ret ?_
    repeat (first | refine thenQ_ret ?_ | refine blockQ_ret ?_)
    try clear hK20 K19
    try clear hJ14 J13
    try clear hK8 K7
    refine ret_tt (v := .int .i64 0) rfl (v1 := .int .i64 1) rfl ?_
    exact ⟨ns, 0, 1, rfl, hX, hD, .inr ⟨ofB_k (k := k) (by omega) (.inr hc2), rfl, rfl, rfl⟩⟩
   ·
    try with_reducible replace hc2 := of_decide_eq_false hc2
    refine WC_skip ?_
    refine hK20 _ _ ?_
    clear hK20 K19
    refine WC_region ?_
    refine WL_val (dd := some 22) rfl rfl rfl (r_addI rfl rfl (by omega) (by omega)) ?_
    refine WL_val (dd := some 12) rfl rfl rfl (r_move (v := .int .i64 _) rfl) ?_
    refine WL_nil ?_
    refine hJ14 _ _ (k + 1) ?_ ?_ ?_ ?_
    · repeat (first | exact agree.mask _ _ _ | refine agree.updo ?_ rfl _ | refine agree.updL ?_ _ rfl | refine agree.maskS rfl ?_)
    · exact ⟨rfl, trivial⟩
    · exact ⟨hz, hD, hX, hl, hB, (by omega), (upTo_succ hq ⟨Int.not_lt.1 hs6_2, Int.not_le.1 hc2⟩), trivial⟩
    · first | omega | (dsimp only; omega)
 ·
  try with_reducible replace hc1 := of_decide_eq_false hc1
  refine WC_exit ?_
  refine hK8 _ _ ?_
  clear hK18 K17
  clear hJ14 J13
  clear hK8 K7
  refine WC_seq (fun K29 hK30 => ?_)
  have hok := ofB_all (l := l) (k := k) (by omega) hq
  refine WC_region ?_
  refine WL_val (dd := some 23) rfl rfl rfl (r_move (v := .pointer (some ⟨bz, 0, none⟩)) rfl) ?_
  refine WL_val (dd := some 24) rfl rfl rfl (r_move (v := xl) rfl) ?_
  refine WL_callG (dd := some 25) rfl rfl rfl (r_call3 tb_c76 (v0 := .pointer (some ⟨bz, 0, none⟩)) rfl (v1 := xl) rfl (v2 := .int .i64 0) rfl) (BuildAll 25 N ba bm bz R ns _ l 0 _ (Nat.le_trans hN0 (Below.size hB)) hz hD hl (ofB_iff.1 hok) hll (by omega) (by omega)) (fun v9_2 W31 hP9_2 => ?_)
  obtain ⟨ns9_2, id9_2, er9_2, rfl, hx9_2, hDn9_2, hg9_2⟩ := hP9_2
  replace hz := At.dx hD hx9_2 hz (by decide) (by decide)
  replace hX := Dx.trans hX (hx9_2)
  try clear hl
  replace hB := Below.dx hB (Nat.le_refl _) hN0 hx9_2
  replace hD := hDn9_2
  refine WL_val (dd := some 26) rfl rfl rfl (r_ext2_0 (h := rfl)) ?_
  refine WL_val (dd := some 27) rfl rfl rfl (r_ext2_1 (h := rfl)) ?_
  refine WL_val (dd := some 4) rfl rfl rfl (r_assign (v := .int .i64 _) rfl) ?_
  refine WL_val (dd := some 5) rfl rfl rfl (r_assign (v := .int .i64 _) rfl) ?_
  refine WL_nil ?_
  refine hK30 _ _ ?_
  clear hK30 K29
  refine WC_ret ?_
  repeat (first | refine thenQ_ret ?_ | refine blockQ_ret ?_)
  refine ret_tt (v := .int .i64 _) rfl (v1 := .int .i64 _) rfl ?_
  exact ⟨_, _, _, rfl, hX, hD, .inl ⟨hok, hg9_2⟩⟩

def PartAt (n : Nat) : Prop := ∀ (N ba bm bz R : Nat) (ns : List Nd) (f j : Nat) (wi : Bool) (w : World), (N ≤ w.heap.size) → (At w bz #[.pointer (some ⟨ba, 0, none⟩)] 100) → (Dia 147 150 N ba bm R w ns) → (f < ns.length + 2) → (j < 24) → 25 - lvl ns f ≤ n →
  FnG Try.prog 88 #[.pointer (some ⟨bz, 0, none⟩), .int .i64 (f : Int), .int .i64 (j : Int), .bool wi] w fun v w' => PO 147 150 N ba bm R w ns (cPt ns f j) (lvl ns f) (pS wi j (M ns f)) v w'

set_option maxRecDepth 10000 in
theorem C_part (n : Nat) (N ba bm bz R : Nat) (ns : List Nd) (f j : Nat) (wi : Bool) (w : World) (ih : PartAt n) (hN0 : N ≤ w.heap.size) (hz : At w bz #[.pointer (some ⟨ba, 0, none⟩)] 100) (hD : Dia 147 150 N ba bm R w ns) (hf : f < ns.length + 2) (hj : j < 24) (hn : 25 - lvl ns f ≤ n + 1) :
    FnG Try.prog 88 #[.pointer (some ⟨bz, 0, none⟩), .int .i64 (f : Int), .int .i64 (j : Int), .bool wi] w fun v w' => PO 147 150 N ba bm R w ns (cPt ns f j) (lvl ns f) (pS wi j (M ns f)) v w' := by
 refine FnG_intro (n := 90) Try.func88 rfl rfl (Nat.le_of_ble_eq_true rfl) ?_
 have hB : Below N w w := Below.refl _ _
 have hX : Dx 150 N [ba, bm] w w := Dx.refl
 have hwf := hD.wf
 have hroom := hD.room
 have htop := hD.top
 refine WC_seq (fun K1 hK2 => ?_)
 refine WC_region ?_
 refine WL_val (dd := some 8) rfl rfl rfl (r_assign (v := .int .i64 0) rfl) ?_
 refine WL_val (dd := some 9) rfl rfl rfl (r_assign (v := .int .i64 0) rfl) ?_
 refine WL_nil ?_
 refine hK2 _ _ ?_
 clear hK2 K1
 refine WC_seq (fun K3 hK4 => ?_)
 refine WC_region ?_
 refine WL_val (dd := some 18) rfl rfl rfl (r_move (v := .pointer (some ⟨bz, 0, none⟩)) rfl) ?_
 refine WL_val (dd := some 19) rfl rfl rfl (r_nilCheck_ptr rfl) ?_
 refine WL_val (dd := some 20) rfl rfl rfl (r_fieldAddr (b := _) (o := _) rfl tb_fo100_0) ?_
 refine WL_val (dd := some 21) rfl rfl rfl (r_load1 (v := .pointer (some ⟨ba, 0, none⟩)) rfl tb_sc96 (At.cell hz rfl)) ?_
 refine WL_val (dd := some 22) rfl rfl rfl (r_move (v := .int .i64 _) rfl) ?_
 refine WL_call (dd := some 23) rfl rfl rfl (r_call2 tb_c86 (v0 := .pointer (some ⟨ba, 0, none⟩)) rfl (v1 := .int .i64 _) rfl) (C___arena_Arena__Node N ba bm R ns (f : Int) _ hD (by omega)) (fun v1_5 W5 hE6 hP1_5 => ?_)
 have hsz7 := (Nat.le_trans hN0 (Below.size hB))
 replace hz := hE6.at hz
 replace hD := Dia.ext hE6 hD
 replace hX := Dx.trans hX (Dx.ext hE6)
 replace hB := below_ext hB hE6 hN0
 clear hE6
 obtain rfl := hP1_5
 clear hsz7
 refine WL_val (dd := some 17) rfl rfl rfl (r_move (v := .tuple #[.int .i64 _, .int .i64 _, .int .i64 _, .bool _]) rfl) ?_
 refine WL_val (dd := some 24) rfl rfl rfl (r_ext4_0 (h := rfl)) ?_
 refine WL_val (dd := some 25) rfl rfl rfl (r_ext4_1 (h := rfl)) ?_
 refine WL_val (dd := some 26) rfl rfl rfl (r_ext4_2 (h := rfl)) ?_
 refine WL_val (dd := some 27) rfl rfl rfl (r_ext4_3 (h := rfl)) ?_
 refine WL_val (dd := some 10) rfl rfl rfl (r_assign (v := .int .i64 _) rfl) ?_
 refine WL_val (dd := some 11) rfl rfl rfl (r_assign (v := .int .i64 _) rfl) ?_
 refine WL_val (dd := some 12) rfl rfl rfl (r_assign (v := .int .i64 _) rfl) ?_
 refine WL_val (dd := some 13) rfl rfl rfl (r_assign (v := .bool _) rfl) ?_
 refine WL_nil ?_
 refine hK4 _ _ ?_
 clear hK4 K3
 refine WC_seq (fun K8 hK9 => ?_)
 refine WC_block ?_
 refine WC_seq (fun K10 hK11 => ?_)
 refine WC_region ?_
 refine WL_val (dd := some 29) rfl rfl rfl (r_move (v := .bool _) rfl) ?_
 refine WL_val (dd := some 30) rfl rfl rfl (r_not rfl) ?_
 refine WL_split (dd := some 31) rfl rfl rfl (r_move (v := .bool _) rfl) (fun hs2_2 => ?_) (fun hs2_2 => ?_)
 ·
  try with_reducible replace hs2_2 := of_decide_eq_true hs2_2
  refine WL_skip (dd := some 32) rfl rfl rfl ?_
  refine WL_skip (dd := some 33) rfl rfl rfl ?_
  refine WL_skip (dd := some 34) rfl rfl rfl ?_
  refine WL_val (dd := some 35) rfl rfl rfl (r_pick_t rfl (v := .bool true) rfl) ?_
  refine WL_val (dd := some 36) rfl rfl rfl (r_move (v := .bool true) rfl) ?_
  refine WL_val (dd := some 37) rfl rfl rfl (r_move (v := .bool _) rfl) ?_
  refine WL_val (dd := some 38) rfl rfl rfl (r_pick_t rfl (v := .bool _) rfl) ?_
  refine WL_val (dd := some 28) rfl rfl rfl (r_assign (v := .bool _) rfl) ?_
  refine WL_nil ?_
  refine hK11 _ _ ?_
  clear hK11 K10
  refine WC_cond (b := _) rfl (fun hc0 => ?_) (fun hc0 => ?_)
  ·
   try with_reducible replace hc0 := of_decide_eq_true hc0
   refine WC_seq (fun K12 hK13 => ?_)
   refine WC_region ?_
   refine WL_val (dd := some 8) rfl rfl rfl (r_assign (v := .int .i64 0) rfl) ?_
   refine WL_val (dd := some 9) rfl rfl rfl (r_assign (v := .int .i64 0) rfl) ?_
   refine WL_nil ?_
   refine hK13 _ _ ?_
   clear hK13 K12
   refine WC_ret ?_
   repeat (first | refine thenQ_ret ?_ | refine blockQ_ret ?_)
   try clear hK9 K8
   refine ret_tt (v := .int .i64 0) rfl (v1 := .int .i64 0) rfl ?_
   obtain rfl : wi = true := hc0
   have h2 := no_node hf (nodeI_f hs2_2).1
   exact ⟨ns, 0, 0, rfl, hX, hD, Got.same (by omega) (by rw [lvl0]; exact lvl_le hwf hf) (part_none hwf hf (by rw [lvl_small h2]; exact hj)).2⟩
  ·
   try with_reducible replace hc0 := of_decide_eq_false hc0
   refine WC_seq (fun K14 hK15 => ?_)
   refine WC_region ?_
   refine WL_val (dd := some 40) rfl rfl rfl (r_move (v := .bool _) rfl) ?_
   refine WL_val (dd := some 41) rfl rfl rfl (r_not rfl) ?_
   refine WL_split (dd := some 42) rfl rfl rfl (r_move (v := .bool _) rfl) (fun hs4_2 => ?_) (fun hs4_2 => ?_)
   ·
    try with_reducible replace hs4_2 := of_decide_eq_true hs4_2
    refine WL_skip (dd := some 43) rfl rfl rfl ?_
    refine WL_skip (dd := some 44) rfl rfl rfl ?_
    refine WL_skip (dd := some 45) rfl rfl rfl ?_
    refine WL_val (dd := some 46) rfl rfl rfl (r_pick_t rfl (v := .bool true) rfl) ?_
    refine WL_val (dd := some 39) rfl rfl rfl (r_assign (v := .bool true) rfl) ?_
    refine WL_nil ?_
    refine hK15 _ _ ?_
    clear hK15 K14
    refine WC_cond_true rfl ?_
    refine WC_seq (fun K16 hK17 => ?_)
    refine WC_region ?_
    refine WL_val (dd := some 47) rfl rfl rfl (r_move (v := .int .i64 _) rfl) ?_
    refine WL_val (dd := some 8) rfl rfl rfl (r_assign (v := .int .i64 _) rfl) ?_
    refine WL_val (dd := some 9) rfl rfl rfl (r_assign (v := .int .i64 0) rfl) ?_
    refine WL_nil ?_
    refine hK17 _ _ ?_
    clear hK17 K16
    refine WC_ret ?_
    repeat (first | refine thenQ_ret ?_ | refine blockQ_ret ?_)
    try clear hK9 K8
    refine ret_tt (v := .int .i64 _) rfl (v1 := .int .i64 0) rfl ?_
    obtain rfl : wi = false := hc0
    have h2 := no_node hf (nodeI_f hs2_2).1
    exact ⟨ns, f, 0, rfl, hX, hD, Got.same hf (Nat.le_refl _) (part_none hwf hf (by rw [lvl_small h2]; exact hj)).1⟩
   ·
    try with_reducible replace hs4_2 := of_decide_eq_false hs4_2
    exact absurd hs2_2 (by rw [hs4_2]; decide)
 ·
  try with_reducible replace hs2_2 := of_decide_eq_false hs2_2
  refine WL_val (dd := some 32) rfl rfl rfl (r_move (v := .int .i64 _) rfl) ?_
  refine WL_val (dd := some 33) rfl rfl rfl (r_move (v := .int .i64 _) rfl) ?_
  refine WL_val (dd := some 34) rfl rfl rfl (r_gtr rfl rfl) ?_
  refine WL_val (dd := some 35) rfl rfl rfl (r_pick_f rfl (v := .bool _) rfl) ?_
  refine WL_split (dd := some 36) rfl rfl rfl (r_move (v := .bool _) rfl) (fun hs2_7 => ?_) (fun hs2_7 => ?_)
  ·
   try with_reducible replace hs2_7 := of_decide_eq_true hs2_7
   refine WL_val (dd := some 37) rfl rfl rfl (r_move (v := .bool _) rfl) ?_
   refine WL_val (dd := some 38) rfl rfl rfl (r_pick_t rfl (v := .bool _) rfl) ?_
   refine WL_val (dd := some 28) rfl rfl rfl (r_assign (v := .bool _) rfl) ?_
   refine WL_nil ?_
   refine hK11 _ _ ?_
   clear hK11 K10
   refine WC_cond (b := _) rfl (fun hc0 => ?_) (fun hc0 => ?_)
   ·
    try with_reducible replace hc0 := of_decide_eq_true hc0
    refine WC_seq (fun K18 hK19 => ?_)
    refine WC_region ?_
    refine WL_val (dd := some 8) rfl rfl rfl (r_assign (v := .int .i64 0) rfl) ?_
    refine WL_val (dd := some 9) rfl rfl rfl (r_assign (v := .int .i64 0) rfl) ?_
    refine WL_nil ?_
    refine hK19 _ _ ?_
    clear hK19 K18
    refine WC_ret ?_
    repeat (first | refine thenQ_ret ?_ | refine blockQ_ret ?_)
    try clear hK9 K8
    refine ret_tt (v := .int .i64 0) rfl (v1 := .int .i64 0) rfl ?_
    obtain rfl : wi = true := hc0
    have hnd := node_of hwf hf (nodeI_t hs2_2).1
    exact ⟨ns, 0, 0, rfl, hX, hD, Got.same (by omega) (by rw [lvl0]; exact lvl_le hwf hf) (part_none hwf hf (by rw [hnd.lv]; omega)).2⟩
   ·
    try with_reducible replace hc0 := of_decide_eq_false hc0
    refine WC_seq (fun K20 hK21 => ?_)
    refine WC_region ?_
    refine WL_val (dd := some 40) rfl rfl rfl (r_move (v := .bool _) rfl) ?_
    refine WL_val (dd := some 41) rfl rfl rfl (r_not rfl) ?_
    refine WL_split (dd := some 42) rfl rfl rfl (r_move (v := .bool _) rfl) (fun hs4_2 => ?_) (fun hs4_2 => ?_)
    ·
     try with_reducible replace hs4_2 := of_decide_eq_true hs4_2
     exact absurd hs4_2 (by rw [hs2_2]; decide)
    ·
     try with_reducible replace hs4_2 := of_decide_eq_false hs4_2
     refine WL_val (dd := some 43) rfl rfl rfl (r_move (v := .int .i64 _) rfl) ?_
     refine WL_val (dd := some 44) rfl rfl rfl (r_move (v := .int .i64 _) rfl) ?_
     refine WL_val (dd := some 45) rfl rfl rfl (r_gtr rfl rfl) ?_
     refine WL_val (dd := some 46) rfl rfl rfl (r_pick_f rfl (v := .bool _) rfl) ?_
     refine WL_val (dd := some 39) rfl rfl rfl (r_assign (v := .bool _) rfl) ?_
     refine WL_nil ?_
     refine hK21 _ _ ?_
     clear hK21 K20
     refine WC_cond (b := _) rfl (fun hc1 => ?_) (fun hc1 => ?_)
     ·
      try with_reducible replace hc1 := of_decide_eq_true hc1
      refine WC_seq (fun K22 hK23 => ?_)
      refine WC_region ?_
      refine WL_val (dd := some 47) rfl rfl rfl (r_move (v := .int .i64 _) rfl) ?_
      refine WL_val (dd := some 8) rfl rfl rfl (r_assign (v := .int .i64 _) rfl) ?_
      refine WL_val (dd := some 9) rfl rfl rfl (r_assign (v := .int .i64 0) rfl) ?_
      refine WL_nil ?_
      refine hK23 _ _ ?_
      clear hK23 K22
      refine WC_ret ?_
      repeat (first | refine thenQ_ret ?_ | refine blockQ_ret ?_)
      try clear hK9 K8
      refine ret_tt (v := .int .i64 _) rfl (v1 := .int .i64 0) rfl ?_
      obtain rfl : wi = false := hc0
      have hnd := node_of hwf hf (nodeI_t hs2_2).1
      exact ⟨ns, f, 0, rfl, hX, hD, Got.same hf (Nat.le_refl _) (part_none hwf hf (by rw [hnd.lv]; omega)).1⟩
     ·
      try with_reducible replace hc1 := of_decide_eq_false hc1
      omega
  ·
   try with_reducible replace hs2_7 := of_decide_eq_false hs2_7
   refine WL_skip (dd := some 37) rfl rfl rfl ?_
   refine WL_val (dd := some 38) rfl rfl rfl (r_pick_f rfl (v := .bool false) rfl) ?_
   refine WL_val (dd := some 28) rfl rfl rfl (r_assign (v := .bool false) rfl) ?_
   refine WL_nil ?_
   refine hK11 _ _ ?_
   clear hK11 K10
   refine WC_cond_false rfl ?_
   refine WC_seq (fun K24 hK25 => ?_)
   refine WC_region ?_
   refine WL_val (dd := some 40) rfl rfl rfl (r_move (v := .bool _) rfl) ?_
   refine WL_val (dd := some 41) rfl rfl rfl (r_not rfl) ?_
   refine WL_split (dd := some 42) rfl rfl rfl (r_move (v := .bool _) rfl) (fun hs4_2 => ?_) (fun hs4_2 => ?_)
   ·
    try with_reducible replace hs4_2 := of_decide_eq_true hs4_2
    exact absurd hs4_2 (by rw [hs2_2]; decide)
   ·
    try with_reducible replace hs4_2 := of_decide_eq_false hs4_2
    refine WL_val (dd := some 43) rfl rfl rfl (r_move (v := .int .i64 _) rfl) ?_
    refine WL_val (dd := some 44) rfl rfl rfl (r_move (v := .int .i64 _) rfl) ?_
    refine WL_val (dd := some 45) rfl rfl rfl (r_gtr rfl rfl) ?_
    refine WL_val (dd := some 46) rfl rfl rfl (r_pick_f rfl (v := .bool _) rfl) ?_
    refine WL_val (dd := some 39) rfl rfl rfl (r_assign (v := .bool _) rfl) ?_
    refine WL_nil ?_
    refine hK25 _ _ ?_
    clear hK25 K24
    refine WC_cond (b := _) rfl (fun hc1 => ?_) (fun hc1 => ?_)
    ·
     try with_reducible replace hc1 := of_decide_eq_true hc1
     omega
    ·
     try with_reducible replace hc1 := of_decide_eq_false hc1
     refine WC_seq (fun K26 hK27 => ?_)
     have hnd := node_of hwf hf (nodeI_t hs2_2).1
     have hnl := hnd.lv
     have hn1 := hnd.llo
     have hn2 := hnd.lhi
     have hn3 := hnd.l24
     have hle := lvl_le hwf hnd.vlo
     have hpos := List.length_pos_of_mem (mems_ne hwf f hf (by have := hnd.two; omega)).choose_spec
     refine WC_region ?_
     refine WL_val (dd := some 49) rfl rfl rfl (r_move (v := .int .i64 _) rfl) ?_
     refine WL_val (dd := some 50) rfl rfl rfl (r_move (v := .int .i64 _) rfl) ?_
     refine WL_val (dd := some 51) rfl rfl rfl (r_eql rfl rfl) ?_
     refine WL_split (dd := some 52) rfl rfl rfl (r_move (v := .bool _) rfl) (fun hs6_3 => ?_) (fun hs6_3 => ?_)
     ·
      try with_reducible replace hs6_3 := of_decide_eq_true hs6_3
      refine WL_val (dd := some 53) rfl rfl rfl (r_move (v := .bool _) rfl) ?_
      refine WL_val (dd := some 54) rfl rfl rfl (r_pick_t rfl (v := .bool _) rfl) ?_
      refine WL_val (dd := some 48) rfl rfl rfl (r_assign (v := .bool _) rfl) ?_
      refine WL_nil ?_
      refine hK27 _ _ ?_
      clear hK27 K26
      refine WC_cond (b := _) rfl (fun hc2 => ?_) (fun hc2 => ?_)
      ·
       try with_reducible replace hc2 := of_decide_eq_true hc2
       refine WC_seq (fun K28 hK29 => ?_)
       refine WC_region ?_
       refine WL_val (dd := some 55) rfl rfl rfl (r_move (v := .int .i64 _) rfl) ?_
       refine WL_val (dd := some 8) rfl rfl rfl (r_assign (v := .int .i64 _) rfl) ?_
       refine WL_val (dd := some 9) rfl rfl rfl (r_assign (v := .int .i64 0) rfl) ?_
       refine WL_nil ?_
       refine hK29 _ _ ?_
       clear hK29 K28
       refine WC_ret ?_
       repeat (first | refine thenQ_ret ?_ | refine blockQ_ret ?_)
       try clear hK9 K8
       refine ret_tt (v := .int .i64 _) rfl (v1 := .int .i64 0) rfl ?_
       obtain rfl : wi = true := hc2
       obtain rfl : j = (nodeI ns (f : Int)).l := by omega
       exact ⟨ns, _, 0, rfl, hX, hD, Got.same hnd.vhi (by omega) (part_here hwf hnd).2⟩
      ·
       try with_reducible replace hc2 := of_decide_eq_false hc2
       refine WC_seq (fun K30 hK31 => ?_)
       refine WC_region ?_
       refine WL_val (dd := some 57) rfl rfl rfl (r_move (v := .int .i64 _) rfl) ?_
       refine WL_val (dd := some 58) rfl rfl rfl (r_move (v := .int .i64 _) rfl) ?_
       refine WL_val (dd := some 59) rfl rfl rfl (r_eql rfl rfl) ?_
       refine WL_val (dd := some 56) rfl rfl rfl (r_assign (v := .bool _) rfl) ?_
       refine WL_nil ?_
       refine hK31 _ _ ?_
       clear hK31 K30
       refine WC_cond (b := _) rfl (fun hc3 => ?_) (fun hc3 => ?_)
       ·
        try with_reducible replace hc3 := of_decide_eq_true hc3
        refine WC_seq (fun K32 hK33 => ?_)
        refine WC_region ?_
        refine WL_val (dd := some 60) rfl rfl rfl (r_move (v := .int .i64 _) rfl) ?_
        refine WL_val (dd := some 8) rfl rfl rfl (r_assign (v := .int .i64 _) rfl) ?_
        refine WL_val (dd := some 9) rfl rfl rfl (r_assign (v := .int .i64 0) rfl) ?_
        refine WL_nil ?_
        refine hK33 _ _ ?_
        clear hK33 K32
        refine WC_ret ?_
        repeat (first | refine thenQ_ret ?_ | refine blockQ_ret ?_)
        try clear hK9 K8
        refine ret_tt (v := .int .i64 _) rfl (v1 := .int .i64 0) rfl ?_
        obtain rfl : wi = false := hc2
        obtain rfl : j = (nodeI ns (f : Int)).l := by omega
        exact ⟨ns, _, 0, rfl, hX, hD, Got.same hnd.vlo (by omega) (part_here hwf hnd).1⟩
       ·
        try with_reducible replace hc3 := of_decide_eq_false hc3
        omega
     ·
      try with_reducible replace hs6_3 := of_decide_eq_false hs6_3
      refine WL_skip (dd := some 53) rfl rfl rfl ?_
      refine WL_val (dd := some 54) rfl rfl rfl (r_pick_f rfl (v := .bool false) rfl) ?_
      refine WL_val (dd := some 48) rfl rfl rfl (r_assign (v := .bool false) rfl) ?_
      refine WL_nil ?_
      refine hK27 _ _ ?_
      clear hK27 K26
      refine WC_cond_false rfl ?_
      refine WC_seq (fun K34 hK35 => ?_)
      refine WC_region ?_
      refine WL_val (dd := some 57) rfl rfl rfl (r_move (v := .int .i64 _) rfl) ?_
      refine WL_val (dd := some 58) rfl rfl rfl (r_move (v := .int .i64 _) rfl) ?_
      refine WL_val (dd := some 59) rfl rfl rfl (r_eql rfl rfl) ?_
      refine WL_val (dd := some 56) rfl rfl rfl (r_assign (v := .bool _) rfl) ?_
      refine WL_nil ?_
      refine hK35 _ _ ?_
      clear hK35 K34
      refine WC_cond (b := _) rfl (fun hc3 => ?_) (fun hc3 => ?_)
      ·
       try with_reducible replace hc3 := of_decide_eq_true hc3
       omega
      ·
       try with_reducible replace hc3 := of_decide_eq_false hc3
       refine WC_skip ?_
       refine hK9 _ _ ?_
       clear hK9 K8
       refine WC_seq (fun K36 hK37 => ?_)
       have hpc := part_c hwf hf hnd (j := j) (by omega)
       refine WC_region ?_
       refine WL_val (dd := some 62) rfl rfl rfl (r_move (v := .pointer (some ⟨bz, 0, none⟩)) rfl) ?_
       refine WL_val (dd := some 63) rfl rfl rfl (r_move (v := .int .i64 _) rfl) ?_
       refine WL_val (dd := some 64) rfl rfl rfl (r_move (v := .int .i64 _) rfl) ?_
       refine WL_val (dd := some 65) rfl rfl rfl (r_move (v := .bool _) rfl) ?_
       refine WL_callG (dd := some 66) rfl rfl rfl (r_call4 tb_c88 (v0 := .pointer (some ⟨bz, 0, none⟩)) rfl (v1 := .int .i64 _) rfl (v2 := .int .i64 _) rfl (v3 := .bool _) rfl) (ih N ba bm bz R ns (nodeI ns (f : Int)).lo j wi _ (Nat.le_trans hN0 (Below.size hB)) hz hD hnd.vlo hj (by omega)) (fun v10_4 W38 hP10_4 => ?_)
       obtain ⟨ns10_4, id10_4, er10_4, rfl, hx10_4, hDn10_4, hg10_4⟩ := hP10_4
       replace hz := At.dx hD hx10_4 hz (by decide) (by decide)
       replace hX := Dx.trans hX (hx10_4)
       replace hB := Below.dx hB (Nat.le_refl _) hN0 hx10_4
       replace hD := hDn10_4
       refine WL_val (dd := some 61) rfl rfl rfl (r_move (v := .tuple #[.int .i64 (id10_4 : Int), .int .i64 er10_4]) rfl) ?_
       refine WL_val (dd := some 67) rfl rfl rfl (r_ext2_0 (h := rfl)) ?_
       refine WL_val (dd := some 68) rfl rfl rfl (r_ext2_1 (h := rfl)) ?_
       refine WL_val (dd := some 14) rfl rfl rfl (r_assign (v := .int .i64 _) rfl) ?_
       refine WL_val (dd := some 15) rfl rfl rfl (r_assign (v := .int .i64 _) rfl) ?_
       refine WL_nil ?_
       refine hK37 _ _ ?_
       clear hK37 K36
       refine WC_seq (fun K40 hK41 => ?_)
       refine WC_seq (fun K42 hK43 => ?_)
       refine WC_region ?_
       refine WL_val (dd := some 69) rfl rfl rfl (r_move (v := .int .i64 _) rfl) ?_
       refine WL_val (dd := some 70) rfl rfl rfl (r_neq rfl rfl) ?_
       refine WL_nil ?_
       refine hK43 _ _ ?_
       clear hK43 K42
       refine WC_cond (b := _) rfl (fun hc4 => ?_) (fun hc4 => ?_)
       ·
        try with_reducible replace hc4 := of_decide_eq_true hc4
        refine WC_seq (fun K44 hK45 => ?_)
        refine WC_region ?_
        refine WL_val (dd := some 71) rfl rfl rfl (r_move (v := .int .i64 _) rfl) ?_
        refine WL_val (dd := some 8) rfl rfl rfl (r_assign (v := .int .i64 0) rfl) ?_
        refine WL_val (dd := some 9) rfl rfl rfl (r_assign (v := .int .i64 _) rfl) ?_
        refine WL_nil ?_
        refine hK45 _ _ ?_
        clear hK45 K44
        refine WC_ret ?_
        repeat (first | refine thenQ_ret ?_ | refine blockQ_ret ?_)
        try clear hK41 K40
        refine ret_tt (v := .int .i64 0) rfl (v1 := .int .i64 _) rfl ?_
        exact ⟨_, 0, _, rfl, hX, hD, hg10_4.fail hc4 (by omega)⟩
       ·
        try with_reducible replace hc4 := of_decide_eq_false hc4
        refine WC_skip ?_
        refine hK41 _ _ ?_
        clear hK41 K40
        refine WC_seq (fun K46 hK47 => ?_)
        have he : er10_4 = 0 := Decidable.of_not_not hc4
        subst he
        obtain ⟨v1, v1l, _⟩ := hg10_4.ok rfl
        obtain ⟨b1, b2, b3⟩ := hg10_4.old hnd.vhi
        refine WC_region ?_
        refine WL_val (dd := some 73) rfl rfl rfl (r_move (v := .pointer (some ⟨bz, 0, none⟩)) rfl) ?_
        refine WL_val (dd := some 74) rfl rfl rfl (r_move (v := .int .i64 _) rfl) ?_
        refine WL_val (dd := some 75) rfl rfl rfl (r_move (v := .int .i64 _) rfl) ?_
        refine WL_val (dd := some 76) rfl rfl rfl (r_move (v := .bool _) rfl) ?_
        refine WL_callG (dd := some 77) rfl rfl rfl (r_call4 tb_c88 (v0 := .pointer (some ⟨bz, 0, none⟩)) rfl (v1 := .int .i64 _) rfl (v2 := .int .i64 _) rfl (v3 := .bool _) rfl) (ih N ba bm bz R ns10_4 (nodeI ns (f : Int)).hi j wi _ (Nat.le_trans hN0 (Below.size hB)) hz hD b1 hj (by omega)) (fun v13_4 W48 hP13_4 => ?_)
        obtain ⟨ns13_4, id13_4, er13_4, rfl, hx13_4, hDn13_4, hg13_4⟩ := hP13_4
        replace hz := At.dx hD hx13_4 hz (by decide) (by decide)
        replace hX := Dx.trans hX (hx13_4)
        replace hB := Below.dx hB (Nat.le_refl _) hN0 hx13_4
        replace hD := hDn13_4
        refine WL_val (dd := some 72) rfl rfl rfl (r_move (v := .tuple #[.int .i64 (id13_4 : Int), .int .i64 er13_4]) rfl) ?_
        refine WL_val (dd := some 78) rfl rfl rfl (r_ext2_0 (h := rfl)) ?_
        refine WL_val (dd := some 79) rfl rfl rfl (r_ext2_1 (h := rfl)) ?_
        refine WL_val (dd := some 16) rfl rfl rfl (r_assign (v := .int .i64 _) rfl) ?_
        refine WL_val (dd := some 15) rfl rfl rfl (r_assign (v := .int .i64 _) rfl) ?_
        refine WL_nil ?_
        refine hK47 _ _ ?_
        clear hK47 K46
        refine WC_seq (fun K50 hK51 => ?_)
        refine WC_seq (fun K52 hK53 => ?_)
        rw [cPt_pre hg10_4.pre hnd.vhi, b3, M_pre hg10_4.pre hnd.vhi] at hg13_4
        refine WC_region ?_
        refine WL_val (dd := some 80) rfl rfl rfl (r_move (v := .int .i64 _) rfl) ?_
        refine WL_val (dd := some 81) rfl rfl rfl (r_neq rfl rfl) ?_
        refine WL_nil ?_
        refine hK53 _ _ ?_
        clear hK53 K52
        refine WC_cond (b := _) rfl (fun hc5 => ?_) (fun hc5 => ?_)
        ·
         try with_reducible replace hc5 := of_decide_eq_true hc5
         refine WC_seq (fun K54 hK55 => ?_)
         refine WC_region ?_
         refine WL_val (dd := some 82) rfl rfl rfl (r_move (v := .int .i64 _) rfl) ?_
         refine WL_val (dd := some 8) rfl rfl rfl (r_assign (v := .int .i64 0) rfl) ?_
         refine WL_val (dd := some 9) rfl rfl rfl (r_assign (v := .int .i64 _) rfl) ?_
         refine WL_nil ?_
         refine hK55 _ _ ?_
         clear hK55 K54
         refine WC_ret ?_
         repeat (first | refine thenQ_ret ?_ | refine blockQ_ret ?_)
         try clear hK51 K50
         refine ret_tt (v := .int .i64 0) rfl (v1 := .int .i64 _) rfl ?_
         exact ⟨_, 0, _, rfl, hX, hD, hg10_4.fail2 hg13_4 hc5 (by omega)⟩
        ·
         try with_reducible replace hc5 := of_decide_eq_false hc5
         refine WC_skip ?_
         refine hK51 _ _ ?_
         clear hK51 K50
         refine WC_seq (fun K56 hK57 => ?_)
         have he : er13_4 = 0 := Decidable.of_not_not hc5
         subst he
         obtain ⟨p1, _, p3⟩ := hg13_4.old v1
         obtain ⟨q1, q2, _⟩ := hg13_4.ok rfl
         refine WC_region ?_
         refine WL_val (dd := some 83) rfl rfl rfl (r_move (v := .pointer (some ⟨bz, 0, none⟩)) rfl) ?_
         refine WL_val (dd := some 84) rfl rfl rfl (r_move (v := .int .i64 _) rfl) ?_
         refine WL_val (dd := some 85) rfl rfl rfl (r_move (v := .int .i64 _) rfl) ?_
         refine WL_val (dd := some 86) rfl rfl rfl (r_move (v := .int .i64 _) rfl) ?_
         refine WL_callG (dd := some 87) rfl rfl rfl (r_call4 tb_c121 (v0 := .pointer (some ⟨bz, 0, none⟩)) rfl (v1 := .int .i64 _) rfl (v2 := .int .i64 _) rfl (v3 := .int .i64 _) rfl) (C___zdd_Zdd__node N ba bm bz R ns13_4 (nodeI ns (f : Int)).l id10_4 id13_4 _ (Nat.le_trans hN0 (Below.size hB)) hz hD p1 q1 (by omega) (by omega) hn3) (fun v16_4 W58 hP16_4 => ?_)
         obtain ⟨ns16_4, id16_4, er16_4, rfl, hx16_4, hDn16_4, hg16_4⟩ := hP16_4
         replace hz := At.dx hD hx16_4 hz (by decide) (by decide)
         replace hX := Dx.trans hX (hx16_4)
         replace hB := Below.dx hB (Nat.le_refl _) hN0 hx16_4
         replace hD := hDn16_4
         refine WL_val (dd := some 88) rfl rfl rfl (r_ext2_0 (h := rfl)) ?_
         refine WL_val (dd := some 89) rfl rfl rfl (r_ext2_1 (h := rfl)) ?_
         refine WL_val (dd := some 8) rfl rfl rfl (r_assign (v := .int .i64 _) rfl) ?_
         refine WL_val (dd := some 9) rfl rfl rfl (r_assign (v := .int .i64 _) rfl) ?_
         refine WL_nil ?_
         refine hK57 _ _ ?_
         clear hK57 K56
         refine WC_ret ?_
         repeat (first | refine thenQ_ret ?_ | refine blockQ_ret ?_)
         refine ret_tt (v := .int .i64 _) rfl (v1 := .int .i64 _) rfl ?_
         exact ⟨_, _, _, rfl, hX, hD, part_got hwf hf hnd (by omega) hg10_4 hg13_4 (hg16_4.cheap (Nat.min_le_right _ _)) hpos⟩

theorem PartAll : ∀ n, PartAt n
  | 0 => fun N ba bm bz R ns f j wi w _ _ hD hf _ hn => by
    have := lvl_le hD.wf hf
    omega
  | n + 1 => fun N ba bm bz R ns f j wi w => C_part n N ba bm bz R ns f j wi w (PartAll n)

theorem C___zdd_Zdd__item (N ba bm bz R : Nat) (ns : List Nd) (f j : Int) (w : World) (hz : At w bz #[.pointer (some ⟨ba, 0, none⟩)] 100) (hD : Dia 147 150 N ba bm R w ns) (hid : f ≤ 9223372036854775807) :
    Fn Try.prog 87 #[.pointer (some ⟨bz, 0, none⟩), .int .i64 f, .int .i64 j] w fun v w' => v = .bool (thereZ ns f && decide (0 ≤ j ∧ j < 24)) := by
 refine Fn_intro (n := 19) Try.func87 rfl rfl (Nat.le_of_ble_eq_true rfl) ?_
 have hB : Below w.heap.size w w := Below.refl _ _
 refine WC_seq (fun K1 hK2 => ?_)
 refine WC_region ?_
 refine WL_val (dd := some 6) rfl rfl rfl (r_assign (v := .bool false) rfl) ?_
 refine WL_nil ?_
 refine hK2 _ _ ?_
 clear hK2 K1
 refine WC_seq (fun K3 hK4 => ?_)
 refine WC_region ?_
 refine WL_val (dd := some 7) rfl rfl rfl (r_move (v := .pointer (some ⟨bz, 0, none⟩)) rfl) ?_
 refine WL_val (dd := some 8) rfl rfl rfl (r_move (v := .int .i64 _) rfl) ?_
 refine WL_step (dd := some 9) rfl rfl rfl (Y_lit1 (u := .int .i64 _) rfl tb_el22 tb_zs3 rfl (by decide) (by decide) (fun b1_2 W5 hb6 hE7 hm1_2 => ?_))
 have lo_b1_2 : w.heap.size ≤ b1_2 := hb6 ▸ (Below.size hB)
 clear hb6
 replace hB := below_ext hB hE7 (Nat.le_refl _)
 clear hE7
 have ho8 := own_lit1 (enc := encI) (a := _) hm1_2 rfl rfl lo_b1_2
 clear hm1_2
 refine WL_call (dd := some 10) rfl rfl rfl (r_call2 tb_c73 (v0 := .pointer (some ⟨bz, 0, none⟩)) rfl (v1 := .slice (some ⟨b1_2, 0, none⟩) 1 1) rfl) (C___zdd_Zdd__there N ba bm bz R ns _ [f] _ (Below.atI hB hz) (Dia.below hB hD) ho8.sl (by simp) (by simp; omega)) (fun v1_3 W9 hE10 hP1_3 => ?_)
 have hsz11 := (Below.size hB)
 replace hB := below_ext hB hE10 (Nat.le_refl _)
 replace ho8 := hE10.ow ho8
 clear hE10
 clear hsz11
 obtain rfl := hP1_3
 refine WL_split (dd := some 11) rfl rfl rfl (r_move (v := .bool _) rfl) (fun hs1_4 => ?_) (fun hs1_4 => ?_)
 ·
  try with_reducible replace hs1_4 := of_decide_eq_true hs1_4
  refine WL_val (dd := some 12) rfl rfl rfl (r_move (v := .int .i64 _) rfl) ?_
  refine WL_val (dd := some 13) rfl rfl rfl (r_geq rfl rfl) ?_
  refine WL_val (dd := some 14) rfl rfl rfl (r_pick_t rfl (v := .bool _) rfl) ?_
  refine WL_split (dd := some 15) rfl rfl rfl (r_move (v := .bool _) rfl) (fun hs1_8 => ?_) (fun hs1_8 => ?_)
  ·
   try with_reducible replace hs1_8 := of_decide_eq_true hs1_8
   refine WL_val (dd := some 16) rfl rfl rfl (r_move (v := .int .i64 _) rfl) ?_
   refine WL_val (dd := some 17) rfl rfl rfl (r_lss rfl rfl) ?_
   refine WL_val (dd := some 18) rfl rfl rfl (r_pick_t rfl (v := .bool _) rfl) ?_
   refine WL_val (dd := some 6) rfl rfl rfl (r_assign (v := .bool _) rfl) ?_
   refine WL_nil ?_
   refine hK4 _ _ ?_
   clear hK4 K3
   refine WC_ret ?_
   repeat (first | refine thenQ_ret ?_ | refine blockQ_ret ?_)
   refine ret_t (v := .bool _) rfl ?_
   refine ⟨hB, ?_⟩
   first | (rw [show thereZ ns f = false by simpa using hs1_4]; rfl) | (rw [show thereZ ns f = true by simpa using hs1_4, decide_eq_false (show ¬ (0 ≤ j ∧ j < 24) by omega)]; rfl) | exact congrArg Value.bool (by rw [show thereZ ns f = true by simpa using hs1_4, Bool.true_and]; exact decide_eq_decide.2 ⟨fun h => ⟨hs1_8, h⟩, fun h => h.2⟩)
  ·
   try with_reducible replace hs1_8 := of_decide_eq_false hs1_8
   refine WL_skip (dd := some 16) rfl rfl rfl ?_
   refine WL_skip (dd := some 17) rfl rfl rfl ?_
   refine WL_val (dd := some 18) rfl rfl rfl (r_pick_f rfl (v := .bool false) rfl) ?_
   refine WL_val (dd := some 6) rfl rfl rfl (r_assign (v := .bool false) rfl) ?_
   refine WL_nil ?_
   refine hK4 _ _ ?_
   clear hK4 K3
   refine WC_ret ?_
   repeat (first | refine thenQ_ret ?_ | refine blockQ_ret ?_)
   refine ret_t (v := .bool false) rfl ?_
   refine ⟨hB, ?_⟩
   first | (rw [show thereZ ns f = false by simpa using hs1_4]; rfl) | (rw [show thereZ ns f = true by simpa using hs1_4, decide_eq_false (show ¬ (0 ≤ j ∧ j < 24) by omega)]; rfl) | exact congrArg Value.bool (by rw [show thereZ ns f = true by simpa using hs1_4, Bool.true_and]; exact decide_eq_decide.2 ⟨fun h => ⟨hs1_8, h⟩, fun h => h.2⟩)
 ·
  try with_reducible replace hs1_4 := of_decide_eq_false hs1_4
  refine WL_skip (dd := some 12) rfl rfl rfl ?_
  refine WL_skip (dd := some 13) rfl rfl rfl ?_
  refine WL_val (dd := some 14) rfl rfl rfl (r_pick_f rfl (v := .bool false) rfl) ?_
  refine WL_val (dd := some 15) rfl rfl rfl (r_move (v := .bool false) rfl) ?_
  refine WL_skip (dd := some 16) rfl rfl rfl ?_
  refine WL_skip (dd := some 17) rfl rfl rfl ?_
  refine WL_val (dd := some 18) rfl rfl rfl (r_pick_f rfl (v := .bool false) rfl) ?_
  refine WL_val (dd := some 6) rfl rfl rfl (r_assign (v := .bool false) rfl) ?_
  refine WL_nil ?_
  refine hK4 _ _ ?_
  clear hK4 K3
  refine WC_ret ?_
  repeat (first | refine thenQ_ret ?_ | refine blockQ_ret ?_)
  refine ret_t (v := .bool false) rfl ?_
  refine ⟨hB, ?_⟩
  first | (rw [show thereZ ns f = false by simpa using hs1_4]; rfl) | (rw [show thereZ ns f = true by simpa using hs1_4, decide_eq_false (show ¬ (0 ≤ j ∧ j < 24) by omega)]; rfl) | exact congrArg Value.bool (by rw [show thereZ ns f = true by simpa using hs1_4, Bool.true_and]; exact decide_eq_decide.2 ⟨fun h => ⟨hs1_8, h⟩, fun h => h.2⟩)

theorem C___zdd_Zdd__With (N ba bm bz R : Nat) (ns : List Nd) (f : Nat) (j : Int) (w : World) (hN0 : N ≤ w.heap.size) (hz : At w bz #[.pointer (some ⟨ba, 0, none⟩)] 100) (hD : Dia 147 150 N ba bm R w ns) (hf : f < ns.length + 2) :
    FnG Try.prog 40 #[.pointer (some ⟨bz, 0, none⟩), .int .i64 (f : Int), .int .i64 j] w fun v w' => PE 147 150 N ba bm R w ns (decide (0 ≤ j ∧ j < 24)) (cPt ns f j.toNat) (lvl ns f) (pS true j.toNat (M ns f)) v w' := by
 refine FnG_intro (n := 19) Try.func40 rfl rfl (Nat.le_of_ble_eq_true rfl) ?_
 have hB : Below N w w := Below.refl _ _
 have hX : Dx 150 N [ba, bm] w w := Dx.refl
 have hwf := hD.wf
 have hroom := hD.room
 have htop := hD.top
 refine WC_seq (fun K1 hK2 => ?_)
 refine WC_region ?_
 refine WL_val (dd := some 6) rfl rfl rfl (r_assign (v := .int .i64 0) rfl) ?_
 refine WL_val (dd := some 7) rfl rfl rfl (r_assign (v := .int .i64 0) rfl) ?_
 refine WL_nil ?_
 refine hK2 _ _ ?_
 clear hK2 K1
 refine WC_seq (fun K3 hK4 => ?_)
 refine WC_seq (fun K5 hK6 => ?_)
 refine WC_region ?_
 refine WL_val (dd := some 8) rfl rfl rfl (r_move (v := .pointer (some ⟨bz, 0, none⟩)) rfl) ?_
 refine WL_val (dd := some 9) rfl rfl rfl (r_move (v := .int .i64 _) rfl) ?_
 refine WL_val (dd := some 10) rfl rfl rfl (r_move (v := .int .i64 _) rfl) ?_
 refine WL_call (dd := some 11) rfl rfl rfl (r_call3 tb_c87 (v0 := .pointer (some ⟨bz, 0, none⟩)) rfl (v1 := .int .i64 _) rfl (v2 := .int .i64 _) rfl) (C___zdd_Zdd__item N ba bm bz R ns (f : Int) j _ hz hD (by omega)) (fun v1_3 W7 hE8 hP1_3 => ?_)
 have hsz9 := (Nat.le_trans hN0 (Below.size hB))
 replace hz := hE8.at hz
 replace hD := Dia.ext hE8 hD
 replace hX := Dx.trans hX (Dx.ext hE8)
 replace hB := below_ext hB hE8 hN0
 clear hE8
 clear hsz9
 obtain rfl := hP1_3
 refine WL_val (dd := some 12) rfl rfl rfl (r_not rfl) ?_
 refine WL_nil ?_
 refine hK6 _ _ ?_
 clear hK6 K5
 refine WC_cond (b := _) rfl (fun hc0 => ?_) (fun hc0 => ?_)
 ·
  try with_reducible replace hc0 := of_decide_eq_true hc0
  refine WC_seq (fun K10 hK11 => ?_)
  refine WC_region ?_
  refine WL_val (dd := some 6) rfl rfl rfl (r_assign (v := .int .i64 0) rfl) ?_
  refine WL_val (dd := some 7) rfl rfl rfl (r_assign (v := .int .i64 1) rfl) ?_
  refine WL_nil ?_
  refine hK11 _ _ ?_
  clear hK11 K10
  refine WC_ret ?_
  repeat (first | refine thenQ_ret ?_ | refine blockQ_ret ?_)
  try clear hK4 K3
  refine ret_tt (v := .int .i64 0) rfl (v1 := .int .i64 1) rfl ?_
  exact ⟨ns, 0, 1, rfl, hX, hD, .inr ⟨by have h := not_t' hc0; rw [tz_iff.2 (show 0 ≤ (f : Int) ∧ (f : Int) < (ns.length : Int) + 2 by omega), Bool.true_and] at h; exact h, rfl, rfl, rfl⟩⟩
 ·
  try with_reducible replace hc0 := of_decide_eq_false hc0
  refine WC_skip ?_
  refine hK4 _ _ ?_
  clear hK4 K3
  refine WC_seq (fun K12 hK13 => ?_)
  have hit := of_decide_eq_true (show decide (0 ≤ j ∧ j < 24) = true by have h := not_f' hc0; rw [tz_iff.2 (show 0 ≤ (f : Int) ∧ (f : Int) < (ns.length : Int) + 2 by omega), Bool.true_and] at h; exact h)
  obtain ⟨jn, rfl⟩ := Int.eq_ofNat_of_zero_le hit.1
  refine WC_region ?_
  refine WL_val (dd := some 13) rfl rfl rfl (r_move (v := .pointer (some ⟨bz, 0, none⟩)) rfl) ?_
  refine WL_val (dd := some 14) rfl rfl rfl (r_move (v := .int .i64 _) rfl) ?_
  refine WL_val (dd := some 15) rfl rfl rfl (r_move (v := .int .i64 _) rfl) ?_
  refine WL_callG (dd := some 16) rfl rfl rfl (r_call4 tb_c88 (v0 := .pointer (some ⟨bz, 0, none⟩)) rfl (v1 := .int .i64 _) rfl (v2 := .int .i64 _) rfl (v3 := .bool true) rfl) (PartAll 25 N ba bm bz R ns f jn true _ (Nat.le_trans hN0 (Below.size hB)) hz hD hf (by omega) (by omega)) (fun v3_3 W14 hP3_3 => ?_)
  obtain ⟨ns3_3, id3_3, er3_3, rfl, hx3_3, hDn3_3, hg3_3⟩ := hP3_3
  replace hz := At.dx hD hx3_3 hz (by decide) (by decide)
  replace hX := Dx.trans hX (hx3_3)
  replace hB := Below.dx hB (Nat.le_refl _) hN0 hx3_3
  replace hD := hDn3_3
  refine WL_val (dd := some 17) rfl rfl rfl (r_ext2_0 (h := rfl)) ?_
  refine WL_val (dd := some 18) rfl rfl rfl (r_ext2_1 (h := rfl)) ?_
  refine WL_val (dd := some 6) rfl rfl rfl (r_assign (v := .int .i64 _) rfl) ?_
  refine WL_val (dd := some 7) rfl rfl rfl (r_assign (v := .int .i64 _) rfl) ?_
  refine WL_nil ?_
  refine hK13 _ _ ?_
  clear hK13 K12
  refine WC_ret ?_
  repeat (first | refine thenQ_ret ?_ | refine blockQ_ret ?_)
  refine ret_tt (v := .int .i64 _) rfl (v1 := .int .i64 _) rfl ?_
  exact ⟨_, _, _, rfl, hX, hD, .inl ⟨decide_eq_true hit, hg3_3⟩⟩

theorem C___zdd_Zdd__Without (N ba bm bz R : Nat) (ns : List Nd) (f : Nat) (j : Int) (w : World) (hN0 : N ≤ w.heap.size) (hz : At w bz #[.pointer (some ⟨ba, 0, none⟩)] 100) (hD : Dia 147 150 N ba bm R w ns) (hf : f < ns.length + 2) :
    FnG Try.prog 41 #[.pointer (some ⟨bz, 0, none⟩), .int .i64 (f : Int), .int .i64 j] w fun v w' => PE 147 150 N ba bm R w ns (decide (0 ≤ j ∧ j < 24)) (cPt ns f j.toNat) (lvl ns f) (pS false j.toNat (M ns f)) v w' := by
 refine FnG_intro (n := 19) Try.func41 rfl rfl (Nat.le_of_ble_eq_true rfl) ?_
 have hB : Below N w w := Below.refl _ _
 have hX : Dx 150 N [ba, bm] w w := Dx.refl
 have hwf := hD.wf
 have hroom := hD.room
 have htop := hD.top
 refine WC_seq (fun K1 hK2 => ?_)
 refine WC_region ?_
 refine WL_val (dd := some 6) rfl rfl rfl (r_assign (v := .int .i64 0) rfl) ?_
 refine WL_val (dd := some 7) rfl rfl rfl (r_assign (v := .int .i64 0) rfl) ?_
 refine WL_nil ?_
 refine hK2 _ _ ?_
 clear hK2 K1
 refine WC_seq (fun K3 hK4 => ?_)
 refine WC_seq (fun K5 hK6 => ?_)
 refine WC_region ?_
 refine WL_val (dd := some 8) rfl rfl rfl (r_move (v := .pointer (some ⟨bz, 0, none⟩)) rfl) ?_
 refine WL_val (dd := some 9) rfl rfl rfl (r_move (v := .int .i64 _) rfl) ?_
 refine WL_val (dd := some 10) rfl rfl rfl (r_move (v := .int .i64 _) rfl) ?_
 refine WL_call (dd := some 11) rfl rfl rfl (r_call3 tb_c87 (v0 := .pointer (some ⟨bz, 0, none⟩)) rfl (v1 := .int .i64 _) rfl (v2 := .int .i64 _) rfl) (C___zdd_Zdd__item N ba bm bz R ns (f : Int) j _ hz hD (by omega)) (fun v1_3 W7 hE8 hP1_3 => ?_)
 have hsz9 := (Nat.le_trans hN0 (Below.size hB))
 replace hz := hE8.at hz
 replace hD := Dia.ext hE8 hD
 replace hX := Dx.trans hX (Dx.ext hE8)
 replace hB := below_ext hB hE8 hN0
 clear hE8
 clear hsz9
 obtain rfl := hP1_3
 refine WL_val (dd := some 12) rfl rfl rfl (r_not rfl) ?_
 refine WL_nil ?_
 refine hK6 _ _ ?_
 clear hK6 K5
 refine WC_cond (b := _) rfl (fun hc0 => ?_) (fun hc0 => ?_)
 ·
  try with_reducible replace hc0 := of_decide_eq_true hc0
  refine WC_seq (fun K10 hK11 => ?_)
  refine WC_region ?_
  refine WL_val (dd := some 6) rfl rfl rfl (r_assign (v := .int .i64 0) rfl) ?_
  refine WL_val (dd := some 7) rfl rfl rfl (r_assign (v := .int .i64 1) rfl) ?_
  refine WL_nil ?_
  refine hK11 _ _ ?_
  clear hK11 K10
  refine WC_ret ?_
  repeat (first | refine thenQ_ret ?_ | refine blockQ_ret ?_)
  try clear hK4 K3
  refine ret_tt (v := .int .i64 0) rfl (v1 := .int .i64 1) rfl ?_
  exact ⟨ns, 0, 1, rfl, hX, hD, .inr ⟨by have h := not_t' hc0; rw [tz_iff.2 (show 0 ≤ (f : Int) ∧ (f : Int) < (ns.length : Int) + 2 by omega), Bool.true_and] at h; exact h, rfl, rfl, rfl⟩⟩
 ·
  try with_reducible replace hc0 := of_decide_eq_false hc0
  refine WC_skip ?_
  refine hK4 _ _ ?_
  clear hK4 K3
  refine WC_seq (fun K12 hK13 => ?_)
  have hit := of_decide_eq_true (show decide (0 ≤ j ∧ j < 24) = true by have h := not_f' hc0; rw [tz_iff.2 (show 0 ≤ (f : Int) ∧ (f : Int) < (ns.length : Int) + 2 by omega), Bool.true_and] at h; exact h)
  obtain ⟨jn, rfl⟩ := Int.eq_ofNat_of_zero_le hit.1
  refine WC_region ?_
  refine WL_val (dd := some 13) rfl rfl rfl (r_move (v := .pointer (some ⟨bz, 0, none⟩)) rfl) ?_
  refine WL_val (dd := some 14) rfl rfl rfl (r_move (v := .int .i64 _) rfl) ?_
  refine WL_val (dd := some 15) rfl rfl rfl (r_move (v := .int .i64 _) rfl) ?_
  refine WL_callG (dd := some 16) rfl rfl rfl (r_call4 tb_c88 (v0 := .pointer (some ⟨bz, 0, none⟩)) rfl (v1 := .int .i64 _) rfl (v2 := .int .i64 _) rfl (v3 := .bool false) rfl) (PartAll 25 N ba bm bz R ns f jn false _ (Nat.le_trans hN0 (Below.size hB)) hz hD hf (by omega) (by omega)) (fun v3_3 W14 hP3_3 => ?_)
  obtain ⟨ns3_3, id3_3, er3_3, rfl, hx3_3, hDn3_3, hg3_3⟩ := hP3_3
  replace hz := At.dx hD hx3_3 hz (by decide) (by decide)
  replace hX := Dx.trans hX (hx3_3)
  replace hB := Below.dx hB (Nat.le_refl _) hN0 hx3_3
  replace hD := hDn3_3
  refine WL_val (dd := some 17) rfl rfl rfl (r_ext2_0 (h := rfl)) ?_
  refine WL_val (dd := some 18) rfl rfl rfl (r_ext2_1 (h := rfl)) ?_
  refine WL_val (dd := some 6) rfl rfl rfl (r_assign (v := .int .i64 _) rfl) ?_
  refine WL_val (dd := some 7) rfl rfl rfl (r_assign (v := .int .i64 _) rfl) ?_
  refine WL_nil ?_
  refine hK13 _ _ ?_
  clear hK13 K12
  refine WC_ret ?_
  repeat (first | refine thenQ_ret ?_ | refine blockQ_ret ?_)
  refine ret_tt (v := .int .i64 _) rfl (v1 := .int .i64 _) rfl ?_
  exact ⟨_, _, _, rfl, hX, hD, .inl ⟨decide_eq_true hit, hg3_3⟩⟩

theorem C___zdd_Zdd__bare (N ba bm bz R : Nat) (ns : List Nd) (f : Nat) (w : World) (hz : At w bz #[.pointer (some ⟨ba, 0, none⟩)] 100) (hD : Dia 147 150 N ba bm R w ns) (hf : f < ns.length + 2) :
    Fn Try.prog 141 #[.pointer (some ⟨bz, 0, none⟩), .int .i64 (f : Int)] w fun v w' => v = .bool (decide (0 ∈ mems ns f)) := by
 refine Fn_intro (n := 20) Try.func141 rfl rfl (Nat.le_of_ble_eq_true rfl) ?_
 have hB : Below w.heap.size w w := Below.refl _ _
 have hwf := hD.wf
 have hroom := hD.room
 have htop := hD.top
 refine WC_seq (fun K1 hK2 => ?_)
 refine WC_region ?_
 refine WL_val (dd := some 4) rfl rfl rfl (r_assign (v := .bool false) rfl) ?_
 refine WL_nil ?_
 refine hK2 _ _ ?_
 clear hK2 K1
 refine WC_seq (fun K3 hK4 => ?_)
 refine WC_block ?_
 refine WC_loop (σ := (Nat)) [1, 5, 6, 7, 8, 9, 10, 11, 12, 13, 14, 15, 16, 17] (fun c => [(1, .int .i64 (c : Int))]) (fun c W => (Below w.heap.size w W) ∧ (c < ns.length + 2) ∧ (0 ∈ mems ns c ↔ 0 ∈ mems ns f) ∧ (True)) (fun c => c) (f) ⟨rfl, trivial⟩ ⟨hB, hf, Iff.rfl, trivial⟩ ?_
 clear hB
 rintro c g6 W5 ⟨hB, hcv, hb, _⟩ J7 hJ8
 refine WC_seq (fun K9 hK10 => ?_)
 refine WC_seq (fun K11 hK12 => ?_)
 refine WC_region ?_
 refine WL_val (dd := some 5) rfl rfl rfl (r_move (v := .int .i64 _) rfl) ?_
 refine WL_val (dd := some 6) rfl rfl rfl (r_gtr rfl rfl) ?_
 refine WL_nil ?_
 refine hK12 _ _ ?_
 clear hK12 K11
 refine WC_cond (b := _) rfl (fun hc0 => ?_) (fun hc0 => ?_)
 ·
  try with_reducible replace hc0 := of_decide_eq_true hc0
  refine WC_skip ?_
  refine hK10 _ _ ?_
  clear hK10 K9
  refine WC_block ?_
  have hnd := node_of hwf hcv (there_iff.2 (show 2 ≤ (c : Int) ∧ (c : Int) < (ns.length : Int) + 2 by omega))
  have hlo := hnd.ltlo
  refine WC_region ?_
  refine WL_val (dd := some 8) rfl rfl rfl (r_move (v := .pointer (some ⟨bz, 0, none⟩)) rfl) ?_
  refine WL_val (dd := some 9) rfl rfl rfl (r_nilCheck_ptr rfl) ?_
  refine WL_val (dd := some 10) rfl rfl rfl (r_fieldAddr (b := _) (o := _) rfl tb_fo100_0) ?_
  refine WL_val (dd := some 11) rfl rfl rfl (r_load1 (v := .pointer (some ⟨ba, 0, none⟩)) rfl tb_sc96 (At.cell (Below.atI hB hz) rfl)) ?_
  refine WL_val (dd := some 12) rfl rfl rfl (r_move (v := .int .i64 _) rfl) ?_
  refine WL_call (dd := some 13) rfl rfl rfl (r_call2 tb_c86 (v0 := .pointer (some ⟨ba, 0, none⟩)) rfl (v1 := .int .i64 _) rfl) (C___arena_Arena__Node _ _ _ _ _ _ _ (Dia.below hB hD) (by first | assumption | omega)) (fun v2_5 W13 hE14 hP2_5 => ?_)
  have hsz15 := (Below.size hB)
  replace hB := below_ext hB hE14 (Nat.le_refl _)
  clear hE14
  obtain rfl := hP2_5
  clear hsz15
  refine WL_val (dd := some 7) rfl rfl rfl (r_move (v := .tuple #[.int .i64 _, .int .i64 _, .int .i64 _, .bool _]) rfl) ?_
  refine WL_val (dd := some 14) rfl rfl rfl (r_ext4_0 (h := rfl)) ?_
  refine WL_val (dd := some 15) rfl rfl rfl (r_ext4_1 (h := rfl)) ?_
  refine WL_val (dd := some 16) rfl rfl rfl (r_ext4_2 (h := rfl)) ?_
  refine WL_val (dd := some 17) rfl rfl rfl (r_ext4_3 (h := rfl)) ?_
  refine WL_val (dd := some 1) rfl rfl rfl (r_assign (v := .int .i64 _) rfl) ?_
  refine WL_nil ?_
  refine hJ8 _ _ ((nodeI ns (c : Int)).lo) ?_ ?_ ?_ ?_
  · repeat (first | exact agree.mask _ _ _ | refine agree.updo ?_ rfl _ | refine agree.updL ?_ _ rfl | refine agree.maskS rfl ?_)
  · exact ⟨rfl, trivial⟩
  · exact ⟨hB, hnd.vlo, ((bare_lo hnd).trans hb), trivial⟩
  · first | omega | (dsimp only; omega)
 ·
  try with_reducible replace hc0 := of_decide_eq_false hc0
  refine WC_exit ?_
  refine hK4 _ _ ?_
  clear hK10 K9
  clear hJ8 J7
  clear hK4 K3
  refine WC_seq (fun K16 hK17 => ?_)
  refine WC_region ?_
  refine WL_val (dd := some 18) rfl rfl rfl (r_move (v := .int .i64 _) rfl) ?_
  refine WL_val (dd := some 19) rfl rfl rfl (r_eql rfl rfl) ?_
  refine WL_val (dd := some 4) rfl rfl rfl (r_assign (v := .bool _) rfl) ?_
  refine WL_nil ?_
  refine hK17 _ _ ?_
  clear hK17 K16
  refine WC_ret ?_
  repeat (first | refine thenQ_ret ?_ | refine blockQ_ret ?_)
  refine ret_t (v := .bool _) rfl ?_
  refine ⟨hB, ?_⟩
  exact bare_end (by omega) hb

def FreeAt (n : Nat) : Prop := ∀ (N ba bm bz R : Nat) (ns : List Nd) (f g : Nat) (w : World), (N ≤ w.heap.size) → (At w bz #[.pointer (some ⟨ba, 0, none⟩)] 100) → (Dia 147 150 N ba bm R w ns) → (f < ns.length + 2) → (g < ns.length + 2) → 25 - min (lvl ns f) (lvl ns g) ≤ n →
  FnG Try.prog 122 #[.pointer (some ⟨bz, 0, none⟩), .int .i64 (f : Int), .int .i64 (g : Int)] w fun v w' => PO 147 150 N ba bm R w ns (fc (24 - min (lvl ns f) (lvl ns g)) (mems ns f).length (mems ns g).length) (min (lvl ns f) (lvl ns g)) (frS (M ns f) (M ns g)) v w'

set_option maxRecDepth 10000 in
theorem C_free (n : Nat) (N ba bm bz R : Nat) (ns : List Nd) (f g : Nat) (w : World) (ih : FreeAt n) (hN0 : N ≤ w.heap.size) (hz : At w bz #[.pointer (some ⟨ba, 0, none⟩)] 100) (hD : Dia 147 150 N ba bm R w ns) (hf : f < ns.length + 2) (hg : g < ns.length + 2) (hn : 25 - min (lvl ns f) (lvl ns g) ≤ n + 1) :
    FnG Try.prog 122 #[.pointer (some ⟨bz, 0, none⟩), .int .i64 (f : Int), .int .i64 (g : Int)] w fun v w' => PO 147 150 N ba bm R w ns (fc (24 - min (lvl ns f) (lvl ns g)) (mems ns f).length (mems ns g).length) (min (lvl ns f) (lvl ns g)) (frS (M ns f) (M ns g)) v w' := by
 refine FnG_intro (n := 99) Try.func122 rfl rfl (Nat.le_of_ble_eq_true rfl) ?_
 have hB : Below N w w := Below.refl _ _
 have hX : Dx 150 N [ba, bm] w w := Dx.refl
 have hwf := hD.wf
 have hroom := hD.room
 have htop := hD.top
 refine WC_seq (fun K1 hK2 => ?_)
 refine WC_region ?_
 refine WL_val (dd := some 6) rfl rfl rfl (r_assign (v := .int .i64 0) rfl) ?_
 refine WL_val (dd := some 7) rfl rfl rfl (r_assign (v := .int .i64 0) rfl) ?_
 refine WL_nil ?_
 refine hK2 _ _ ?_
 clear hK2 K1
 refine WC_seq (fun K3 hK4 => ?_)
 refine WC_block ?_
 refine WC_seq (fun K5 hK6 => ?_)
 refine WC_region ?_
 refine WL_val (dd := some 15) rfl rfl rfl (r_move (v := .int .i64 _) rfl) ?_
 refine WL_val (dd := some 16) rfl rfl rfl (r_eql rfl rfl) ?_
 refine WL_split (dd := some 17) rfl rfl rfl (r_move (v := .bool _) rfl) (fun hs1_2 => ?_) (fun hs1_2 => ?_)
 ·
  try with_reducible replace hs1_2 := of_decide_eq_true hs1_2
  refine WL_skip (dd := some 18) rfl rfl rfl ?_
  refine WL_skip (dd := some 19) rfl rfl rfl ?_
  refine WL_val (dd := some 20) rfl rfl rfl (r_pick_t rfl (v := .bool true) rfl) ?_
  refine WL_val (dd := some 14) rfl rfl rfl (r_assign (v := .bool true) rfl) ?_
  refine WL_nil ?_
  refine hK6 _ _ ?_
  clear hK6 K5
  refine WC_cond_true rfl ?_
  refine WC_seq (fun K7 hK8 => ?_)
  refine WC_region ?_
  refine WL_val (dd := some 21) rfl rfl rfl (r_move (v := .int .i64 _) rfl) ?_
  refine WL_val (dd := some 6) rfl rfl rfl (r_assign (v := .int .i64 _) rfl) ?_
  refine WL_val (dd := some 7) rfl rfl rfl (r_assign (v := .int .i64 0) rfl) ?_
  refine WL_nil ?_
  refine hK8 _ _ ?_
  clear hK8 K7
  refine WC_ret ?_
  repeat (first | refine thenQ_ret ?_ | refine blockQ_ret ?_)
  try clear hK4 K3
  refine ret_tt (v := .int .i64 _) rfl (v1 := .int .i64 0) rfl ?_
  exact ⟨ns, f, 0, rfl, hX, hD, Got.same hf (Nat.min_le_left _ _) (free_0 (.inl hs1_2))⟩
 ·
  try with_reducible replace hs1_2 := of_decide_eq_false hs1_2
  refine WL_val (dd := some 18) rfl rfl rfl (r_move (v := .int .i64 _) rfl) ?_
  refine WL_val (dd := some 19) rfl rfl rfl (r_eql rfl rfl) ?_
  refine WL_val (dd := some 20) rfl rfl rfl (r_pick_f rfl (v := .bool _) rfl) ?_
  refine WL_val (dd := some 14) rfl rfl rfl (r_assign (v := .bool _) rfl) ?_
  refine WL_nil ?_
  refine hK6 _ _ ?_
  clear hK6 K5
  refine WC_cond (b := _) rfl (fun hc0 => ?_) (fun hc0 => ?_)
  ·
   try with_reducible replace hc0 := of_decide_eq_true hc0
   refine WC_seq (fun K9 hK10 => ?_)
   refine WC_region ?_
   refine WL_val (dd := some 21) rfl rfl rfl (r_move (v := .int .i64 _) rfl) ?_
   refine WL_val (dd := some 6) rfl rfl rfl (r_assign (v := .int .i64 _) rfl) ?_
   refine WL_val (dd := some 7) rfl rfl rfl (r_assign (v := .int .i64 0) rfl) ?_
   refine WL_nil ?_
   refine hK10 _ _ ?_
   clear hK10 K9
   refine WC_ret ?_
   repeat (first | refine thenQ_ret ?_ | refine blockQ_ret ?_)
   try clear hK4 K3
   refine ret_tt (v := .int .i64 _) rfl (v1 := .int .i64 0) rfl ?_
   exact ⟨ns, f, 0, rfl, hX, hD, Got.same hf (Nat.min_le_left _ _) (free_0 (.inr hc0))⟩
  ·
   try with_reducible replace hc0 := of_decide_eq_false hc0
   refine WC_seq (fun K11 hK12 => ?_)
   refine WC_region ?_
   refine WL_val (dd := some 23) rfl rfl rfl (r_move (v := .pointer (some ⟨bz, 0, none⟩)) rfl) ?_
   refine WL_val (dd := some 24) rfl rfl rfl (r_move (v := .int .i64 _) rfl) ?_
   refine WL_call (dd := some 25) rfl rfl rfl (r_call2 tb_c141 (v0 := .pointer (some ⟨bz, 0, none⟩)) rfl (v1 := .int .i64 _) rfl) (C___zdd_Zdd__bare N ba bm bz R ns g _ hz hD hg) (fun v3_2 W13 hE14 hP3_2 => ?_)
   have hsz15 := (Nat.le_trans hN0 (Below.size hB))
   replace hz := hE14.at hz
   replace hD := Dia.ext hE14 hD
   replace hX := Dx.trans hX (Dx.ext hE14)
   replace hB := below_ext hB hE14 hN0
   clear hE14
   clear hsz15
   obtain rfl := hP3_2
   refine WL_split (dd := some 26) rfl rfl rfl (r_move (v := .bool _) rfl) (fun hs3_3 => ?_) (fun hs3_3 => ?_)
   ·
    try with_reducible replace hs3_3 := of_decide_eq_true hs3_3
    refine WL_skip (dd := some 27) rfl rfl rfl ?_
    refine WL_skip (dd := some 28) rfl rfl rfl ?_
    refine WL_skip (dd := some 29) rfl rfl rfl ?_
    refine WL_val (dd := some 30) rfl rfl rfl (r_pick_t rfl (v := .bool true) rfl) ?_
    refine WL_val (dd := some 22) rfl rfl rfl (r_assign (v := .bool true) rfl) ?_
    refine WL_nil ?_
    refine hK12 _ _ ?_
    clear hK12 K11
    refine WC_cond_true rfl ?_
    refine WC_seq (fun K16 hK17 => ?_)
    refine WC_region ?_
    refine WL_val (dd := some 6) rfl rfl rfl (r_assign (v := .int .i64 0) rfl) ?_
    refine WL_val (dd := some 7) rfl rfl rfl (r_assign (v := .int .i64 0) rfl) ?_
    refine WL_nil ?_
    refine hK17 _ _ ?_
    clear hK17 K16
    refine WC_ret ?_
    repeat (first | refine thenQ_ret ?_ | refine blockQ_ret ?_)
    try clear hK4 K3
    refine ret_tt (v := .int .i64 0) rfl (v1 := .int .i64 0) rfl ?_
    exact ⟨ns, 0, 0, rfl, hX, hD, Got.same (by omega) (by rw [lvl0]; have := lvl_le hwf hf; omega) (free_1 (.inl hs3_3))⟩
   ·
    try with_reducible replace hs3_3 := of_decide_eq_false hs3_3
    refine WL_val (dd := some 27) rfl rfl rfl (r_move (v := .int .i64 _) rfl) ?_
    refine WL_val (dd := some 28) rfl rfl rfl (r_move (v := .int .i64 _) rfl) ?_
    refine WL_val (dd := some 29) rfl rfl rfl (r_eql rfl rfl) ?_
    refine WL_val (dd := some 30) rfl rfl rfl (r_pick_f rfl (v := .bool _) rfl) ?_
    refine WL_val (dd := some 22) rfl rfl rfl (r_assign (v := .bool _) rfl) ?_
    refine WL_nil ?_
    refine hK12 _ _ ?_
    clear hK12 K11
    refine WC_cond (b := _) rfl (fun hc1 => ?_) (fun hc1 => ?_)
    ·
     try with_reducible replace hc1 := of_decide_eq_true hc1
     refine WC_seq (fun K18 hK19 => ?_)
     refine WC_region ?_
     refine WL_val (dd := some 6) rfl rfl rfl (r_assign (v := .int .i64 0) rfl) ?_
     refine WL_val (dd := some 7) rfl rfl rfl (r_assign (v := .int .i64 0) rfl) ?_
     refine WL_nil ?_
     refine hK19 _ _ ?_
     clear hK19 K18
     refine WC_ret ?_
     repeat (first | refine thenQ_ret ?_ | refine blockQ_ret ?_)
     try clear hK4 K3
     refine ret_tt (v := .int .i64 0) rfl (v1 := .int .i64 0) rfl ?_
     exact ⟨ns, 0, 0, rfl, hX, hD, Got.same (by omega) (by rw [lvl0]; have := lvl_le hwf hf; omega) (free_1 (.inr hc1))⟩
    ·
     try with_reducible replace hc1 := of_decide_eq_false hc1
     refine WC_skip ?_
     refine hK4 _ _ ?_
     clear hK4 K3
     refine WC_seq (fun K20 hK21 => ?_)
     have hBo22 := hB
     replace hB := Below.refl W13.heap.size W13
     have f0 : f ≠ 0 := by omega
     have g0 : g ≠ 0 := by omega
     have g1 : g ≠ 1 := fun e => hs3_3 (by rw [e, mems_1]; exact List.mem_cons_self ..)
     have hlf := lvl_le hwf hf
     have hlg := lvl_lt hwf hg (by omega)
     refine WC_region ?_
     refine WL_val (dd := some 31) rfl rfl rfl (r_move (v := .pointer (some ⟨bz, 0, none⟩)) rfl) ?_
     refine WL_val (dd := some 32) rfl rfl rfl (r_move (v := .int .i64 _) rfl) ?_
     refine WL_call (dd := some 33) rfl rfl rfl (r_call2 tb_c119 (v0 := .pointer (some ⟨bz, 0, none⟩)) rfl (v1 := .int .i64 _) rfl) (C___zdd_Zdd__level _ _ _ _ _ _ _ _ (Below.atI hB hz) (Dia.below hB hD) (by first | assumption | omega)) (fun v5_2 W23 hE24 hP5_2 => ?_)
     have hsz25 := (Below.size hB)
     replace hB := below_ext hB hE24 (Nat.le_refl _)
     clear hE24
     rw [lvlI_nat hf] at hP5_2
     obtain rfl := hP5_2
     clear hsz25
     refine WL_val (dd := some 34) rfl rfl rfl (r_move (v := .pointer (some ⟨bz, 0, none⟩)) rfl) ?_
     refine WL_val (dd := some 35) rfl rfl rfl (r_move (v := .int .i64 _) rfl) ?_
     refine WL_call (dd := some 36) rfl rfl rfl (r_call2 tb_c119 (v0 := .pointer (some ⟨bz, 0, none⟩)) rfl (v1 := .int .i64 _) rfl) (C___zdd_Zdd__level _ _ _ _ _ _ _ _ (Below.atI hB hz) (Dia.below hB hD) (by first | assumption | omega)) (fun v5_5 W26 hE27 hP5_5 => ?_)
     have hsz28 := (Below.size hB)
     replace hB := below_ext hB hE27 (Nat.le_refl _)
     clear hE27
     rw [lvlI_nat hg] at hP5_5
     obtain rfl := hP5_5
     clear hsz28
     refine WL_val (dd := some 37) rfl rfl rfl (r_minN rfl rfl) ?_
     refine WL_val (dd := some 8) rfl rfl rfl (r_assign (v := .int .i64 _) rfl) ?_
     refine WL_nil ?_
     refine hK21 _ _ ?_
     clear hK21 K20
     refine WC_seq (fun K29 hK30 => ?_)
     generalize hl : min (lvl ns f) (lvl ns g) = l
     have h24' : l < 24 := by omega
     have H1 := half_of hwf hf (l := l) (by omega) h24'
     have H2 := half_of hwf hg (l := l) (by omega) h24'
     have hn1 := List.length_pos_of_mem (mems_ne hwf f hf f0).choose_spec
     have hn2 := List.length_pos_of_mem (mems_ne hwf g hg g0).choose_spec
     have hc1' := H1.cnt
     have hc2' := H2.cnt
     have vla := H1.la
     have vlb := H1.lb
     have vlc := H2.la
     have vld := H2.lb
     have hla := lvl_le hwf H1.va
     have hlb := lvl_le hwf H1.vb
     have hlc := lvl_le hwf H2.va
     have hld := lvl_le hwf H2.vb
     refine WC_region ?_
     refine WL_val (dd := some 38) rfl rfl rfl (tb_build89_ ) ?_
     refine WL_val (dd := some 39) rfl rfl rfl (tb_build89_ ) ?_
     refine WL_step (dd := some 9) rfl rfl rfl (Y_alloc tb_z89 rfl (fun b6_2 W31 hb32 hE33 hm6_2 => ?_))
     have lo_b6_2 : W13.heap.size ≤ b6_2 := hb32 ▸ (Below.size hB)
     clear hb32
     replace hB := below_ext hB hE33 (Nat.le_refl _)
     clear hE33
     refine WL_step (dd := some 10) rfl rfl rfl (Y_alloc tb_z89 rfl (fun b6_3 W34 hb35 hE36 hm6_3 => ?_))
     have lo_b6_3 : W13.heap.size ≤ b6_3 := hb35 ▸ (Below.size hB)
     have ne_b6_2_b6_3 : b6_2 ≠ b6_3 := Nat.ne_of_lt (hb35 ▸ hm6_2.lt)
     clear hb35
     replace hB := below_ext hB hE36 (Nat.le_refl _)
     replace hm6_2 := hE36.at hm6_2
     clear hE36
     refine WL_step (dd := none) rfl rfl rfl (Y_storeW rfl rfl tb_ag89 rfl hm6_2 rfl (by rfl) (fun W37 hG38 hm39 => ?_))
     replace hB := below_grown hB hG38 (Nat.le_refl _) (fun j hj => by cases hj; exact lo_b6_2)
     replace hm6_3 := At.grownNe hm6_3 (Ne.symm ne_b6_2_b6_3) hG38
     clear hG38 hm6_2
     have hm6_2 := hm39
     clear hm39
     refine WL_step (dd := none) rfl rfl rfl (Y_storeW rfl rfl tb_ag89 rfl hm6_3 rfl (by rfl) (fun W40 hG41 hm42 => ?_))
     replace hB := below_grown hB hG41 (Nat.le_refl _) (fun j hj => by cases hj; exact lo_b6_3)
     replace hm6_2 := At.grownNe hm6_2 ne_b6_2_b6_3 hG41
     clear hG41 hm6_3
     have hm6_3 := hm42
     clear hm42
     refine WL_nil ?_
     refine hK30 _ _ ?_
     clear hK30 K29
     refine WC_seq (fun K43 hK44 => ?_)
     refine WC_region ?_
     refine WL_val (dd := some 41) rfl rfl rfl (r_move (v := .pointer (some ⟨bz, 0, none⟩)) rfl) ?_
     refine WL_val (dd := some 42) rfl rfl rfl (r_move (v := .int .i64 _) rfl) ?_
     refine WL_val (dd := some 43) rfl rfl rfl (r_move (v := .int .i64 _) rfl) ?_
     refine WL_call (dd := some 44) rfl rfl rfl (r_call3 tb_c120 (v0 := .pointer (some ⟨bz, 0, none⟩)) rfl (v1 := .int .i64 _) rfl (v2 := .int .i64 _) rfl) (C___zdd_Zdd__halves _ _ _ _ _ _ _ _ _ (Below.atI hB hz) (Dia.below hB hD) (by first | assumption | omega)) (fun v7_3 W45 hE46 hP7_3 => ?_)
     have hsz47 := (Below.size hB)
     replace hB := below_ext hB hE46 (Nat.le_refl _)
     replace hm6_2 := hE46.at hm6_2
     replace hm6_3 := hE46.at hm6_3
     clear hE46
     obtain rfl := hP7_3
     clear hsz47
     refine WL_val (dd := some 40) rfl rfl rfl (r_move (v := .tuple #[.int .i64 _, .int .i64 _]) rfl) ?_
     refine WL_val (dd := some 45) rfl rfl rfl (r_ext2_0 (h := rfl)) ?_
     refine WL_val (dd := some 46) rfl rfl rfl (r_ext2_1 (h := rfl)) ?_
     refine WL_val (dd := some 47) rfl rfl rfl (r_idxA rfl rfl tb_ar89 (by omega) (by omega)) ?_
     refine WL_step (dd := none) rfl rfl rfl (Y_store1 (v := .int .i64 _) rfl rfl tb_sc3 rfl hm6_2 (by show 0 < 2; decide) (fun W48 hG49 hm50 => ?_))
     replace hB := below_grown hB hG49 (Nat.le_refl _) (fun j hj => by cases hj; exact lo_b6_2)
     replace hm6_3 := At.grownNe hm6_3 (Ne.symm ne_b6_2_b6_3) hG49
     clear hG49 hm6_2
     have hm6_2 := hm50
     clear hm50
     replace hm6_2 : At _ _ #[_, _] _ := hm6_2
     refine WL_val (dd := some 48) rfl rfl rfl (r_idxA rfl rfl tb_ar89 (by omega) (by omega)) ?_
     refine WL_step (dd := none) rfl rfl rfl (Y_store1 (v := .int .i64 _) rfl rfl tb_sc3 rfl hm6_2 (by show 1 < 2; decide) (fun W51 hG52 hm53 => ?_))
     replace hB := below_grown hB hG52 (Nat.le_refl _) (fun j hj => by cases hj; exact lo_b6_2)
     replace hm6_3 := At.grownNe hm6_3 (Ne.symm ne_b6_2_b6_3) hG52
     clear hG52 hm6_2
     have hm6_2 := hm53
     clear hm53
     replace hm6_2 : At _ _ #[_, _] _ := hm6_2
     refine WL_nil ?_
     refine hK44 _ _ ?_
     clear hK44 K43
     refine WC_seq (fun K54 hK55 => ?_)
     refine WC_region ?_
     refine WL_val (dd := some 50) rfl rfl rfl (r_move (v := .pointer (some ⟨bz, 0, none⟩)) rfl) ?_
     refine WL_val (dd := some 51) rfl rfl rfl (r_move (v := .int .i64 _) rfl) ?_
     refine WL_val (dd := some 52) rfl rfl rfl (r_move (v := .int .i64 _) rfl) ?_
     refine WL_call (dd := some 53) rfl rfl rfl (r_call3 tb_c120 (v0 := .pointer (some ⟨bz, 0, none⟩)) rfl (v1 := .int .i64 _) rfl (v2 := .int .i64 _) rfl) (C___zdd_Zdd__halves _ _ _ _ _ _ _ _ _ (Below.atI hB hz) (Dia.below hB hD) (by first | assumption | omega)) (fun v8_3 W56 hE57 hP8_3 => ?_)
     have hsz58 := (Below.size hB)
     replace hB := below_ext hB hE57 (Nat.le_refl _)
     replace hm6_2 := hE57.at hm6_2
     replace hm6_3 := hE57.at hm6_3
     clear hE57
     obtain rfl := hP8_3
     clear hsz58
     refine WL_val (dd := some 49) rfl rfl rfl (r_move (v := .tuple #[.int .i64 _, .int .i64 _]) rfl) ?_
     refine WL_val (dd := some 54) rfl rfl rfl (r_ext2_0 (h := rfl)) ?_
     refine WL_val (dd := some 55) rfl rfl rfl (r_ext2_1 (h := rfl)) ?_
     refine WL_val (dd := some 56) rfl rfl rfl (r_idxA rfl rfl tb_ar89 (by omega) (by omega)) ?_
     refine WL_step (dd := none) rfl rfl rfl (Y_store1 (v := .int .i64 _) rfl rfl tb_sc3 rfl hm6_3 (by show 0 < 2; decide) (fun W59 hG60 hm61 => ?_))
     replace hB := below_grown hB hG60 (Nat.le_refl _) (fun j hj => by cases hj; exact lo_b6_3)
     replace hm6_2 := At.grownNe hm6_2 ne_b6_2_b6_3 hG60
     clear hG60 hm6_3
     have hm6_3 := hm61
     clear hm61
     replace hm6_3 : At _ _ #[_, _] _ := hm6_3
     refine WL_val (dd := some 57) rfl rfl rfl (r_idxA rfl rfl tb_ar89 (by omega) (by omega)) ?_
     refine WL_step (dd := none) rfl rfl rfl (Y_store1 (v := .int .i64 _) rfl rfl tb_sc3 rfl hm6_3 (by show 1 < 2; decide) (fun W62 hG63 hm64 => ?_))
     replace hB := below_grown hB hG63 (Nat.le_refl _) (fun j hj => by cases hj; exact lo_b6_3)
     replace hm6_2 := At.grownNe hm6_2 ne_b6_2_b6_3 hG63
     clear hG63 hm6_3
     have hm6_3 := hm64
     clear hm64
     replace hm6_3 : At _ _ #[_, _] _ := hm6_3
     refine WL_nil ?_
     refine hK55 _ _ ?_
     clear hK55 K54
     refine WC_seq (fun K65 hK66 => ?_)
     replace hz := Below.atI hB hz
     replace hD := Dia.below hB hD
     replace hX := Dx.trans hX (Dx.below hB)
     have hzs := Nat.le_trans hN0 (Below.size hBo22)
     replace lo_b6_2 := Nat.le_trans hzs lo_b6_2
     replace lo_b6_3 := Nat.le_trans hzs lo_b6_3
     replace hB := Below.trans hBo22 (Below.mono hB hzs)
     clear hBo22 hzs
     refine WC_region ?_
     refine WL_val (dd := some 59) rfl rfl rfl (r_move (v := .pointer (some ⟨bz, 0, none⟩)) rfl) ?_
     refine WL_val (dd := some 60) rfl rfl rfl (r_idxA rfl rfl tb_ar89 (by omega) (by omega)) ?_
     refine WL_val (dd := some 61) rfl rfl rfl (r_load1 (v := .int .i64 _) rfl tb_sc3 (At.cell hm6_2 rfl)) ?_
     refine WL_val (dd := some 62) rfl rfl rfl (r_idxA rfl rfl tb_ar89 (by omega) (by omega)) ?_
     refine WL_val (dd := some 63) rfl rfl rfl (r_load1 (v := .int .i64 _) rfl tb_sc3 (At.cell hm6_3 rfl)) ?_
     refine WL_callG (dd := some 64) rfl rfl rfl (r_call3 tb_c122 (v0 := .pointer (some ⟨bz, 0, none⟩)) rfl (v1 := .int .i64 _) rfl (v2 := .int .i64 _) rfl) (ih N ba bm bz R ns (halfA ns f l) (halfA ns g l) _ (Nat.le_trans hN0 (Below.size hB)) hz hD H1.va H2.va (by omega)) (fun v9_5 W67 hP9_5 => ?_)
     obtain ⟨ns9_5, id9_5, er9_5, rfl, hx9_5, hDn9_5, hg9_5⟩ := hP9_5
     replace hz := At.dx hD hx9_5 hz (by decide) (by decide)
     replace hX := Dx.trans hX (hx9_5)
     replace hB := Below.dx hB (Nat.le_refl _) hN0 hx9_5
     replace hm6_2 := At.dx hD hx9_5 hm6_2 (by decide) (by decide)
     replace hm6_3 := At.dx hD hx9_5 hm6_3 (by decide) (by decide)
     replace hD := hDn9_5
     refine WL_val (dd := some 58) rfl rfl rfl (r_move (v := .tuple #[.int .i64 (id9_5 : Int), .int .i64 er9_5]) rfl) ?_
     refine WL_val (dd := some 65) rfl rfl rfl (r_ext2_0 (h := rfl)) ?_
     refine WL_val (dd := some 66) rfl rfl rfl (r_ext2_1 (h := rfl)) ?_
     refine WL_val (dd := some 11) rfl rfl rfl (r_assign (v := .int .i64 _) rfl) ?_
     refine WL_val (dd := some 12) rfl rfl rfl (r_assign (v := .int .i64 _) rfl) ?_
     refine WL_nil ?_
     refine hK66 _ _ ?_
     clear hK66 K65
     refine WC_seq (fun K69 hK70 => ?_)
     refine WC_seq (fun K71 hK72 => ?_)
     refine WC_region ?_
     refine WL_val (dd := some 67) rfl rfl rfl (r_move (v := .int .i64 _) rfl) ?_
     refine WL_val (dd := some 68) rfl rfl rfl (r_neq rfl rfl) ?_
     refine WL_nil ?_
     refine hK72 _ _ ?_
     clear hK72 K71
     refine WC_cond (b := _) rfl (fun hc2 => ?_) (fun hc2 => ?_)
     ·
      try with_reducible replace hc2 := of_decide_eq_true hc2
      refine WC_seq (fun K73 hK74 => ?_)
      refine WC_region ?_
      refine WL_val (dd := some 69) rfl rfl rfl (r_move (v := .int .i64 _) rfl) ?_
      refine WL_val (dd := some 6) rfl rfl rfl (r_assign (v := .int .i64 0) rfl) ?_
      refine WL_val (dd := some 7) rfl rfl rfl (r_assign (v := .int .i64 _) rfl) ?_
      refine WL_nil ?_
      refine hK74 _ _ ?_
      clear hK74 K73
      refine WC_ret ?_
      repeat (first | refine thenQ_ret ?_ | refine blockQ_ret ?_)
      try clear hK70 K69
      refine ret_tt (v := .int .i64 0) rfl (v1 := .int .i64 _) rfl ?_
      rw [hl]
      exact ⟨_, 0, _, rfl, hX, hD, hg9_5.fail hc2 (Nat.le_trans (Nat.mul_le_mul (by omega) (Nat.mul_le_mul (by omega) (by omega))) (Nat.le_refl _))⟩
     ·
      try with_reducible replace hc2 := of_decide_eq_false hc2
      refine WC_skip ?_
      refine hK70 _ _ ?_
      clear hK70 K69
      refine WC_seq (fun K75 hK76 => ?_)
      have he : er9_5 = 0 := Decidable.of_not_not hc2
      subst he
      obtain ⟨a1, a2, a3⟩ := hg9_5.old H1.va
      obtain ⟨b1, b2, b3⟩ := hg9_5.old H1.vb
      obtain ⟨c1, c2, c3⟩ := hg9_5.old H2.va
      obtain ⟨d1, d2, d3⟩ := hg9_5.old H2.vb
      obtain ⟨o1, o2, _⟩ := hg9_5.ok rfl
      refine WC_region ?_
      refine WL_val (dd := some 71) rfl rfl rfl (r_move (v := .pointer (some ⟨bz, 0, none⟩)) rfl) ?_
      refine WL_val (dd := some 72) rfl rfl rfl (r_idxA rfl rfl tb_ar89 (by omega) (by omega)) ?_
      refine WL_val (dd := some 73) rfl rfl rfl (r_load1 (v := .int .i64 _) rfl tb_sc3 (At.cell hm6_2 rfl)) ?_
      refine WL_val (dd := some 74) rfl rfl rfl (r_idxA rfl rfl tb_ar89 (by omega) (by omega)) ?_
      refine WL_val (dd := some 75) rfl rfl rfl (r_load1 (v := .int .i64 _) rfl tb_sc3 (At.cell hm6_3 rfl)) ?_
      refine WL_callG (dd := some 76) rfl rfl rfl (r_call3 tb_c122 (v0 := .pointer (some ⟨bz, 0, none⟩)) rfl (v1 := .int .i64 _) rfl (v2 := .int .i64 _) rfl) (ih N ba bm bz R ns9_5 (halfB ns f l) (halfA ns g l) _ (Nat.le_trans hN0 (Below.size hB)) hz hD b1 c1 (by omega)) (fun v12_5 W77 hP12_5 => ?_)
      obtain ⟨ns12_5, id12_5, er12_5, rfl, hx12_5, hDn12_5, hg12_5⟩ := hP12_5
      replace hz := At.dx hD hx12_5 hz (by decide) (by decide)
      replace hX := Dx.trans hX (hx12_5)
      replace hB := Below.dx hB (Nat.le_refl _) hN0 hx12_5
      replace hm6_2 := At.dx hD hx12_5 hm6_2 (by decide) (by decide)
      replace hm6_3 := At.dx hD hx12_5 hm6_3 (by decide) (by decide)
      replace hD := hDn12_5
      refine WL_val (dd := some 70) rfl rfl rfl (r_move (v := .tuple #[.int .i64 (id12_5 : Int), .int .i64 er12_5]) rfl) ?_
      refine WL_val (dd := some 77) rfl rfl rfl (r_ext2_0 (h := rfl)) ?_
      refine WL_val (dd := some 78) rfl rfl rfl (r_ext2_1 (h := rfl)) ?_
      refine WL_val (dd := some 13) rfl rfl rfl (r_assign (v := .int .i64 _) rfl) ?_
      refine WL_val (dd := some 12) rfl rfl rfl (r_assign (v := .int .i64 _) rfl) ?_
      refine WL_nil ?_
      refine hK76 _ _ ?_
      clear hK76 K75
      refine WC_seq (fun K79 hK80 => ?_)
      refine WC_seq (fun K81 hK82 => ?_)
      rw [b2, c2, b3, c3] at hg12_5
      have hco := fun h1 (hh : h1 ≤ (mems ns (halfB ns f l)).length) k3 (hk : k3 < 24 - l) => free_cost (k := 24 - l) (k1 := 24 - min (lvl ns (halfA ns f l)) (lvl ns (halfA ns g l))) (k2 := 24 - min (lvl ns (halfB ns f l)) (lvl ns (halfA ns g l))) (k3 := k3) (a0 := (mems ns (halfA ns f l)).length) (a1 := (mems ns (halfB ns f l)).length) (h1 := h1) (b0 := (mems ns (halfA ns g l)).length) (b1 := (mems ns (halfB ns g l)).length) hh (by omega) (by omega) hk (by omega) (by omega)
      rw [← hc1', ← hc2'] at hco
      have hco0 := hco 0 (Nat.zero_le _) 0 (by omega)
      refine WC_region ?_
      refine WL_val (dd := some 79) rfl rfl rfl (r_move (v := .int .i64 _) rfl) ?_
      refine WL_val (dd := some 80) rfl rfl rfl (r_eql rfl rfl) ?_
      refine WL_nil ?_
      refine hK82 _ _ ?_
      clear hK82 K81
      refine WC_cond (b := _) rfl (fun hc3 => ?_) (fun hc3 => ?_)
      ·
       try with_reducible replace hc3 := of_decide_eq_true hc3
       have he : er12_5 = 0 := hc3
       subst he
       obtain ⟨p1, p2, pm⟩ := hg12_5.ok rfl
       have hsub := card_sub hD.wf p1 (a := halfB ns f l) (fun x hx => by have := ((pm x).1 hx).1; rw [M_pre hg9_5.pre H1.vb] at this; exact this)
       obtain ⟨q1, q2, q3⟩ := hg12_5.old d1
       obtain ⟨r1, r2, r3⟩ := hg12_5.old o1
       refine WC_region ?_
       refine WL_val (dd := some 82) rfl rfl rfl (r_move (v := .pointer (some ⟨bz, 0, none⟩)) rfl) ?_
       refine WL_val (dd := some 83) rfl rfl rfl (r_move (v := .int .i64 _) rfl) ?_
       refine WL_val (dd := some 84) rfl rfl rfl (r_idxA rfl rfl tb_ar89 (by omega) (by omega)) ?_
       refine WL_val (dd := some 85) rfl rfl rfl (r_load1 (v := .int .i64 _) rfl tb_sc3 (At.cell hm6_3 rfl)) ?_
       refine WL_callG (dd := some 86) rfl rfl rfl (r_call3 tb_c122 (v0 := .pointer (some ⟨bz, 0, none⟩)) rfl (v1 := .int .i64 _) rfl (v2 := .int .i64 _) rfl) (ih N ba bm bz R ns12_5 id12_5 (halfB ns g l) _ (Nat.le_trans hN0 (Below.size hB)) hz hD p1 q1 (by omega)) (fun v14_4 W83 hP14_4 => ?_)
       obtain ⟨ns14_4, id14_4, er14_4, rfl, hx14_4, hDn14_4, hg14_4⟩ := hP14_4
       replace hz := At.dx hD hx14_4 hz (by decide) (by decide)
       replace hX := Dx.trans hX (hx14_4)
       replace hB := Below.dx hB (Nat.le_refl _) hN0 hx14_4
       replace hm6_2 := At.dx hD hx14_4 hm6_2 (by decide) (by decide)
       replace hm6_3 := At.dx hD hx14_4 hm6_3 (by decide) (by decide)
       replace hD := hDn14_4
       rw [show (mems ns12_5 (halfB ns g l)).length = (mems ns (halfB ns g l)).length by rw [q2, d2]] at hg14_4
       have hco3 := hco (mems ns12_5 id12_5).length hsub (24 - min (lvl ns12_5 id12_5) (lvl ns12_5 (halfB ns g l))) (by omega)
       refine WL_val (dd := some 81) rfl rfl rfl (r_move (v := .tuple #[.int .i64 (id14_4 : Int), .int .i64 er14_4]) rfl) ?_
       refine WL_val (dd := some 87) rfl rfl rfl (r_ext2_0 (h := rfl)) ?_
       refine WL_val (dd := some 88) rfl rfl rfl (r_ext2_1 (h := rfl)) ?_
       refine WL_val (dd := some 13) rfl rfl rfl (r_assign (v := .int .i64 _) rfl) ?_
       refine WL_val (dd := some 12) rfl rfl rfl (r_assign (v := .int .i64 _) rfl) ?_
       refine WL_nil ?_
       refine hK80 _ _ ?_
       clear hK80 K79
       refine WC_seq (fun K85 hK86 => ?_)
       refine WC_seq (fun K87 hK88 => ?_)
       refine WC_region ?_
       refine WL_val (dd := some 89) rfl rfl rfl (r_move (v := .int .i64 _) rfl) ?_
       refine WL_val (dd := some 90) rfl rfl rfl (r_neq rfl rfl) ?_
       refine WL_nil ?_
       refine hK88 _ _ ?_
       clear hK88 K87
       refine WC_cond (b := _) rfl (fun hc4 => ?_) (fun hc4 => ?_)
       ·
        try with_reducible replace hc4 := of_decide_eq_true hc4
        refine WC_seq (fun K89 hK90 => ?_)
        refine WC_region ?_
        refine WL_val (dd := some 91) rfl rfl rfl (r_move (v := .int .i64 _) rfl) ?_
        refine WL_val (dd := some 6) rfl rfl rfl (r_assign (v := .int .i64 0) rfl) ?_
        refine WL_val (dd := some 7) rfl rfl rfl (r_assign (v := .int .i64 _) rfl) ?_
        refine WL_nil ?_
        refine hK90 _ _ ?_
        clear hK90 K89
        refine WC_ret ?_
        repeat (first | refine thenQ_ret ?_ | refine blockQ_ret ?_)
        try clear hK86 K85
        refine ret_tt (v := .int .i64 0) rfl (v1 := .int .i64 _) rfl ?_
        rw [hl]
        exact ⟨_, 0, _, rfl, hX, hD, (hg9_5.then' hg12_5 (Nat.le_refl _)).fail2 hg14_4 hc4 (by omega)⟩
       ·
        try with_reducible replace hc4 := of_decide_eq_false hc4
        refine WC_skip ?_
        refine hK86 _ _ ?_
        clear hK86 K85
        refine WC_seq (fun K91 hK92 => ?_)
        have he : er14_4 = 0 := Decidable.of_not_not hc4
        subst he
        obtain ⟨u1, u2, _⟩ := hg14_4.ok rfl
        obtain ⟨t1, t2, t3⟩ := hg14_4.old r1
        refine WC_region ?_
        refine WL_val (dd := some 92) rfl rfl rfl (r_move (v := .pointer (some ⟨bz, 0, none⟩)) rfl) ?_
        refine WL_val (dd := some 93) rfl rfl rfl (r_move (v := .int .i64 _) rfl) ?_
        refine WL_val (dd := some 94) rfl rfl rfl (r_move (v := .int .i64 _) rfl) ?_
        refine WL_val (dd := some 95) rfl rfl rfl (r_move (v := .int .i64 _) rfl) ?_
        refine WL_callG (dd := some 96) rfl rfl rfl (r_call4 tb_c121 (v0 := .pointer (some ⟨bz, 0, none⟩)) rfl (v1 := .int .i64 _) rfl (v2 := .int .i64 _) rfl (v3 := .int .i64 _) rfl) (C___zdd_Zdd__node N ba bm bz R ns14_4 l id9_5 id14_4 _ (Nat.le_trans hN0 (Below.size hB)) hz hD t1 u1 (by omega) (by omega) h24') (fun v17_4 W93 hP17_4 => ?_)
        obtain ⟨ns17_4, id17_4, er17_4, rfl, hx17_4, hDn17_4, hg17_4⟩ := hP17_4
        replace hz := At.dx hD hx17_4 hz (by decide) (by decide)
        replace hX := Dx.trans hX (hx17_4)
        replace hB := Below.dx hB (Nat.le_refl _) hN0 hx17_4
        replace hm6_2 := At.dx hD hx17_4 hm6_2 (by decide) (by decide)
        replace hm6_3 := At.dx hD hx17_4 hm6_3 (by decide) (by decide)
        replace hD := hDn17_4
        refine WL_val (dd := some 97) rfl rfl rfl (r_ext2_0 (h := rfl)) ?_
        refine WL_val (dd := some 98) rfl rfl rfl (r_ext2_1 (h := rfl)) ?_
        refine WL_val (dd := some 6) rfl rfl rfl (r_assign (v := .int .i64 _) rfl) ?_
        refine WL_val (dd := some 7) rfl rfl rfl (r_assign (v := .int .i64 _) rfl) ?_
        refine WL_nil ?_
        refine hK92 _ _ ?_
        clear hK92 K91
        refine WC_ret ?_
        repeat (first | refine thenQ_ret ?_ | refine blockQ_ret ?_)
        refine ret_tt (v := .int .i64 _) rfl (v1 := .int .i64 _) rfl ?_
        rw [hl]
        exact ⟨_, _, _, rfl, hX, hD, free_got hwf hf hg hl.symm h24' hg9_5 hg12_5 hg14_4 (hg17_4.cheap (Nat.min_le_right _ _)) hco3⟩
      ·
       try with_reducible replace hc3 := of_decide_eq_false hc3
       refine WC_skip ?_
       refine hK80 _ _ ?_
       clear hK80 K79
       refine WC_seq (fun K95 hK96 => ?_)
       refine WC_seq (fun K97 hK98 => ?_)
       refine WC_region ?_
       refine WL_val (dd := some 89) rfl rfl rfl (r_move (v := .int .i64 _) rfl) ?_
       refine WL_val (dd := some 90) rfl rfl rfl (r_neq rfl rfl) ?_
       refine WL_nil ?_
       refine hK98 _ _ ?_
       clear hK98 K97
       refine WC_cond (b := _) rfl (fun hc4 => ?_) (fun hc4 => ?_)
       ·
        try with_reducible replace hc4 := of_decide_eq_true hc4
        refine WC_seq (fun K99 hK100 => ?_)
        refine WC_region ?_
        refine WL_val (dd := some 91) rfl rfl rfl (r_move (v := .int .i64 _) rfl) ?_
        refine WL_val (dd := some 6) rfl rfl rfl (r_assign (v := .int .i64 0) rfl) ?_
        refine WL_val (dd := some 7) rfl rfl rfl (r_assign (v := .int .i64 _) rfl) ?_
        refine WL_nil ?_
        refine hK100 _ _ ?_
        clear hK100 K99
        refine WC_ret ?_
        repeat (first | refine thenQ_ret ?_ | refine blockQ_ret ?_)
        try clear hK96 K95
        refine ret_tt (v := .int .i64 0) rfl (v1 := .int .i64 _) rfl ?_
        rw [hl]
        exact ⟨_, 0, _, rfl, hX, hD, hg9_5.fail2 hg12_5 hc4 (by omega)⟩
       ·
        try with_reducible replace hc4 := of_decide_eq_false hc4
        exact (hc4 hc3).elim

theorem FreeAll : ∀ n, FreeAt n
  | 0 => fun N ba bm bz R ns f g w _ _ hD hf _ hn => by
    have := lvl_le hD.wf hf
    omega
  | n + 1 => fun N ba bm bz R ns f g w => C_free n N ba bm bz R ns f g w (FreeAll n)
def LeastAt (n : Nat) : Prop := ∀ (N ba bm bz R : Nat) (ns : List Nd) (f : Nat) (w : World), (N ≤ w.heap.size) → (At w bz #[.pointer (some ⟨ba, 0, none⟩)] 100) → (Dia 147 150 N ba bm R w ns) → (f < ns.length + 2) → 25 - lvl ns f ≤ n →
  FnG Try.prog 74 #[.pointer (some ⟨bz, 0, none⟩), .int .i64 (f : Int)] w fun v w' => PO 147 150 N ba bm R w ns (lc (24 - lvl ns f) (mems ns f).length) (lvl ns f) (lsS (M ns f)) v w'

set_option maxRecDepth 10000 in
theorem C_least (n : Nat) (N ba bm bz R : Nat) (ns : List Nd) (f : Nat) (w : World) (ih : LeastAt n) (hN0 : N ≤ w.heap.size) (hz : At w bz #[.pointer (some ⟨ba, 0, none⟩)] 100) (hD : Dia 147 150 N ba bm R w ns) (hf : f < ns.length + 2) (hn : 25 - lvl ns f ≤ n + 1) :
    FnG Try.prog 74 #[.pointer (some ⟨bz, 0, none⟩), .int .i64 (f : Int)] w fun v w' => PO 147 150 N ba bm R w ns (lc (24 - lvl ns f) (mems ns f).length) (lvl ns f) (lsS (M ns f)) v w' := by
 refine FnG_intro (n := 61) Try.func74 rfl rfl (Nat.le_of_ble_eq_true rfl) ?_
 have hB : Below N w w := Below.refl _ _
 have hX : Dx 150 N [ba, bm] w w := Dx.refl
 have hwf := hD.wf
 have hroom := hD.room
 have htop := hD.top
 refine WC_seq (fun K1 hK2 => ?_)
 refine WC_region ?_
 refine WL_val (dd := some 4) rfl rfl rfl (r_assign (v := .int .i64 0) rfl) ?_
 refine WL_val (dd := some 5) rfl rfl rfl (r_assign (v := .int .i64 0) rfl) ?_
 refine WL_nil ?_
 refine hK2 _ _ ?_
 clear hK2 K1
 refine WC_seq (fun K3 hK4 => ?_)
 refine WC_region ?_
 refine WL_val (dd := some 14) rfl rfl rfl (r_move (v := .pointer (some ⟨bz, 0, none⟩)) rfl) ?_
 refine WL_val (dd := some 15) rfl rfl rfl (r_nilCheck_ptr rfl) ?_
 refine WL_val (dd := some 16) rfl rfl rfl (r_fieldAddr (b := _) (o := _) rfl tb_fo100_0) ?_
 refine WL_val (dd := some 17) rfl rfl rfl (r_load1 (v := .pointer (some ⟨ba, 0, none⟩)) rfl tb_sc96 (At.cell hz rfl)) ?_
 refine WL_val (dd := some 18) rfl rfl rfl (r_move (v := .int .i64 _) rfl) ?_
 refine WL_call (dd := some 19) rfl rfl rfl (r_call2 tb_c86 (v0 := .pointer (some ⟨ba, 0, none⟩)) rfl (v1 := .int .i64 _) rfl) (C___arena_Arena__Node N ba bm R ns (f : Int) _ hD (by omega)) (fun v1_5 W5 hE6 hP1_5 => ?_)
 have hsz7 := (Nat.le_trans hN0 (Below.size hB))
 replace hz := hE6.at hz
 replace hD := Dia.ext hE6 hD
 replace hX := Dx.trans hX (Dx.ext hE6)
 replace hB := below_ext hB hE6 hN0
 clear hE6
 obtain rfl := hP1_5
 clear hsz7
 refine WL_val (dd := some 13) rfl rfl rfl (r_move (v := .tuple #[.int .i64 _, .int .i64 _, .int .i64 _, .bool _]) rfl) ?_
 refine WL_val (dd := some 20) rfl rfl rfl (r_ext4_0 (h := rfl)) ?_
 refine WL_val (dd := some 21) rfl rfl rfl (r_ext4_1 (h := rfl)) ?_
 refine WL_val (dd := some 22) rfl rfl rfl (r_ext4_2 (h := rfl)) ?_
 refine WL_val (dd := some 23) rfl rfl rfl (r_ext4_3 (h := rfl)) ?_
 refine WL_val (dd := some 6) rfl rfl rfl (r_assign (v := .int .i64 _) rfl) ?_
 refine WL_val (dd := some 7) rfl rfl rfl (r_assign (v := .int .i64 _) rfl) ?_
 refine WL_val (dd := some 8) rfl rfl rfl (r_assign (v := .int .i64 _) rfl) ?_
 refine WL_val (dd := some 9) rfl rfl rfl (r_assign (v := .bool _) rfl) ?_
 refine WL_nil ?_
 refine hK4 _ _ ?_
 clear hK4 K3
 refine WC_seq (fun K8 hK9 => ?_)
 refine WC_seq (fun K10 hK11 => ?_)
 refine WC_region ?_
 refine WL_val (dd := some 24) rfl rfl rfl (r_move (v := .bool _) rfl) ?_
 refine WL_val (dd := some 25) rfl rfl rfl (r_not rfl) ?_
 refine WL_nil ?_
 refine hK11 _ _ ?_
 clear hK11 K10
 refine WC_cond (b := _) rfl (fun hc0 => ?_) (fun hc0 => ?_)
 ·
  try with_reducible replace hc0 := of_decide_eq_true hc0
  refine WC_seq (fun K12 hK13 => ?_)
  refine WC_region ?_
  refine WL_val (dd := some 26) rfl rfl rfl (r_move (v := .int .i64 _) rfl) ?_
  refine WL_val (dd := some 4) rfl rfl rfl (r_assign (v := .int .i64 _) rfl) ?_
  refine WL_val (dd := some 5) rfl rfl rfl (r_assign (v := .int .i64 0) rfl) ?_
  refine WL_nil ?_
  refine hK13 _ _ ?_
  clear hK13 K12
  refine WC_ret ?_
  repeat (first | refine thenQ_ret ?_ | refine blockQ_ret ?_)
  try clear hK9 K8
  refine ret_tt (v := .int .i64 _) rfl (v1 := .int .i64 0) rfl ?_
  exact ⟨ns, f, 0, rfl, hX, hD, Got.same hf (Nat.le_refl _) (least_0 (no_node hf (nodeI_f hc0).1))⟩
 ·
  try with_reducible replace hc0 := of_decide_eq_false hc0
  refine WC_skip ?_
  refine hK9 _ _ ?_
  clear hK9 K8
  refine WC_seq (fun K14 hK15 => ?_)
  have hnd := node_of hwf hf (nodeI_t hc0).1
  have hnl := hnd.lv
  have hn1 := hnd.llo
  have hn2 := hnd.lhi
  have hn3 := hnd.l24
  have hle := lvl_le hwf hnd.vlo
  have hle2 := lvl_le hwf hnd.vhi
  have hcn := hnd.cnt
  have hpos := List.length_pos_of_mem (mems_ne hwf f hf (by have := hnd.two; omega)).choose_spec
  have hco := fun x y (hx : x ≤ (mems ns (nodeI ns (f : Int)).lo).length) (hy : y ≤ (mems ns (nodeI ns (f : Int)).hi).length) k3 (hk : k3 < 24 - lvl ns f) => least_cost (k := 24 - lvl ns f) (k1 := 24 - lvl ns (nodeI ns (f : Int)).lo) (k2 := 24 - lvl ns (nodeI ns (f : Int)).hi) (k3 := k3) (x := x) (y := y) hx hy (by omega) (by omega) hk (by omega)
  rw [← hcn] at hco
  have hco0 := hco 0 0 (Nat.zero_le _) (Nat.zero_le _) 0 (by omega)
  refine WC_region ?_
  refine WL_val (dd := some 28) rfl rfl rfl (r_move (v := .pointer (some ⟨bz, 0, none⟩)) rfl) ?_
  refine WL_val (dd := some 29) rfl rfl rfl (r_move (v := .int .i64 _) rfl) ?_
  refine WL_callG (dd := some 30) rfl rfl rfl (r_call2 tb_c74 (v0 := .pointer (some ⟨bz, 0, none⟩)) rfl (v1 := .int .i64 _) rfl) (ih N ba bm bz R ns (nodeI ns (f : Int)).lo _ (Nat.le_trans hN0 (Below.size hB)) hz hD hnd.vlo (by omega)) (fun v4_2 W16 hP4_2 => ?_)
  obtain ⟨ns4_2, id4_2, er4_2, rfl, hx4_2, hDn4_2, hg4_2⟩ := hP4_2
  replace hz := At.dx hD hx4_2 hz (by decide) (by decide)
  replace hX := Dx.trans hX (hx4_2)
  replace hB := Below.dx hB (Nat.le_refl _) hN0 hx4_2
  replace hD := hDn4_2
  refine WL_val (dd := some 27) rfl rfl rfl (r_move (v := .tuple #[.int .i64 (id4_2 : Int), .int .i64 er4_2]) rfl) ?_
  refine WL_val (dd := some 31) rfl rfl rfl (r_ext2_0 (h := rfl)) ?_
  refine WL_val (dd := some 32) rfl rfl rfl (r_ext2_1 (h := rfl)) ?_
  refine WL_val (dd := some 10) rfl rfl rfl (r_assign (v := .int .i64 _) rfl) ?_
  refine WL_val (dd := some 11) rfl rfl rfl (r_assign (v := .int .i64 _) rfl) ?_
  refine WL_nil ?_
  refine hK15 _ _ ?_
  clear hK15 K14
  refine WC_seq (fun K18 hK19 => ?_)
  refine WC_seq (fun K20 hK21 => ?_)
  refine WC_region ?_
  refine WL_val (dd := some 33) rfl rfl rfl (r_move (v := .int .i64 _) rfl) ?_
  refine WL_val (dd := some 34) rfl rfl rfl (r_neq rfl rfl) ?_
  refine WL_nil ?_
  refine hK21 _ _ ?_
  clear hK21 K20
  refine WC_cond (b := _) rfl (fun hc1 => ?_) (fun hc1 => ?_)
  ·
   try with_reducible replace hc1 := of_decide_eq_true hc1
   refine WC_seq (fun K22 hK23 => ?_)
   refine WC_region ?_
   refine WL_val (dd := some 35) rfl rfl rfl (r_move (v := .int .i64 _) rfl) ?_
   refine WL_val (dd := some 4) rfl rfl rfl (r_assign (v := .int .i64 0) rfl) ?_
   refine WL_val (dd := some 5) rfl rfl rfl (r_assign (v := .int .i64 _) rfl) ?_
   refine WL_nil ?_
   refine hK23 _ _ ?_
   clear hK23 K22
   refine WC_ret ?_
   repeat (first | refine thenQ_ret ?_ | refine blockQ_ret ?_)
   try clear hK19 K18
   refine ret_tt (v := .int .i64 0) rfl (v1 := .int .i64 _) rfl ?_
   exact ⟨_, 0, _, rfl, hX, hD, hg4_2.fail hc1 (by omega)⟩
  ·
   try with_reducible replace hc1 := of_decide_eq_false hc1
   refine WC_skip ?_
   refine hK19 _ _ ?_
   clear hK19 K18
   refine WC_seq (fun K24 hK25 => ?_)
   have he : er4_2 = 0 := Decidable.of_not_not hc1
   subst he
   obtain ⟨v1, v1l, vm⟩ := hg4_2.ok rfl
   obtain ⟨b1, b2, b3⟩ := hg4_2.old hnd.vhi
   have hsx := card_sub hD.wf v1 (a := (nodeI ns (f : Int)).lo) (fun x hx => ((vm x).1 hx).1)
   refine WC_region ?_
   refine WL_val (dd := some 37) rfl rfl rfl (r_move (v := .pointer (some ⟨bz, 0, none⟩)) rfl) ?_
   refine WL_val (dd := some 38) rfl rfl rfl (r_move (v := .int .i64 _) rfl) ?_
   refine WL_callG (dd := some 39) rfl rfl rfl (r_call2 tb_c74 (v0 := .pointer (some ⟨bz, 0, none⟩)) rfl (v1 := .int .i64 _) rfl) (ih N ba bm bz R ns4_2 (nodeI ns (f : Int)).hi _ (Nat.le_trans hN0 (Below.size hB)) hz hD b1 (by omega)) (fun v7_2 W26 hP7_2 => ?_)
   obtain ⟨ns7_2, id7_2, er7_2, rfl, hx7_2, hDn7_2, hg7_2⟩ := hP7_2
   replace hz := At.dx hD hx7_2 hz (by decide) (by decide)
   replace hX := Dx.trans hX (hx7_2)
   replace hB := Below.dx hB (Nat.le_refl _) hN0 hx7_2
   replace hD := hDn7_2
   refine WL_val (dd := some 36) rfl rfl rfl (r_move (v := .tuple #[.int .i64 (id7_2 : Int), .int .i64 er7_2]) rfl) ?_
   refine WL_val (dd := some 40) rfl rfl rfl (r_ext2_0 (h := rfl)) ?_
   refine WL_val (dd := some 41) rfl rfl rfl (r_ext2_1 (h := rfl)) ?_
   refine WL_val (dd := some 12) rfl rfl rfl (r_assign (v := .int .i64 _) rfl) ?_
   refine WL_val (dd := some 11) rfl rfl rfl (r_assign (v := .int .i64 _) rfl) ?_
   refine WL_nil ?_
   refine hK25 _ _ ?_
   clear hK25 K24
   refine WC_seq (fun K28 hK29 => ?_)
   refine WC_seq (fun K30 hK31 => ?_)
   rw [b2, b3] at hg7_2
   refine WC_region ?_
   refine WL_val (dd := some 42) rfl rfl rfl (r_move (v := .int .i64 _) rfl) ?_
   refine WL_val (dd := some 43) rfl rfl rfl (r_eql rfl rfl) ?_
   refine WL_nil ?_
   refine hK31 _ _ ?_
   clear hK31 K30
   refine WC_cond (b := _) rfl (fun hc2 => ?_) (fun hc2 => ?_)
   ·
    try with_reducible replace hc2 := of_decide_eq_true hc2
    have he : er7_2 = 0 := hc2
    subst he
    obtain ⟨p1, p2, pm⟩ := hg7_2.ok rfl
    obtain ⟨q1, q2, q3⟩ := hg7_2.old v1
    have hsy := card_sub hD.wf p1 (a := (nodeI ns (f : Int)).hi) (fun x hx => by have := ((pm x).1 hx).1; rw [M_pre hg4_2.pre hnd.vhi] at this; exact this)
    refine WC_region ?_
    refine WL_val (dd := some 45) rfl rfl rfl (r_move (v := .pointer (some ⟨bz, 0, none⟩)) rfl) ?_
    refine WL_val (dd := some 46) rfl rfl rfl (r_move (v := .int .i64 _) rfl) ?_
    refine WL_val (dd := some 47) rfl rfl rfl (r_move (v := .int .i64 _) rfl) ?_
    refine WL_callG (dd := some 48) rfl rfl rfl (r_call3 tb_c122 (v0 := .pointer (some ⟨bz, 0, none⟩)) rfl (v1 := .int .i64 _) rfl (v2 := .int .i64 _) rfl) (FreeAll 25 N ba bm bz R ns7_2 id7_2 id4_2 _ (Nat.le_trans hN0 (Below.size hB)) hz hD p1 q1 (by omega)) (fun v9_3 W32 hP9_3 => ?_)
    obtain ⟨ns9_3, id9_3, er9_3, rfl, hx9_3, hDn9_3, hg9_3⟩ := hP9_3
    replace hz := At.dx hD hx9_3 hz (by decide) (by decide)
    replace hX := Dx.trans hX (hx9_3)
    replace hB := Below.dx hB (Nat.le_refl _) hN0 hx9_3
    replace hD := hDn9_3
    have hco3 := hco (mems ns7_2 id4_2).length (mems ns7_2 id7_2).length (by rw [q2]; exact hsx) hsy (24 - min (lvl ns7_2 id7_2) (lvl ns7_2 id4_2)) (by omega)
    refine WL_val (dd := some 44) rfl rfl rfl (r_move (v := .tuple #[.int .i64 (id9_3 : Int), .int .i64 er9_3]) rfl) ?_
    refine WL_val (dd := some 49) rfl rfl rfl (r_ext2_0 (h := rfl)) ?_
    refine WL_val (dd := some 50) rfl rfl rfl (r_ext2_1 (h := rfl)) ?_
    refine WL_val (dd := some 12) rfl rfl rfl (r_assign (v := .int .i64 _) rfl) ?_
    refine WL_val (dd := some 11) rfl rfl rfl (r_assign (v := .int .i64 _) rfl) ?_
    refine WL_nil ?_
    refine hK29 _ _ ?_
    clear hK29 K28
    refine WC_seq (fun K34 hK35 => ?_)
    refine WC_seq (fun K36 hK37 => ?_)
    refine WC_region ?_
    refine WL_val (dd := some 51) rfl rfl rfl (r_move (v := .int .i64 _) rfl) ?_
    refine WL_val (dd := some 52) rfl rfl rfl (r_neq rfl rfl) ?_
    refine WL_nil ?_
    refine hK37 _ _ ?_
    clear hK37 K36
    refine WC_cond (b := _) rfl (fun hc3 => ?_) (fun hc3 => ?_)
    ·
     try with_reducible replace hc3 := of_decide_eq_true hc3
     refine WC_seq (fun K38 hK39 => ?_)
     refine WC_region ?_
     refine WL_val (dd := some 53) rfl rfl rfl (r_move (v := .int .i64 _) rfl) ?_
     refine WL_val (dd := some 4) rfl rfl rfl (r_assign (v := .int .i64 0) rfl) ?_
     refine WL_val (dd := some 5) rfl rfl rfl (r_assign (v := .int .i64 _) rfl) ?_
     refine WL_nil ?_
     refine hK39 _ _ ?_
     clear hK39 K38
     refine WC_ret ?_
     repeat (first | refine thenQ_ret ?_ | refine blockQ_ret ?_)
     try clear hK35 K34
     refine ret_tt (v := .int .i64 0) rfl (v1 := .int .i64 _) rfl ?_
     exact ⟨_, 0, _, rfl, hX, hD, (hg4_2.then' hg7_2 (Nat.le_refl _)).fail2 hg9_3 hc3 (by omega)⟩
    ·
     try with_reducible replace hc3 := of_decide_eq_false hc3
     refine WC_skip ?_
     refine hK35 _ _ ?_
     clear hK35 K34
     refine WC_seq (fun K40 hK41 => ?_)
     have he : er9_3 = 0 := Decidable.of_not_not hc3
     subst he
     obtain ⟨u1, u2, _⟩ := hg9_3.ok rfl
     obtain ⟨t1, t2, t3⟩ := hg9_3.old q1
     refine WC_region ?_
     refine WL_val (dd := some 54) rfl rfl rfl (r_move (v := .pointer (some ⟨bz, 0, none⟩)) rfl) ?_
     refine WL_val (dd := some 55) rfl rfl rfl (r_move (v := .int .i64 _) rfl) ?_
     refine WL_val (dd := some 56) rfl rfl rfl (r_move (v := .int .i64 _) rfl) ?_
     refine WL_val (dd := some 57) rfl rfl rfl (r_move (v := .int .i64 _) rfl) ?_
     refine WL_callG (dd := some 58) rfl rfl rfl (r_call4 tb_c121 (v0 := .pointer (some ⟨bz, 0, none⟩)) rfl (v1 := .int .i64 _) rfl (v2 := .int .i64 _) rfl (v3 := .int .i64 _) rfl) (C___zdd_Zdd__node N ba bm bz R ns9_3 (nodeI ns (f : Int)).l id4_2 id9_3 _ (Nat.le_trans hN0 (Below.size hB)) hz hD t1 u1 (by omega) (by omega) hn3) (fun v12_4 W42 hP12_4 => ?_)
     obtain ⟨ns12_4, id12_4, er12_4, rfl, hx12_4, hDn12_4, hg12_4⟩ := hP12_4
     replace hz := At.dx hD hx12_4 hz (by decide) (by decide)
     replace hX := Dx.trans hX (hx12_4)
     replace hB := Below.dx hB (Nat.le_refl _) hN0 hx12_4
     replace hD := hDn12_4
     refine WL_val (dd := some 59) rfl rfl rfl (r_ext2_0 (h := rfl)) ?_
     refine WL_val (dd := some 60) rfl rfl rfl (r_ext2_1 (h := rfl)) ?_
     refine WL_val (dd := some 4) rfl rfl rfl (r_assign (v := .int .i64 _) rfl) ?_
     refine WL_val (dd := some 5) rfl rfl rfl (r_assign (v := .int .i64 _) rfl) ?_
     refine WL_nil ?_
     refine hK41 _ _ ?_
     clear hK41 K40
     refine WC_ret ?_
     repeat (first | refine thenQ_ret ?_ | refine blockQ_ret ?_)
     refine ret_tt (v := .int .i64 _) rfl (v1 := .int .i64 _) rfl ?_
     exact ⟨_, _, _, rfl, hX, hD, (least_got hwf hnd hg4_2 hg7_2 hg9_3 (hg12_4.cheap (Nat.min_le_right _ _)) hco3).low (by omega)⟩
   ·
    try with_reducible replace hc2 := of_decide_eq_false hc2
    refine WC_skip ?_
    refine hK29 _ _ ?_
    clear hK29 K28
    refine WC_seq (fun K44 hK45 => ?_)
    refine WC_seq (fun K46 hK47 => ?_)
    refine WC_region ?_
    refine WL_val (dd := some 51) rfl rfl rfl (r_move (v := .int .i64 _) rfl) ?_
    refine WL_val (dd := some 52) rfl rfl rfl (r_neq rfl rfl) ?_
    refine WL_nil ?_
    refine hK47 _ _ ?_
    clear hK47 K46
    refine WC_cond (b := _) rfl (fun hc3 => ?_) (fun hc3 => ?_)
    ·
     try with_reducible replace hc3 := of_decide_eq_true hc3
     refine WC_seq (fun K48 hK49 => ?_)
     refine WC_region ?_
     refine WL_val (dd := some 53) rfl rfl rfl (r_move (v := .int .i64 _) rfl) ?_
     refine WL_val (dd := some 4) rfl rfl rfl (r_assign (v := .int .i64 0) rfl) ?_
     refine WL_val (dd := some 5) rfl rfl rfl (r_assign (v := .int .i64 _) rfl) ?_
     refine WL_nil ?_
     refine hK49 _ _ ?_
     clear hK49 K48
     refine WC_ret ?_
     repeat (first | refine thenQ_ret ?_ | refine blockQ_ret ?_)
     try clear hK45 K44
     refine ret_tt (v := .int .i64 0) rfl (v1 := .int .i64 _) rfl ?_
     exact ⟨_, 0, _, rfl, hX, hD, hg4_2.fail2 hg7_2 hc3 (by omega)⟩
    ·
     try with_reducible replace hc3 := of_decide_eq_false hc3
     exact (hc3 hc2).elim

theorem LeastAll : ∀ n, LeastAt n
  | 0 => fun N ba bm bz R ns f w _ _ hD hf hn => by
    have := lvl_le hD.wf hf
    omega
  | n + 1 => fun N ba bm bz R ns f w => C_least n N ba bm bz R ns f w (LeastAll n)

theorem C___zdd_Zdd__Least (N ba bm bz R : Nat) (ns : List Nd) (f : Nat) (w : World) (hN0 : N ≤ w.heap.size) (hz : At w bz #[.pointer (some ⟨ba, 0, none⟩)] 100) (hD : Dia 147 150 N ba bm R w ns) (hf : f < ns.length + 2) :
    FnG Try.prog 26 #[.pointer (some ⟨bz, 0, none⟩), .int .i64 (f : Int)] w fun v w' => PO 147 150 N ba bm R w ns (lc (24 - lvl ns f) (mems ns f).length) (lvl ns f) (lsS (M ns f)) v w' := by
 refine FnG_intro (n := 16) Try.func26 rfl rfl (Nat.le_of_ble_eq_true rfl) ?_
 have hB : Below N w w := Below.refl _ _
 have hX : Dx 150 N [ba, bm] w w := Dx.refl
 have hwf := hD.wf
 have hroom := hD.room
 have htop := hD.top
 refine WC_seq (fun K1 hK2 => ?_)
 refine WC_region ?_
 refine WL_val (dd := some 4) rfl rfl rfl (r_assign (v := .int .i64 0) rfl) ?_
 refine WL_val (dd := some 5) rfl rfl rfl (r_assign (v := .int .i64 0) rfl) ?_
 refine WL_nil ?_
 refine hK2 _ _ ?_
 clear hK2 K1
 refine WC_seq (fun K3 hK4 => ?_)
 refine WC_seq (fun K5 hK6 => ?_)
 refine WC_region ?_
 refine WL_val (dd := some 6) rfl rfl rfl (r_move (v := .pointer (some ⟨bz, 0, none⟩)) rfl) ?_
 refine WL_val (dd := some 7) rfl rfl rfl (r_move (v := .int .i64 _) rfl) ?_
 refine WL_step (dd := some 8) rfl rfl rfl (Y_lit1 (u := .int .i64 _) rfl tb_el22 tb_zs3 rfl (by decide) (by decide) (fun b1_2 W7 hb8 hE9 hm1_2 => ?_))
 have lo_b1_2 : N ≤ b1_2 := hb8 ▸ (Nat.le_trans hN0 (Below.size hB))
 clear hb8
 replace hz := hE9.at hz
 replace hD := Dia.ext hE9 hD
 replace hX := Dx.trans hX (Dx.ext hE9)
 replace hB := below_ext hB hE9 hN0
 clear hE9
 have ho10 := own_lit1 (enc := encI) (a := _) hm1_2 rfl rfl lo_b1_2
 clear hm1_2
 refine WL_call (dd := some 9) rfl rfl rfl (r_call2 tb_c73 (v0 := .pointer (some ⟨bz, 0, none⟩)) rfl (v1 := .slice (some ⟨b1_2, 0, none⟩) 1 1) rfl) (C___zdd_Zdd__there N ba bm bz R ns _ [(f : Int)] _ hz hD ho10.sl (by simp) (by simp; omega)) (fun v1_3 W11 hE12 hP1_3 => ?_)
 have hsz13 := (Nat.le_trans hN0 (Below.size hB))
 replace hz := hE12.at hz
 replace hD := Dia.ext hE12 hD
 replace hX := Dx.trans hX (Dx.ext hE12)
 replace hB := below_ext hB hE12 hN0
 replace ho10 := hE12.ow ho10
 clear hE12
 clear hsz13
 obtain rfl := hP1_3
 refine WL_val (dd := some 10) rfl rfl rfl (r_not rfl) ?_
 refine WL_nil ?_
 refine hK6 _ _ ?_
 clear hK6 K5
 refine WC_cond (b := _) rfl (fun hc0 => ?_) (fun hc0 => ?_)
 ·
  try with_reducible replace hc0 := of_decide_eq_true hc0
  exact absurd (not_t' hc0) (by simp [thereZ]; omega)
 ·
  try with_reducible replace hc0 := of_decide_eq_false hc0
  refine WC_skip ?_
  refine hK4 _ _ ?_
  clear hK4 K3
  refine WC_seq (fun K14 hK15 => ?_)
  refine WC_region ?_
  refine WL_val (dd := some 11) rfl rfl rfl (r_move (v := .pointer (some ⟨bz, 0, none⟩)) rfl) ?_
  refine WL_val (dd := some 12) rfl rfl rfl (r_move (v := .int .i64 _) rfl) ?_
  refine WL_callG (dd := some 13) rfl rfl rfl (r_call2 tb_c74 (v0 := .pointer (some ⟨bz, 0, none⟩)) rfl (v1 := .int .i64 _) rfl) (LeastAll 25 N ba bm bz R ns f _ (Nat.le_trans hN0 (Below.size hB)) hz hD hf (by omega)) (fun v3_2 W16 hP3_2 => ?_)
  obtain ⟨ns3_2, id3_2, er3_2, rfl, hx3_2, hDn3_2, hg3_2⟩ := hP3_2
  replace hz := At.dx hD hx3_2 hz (by decide) (by decide)
  replace hX := Dx.trans hX (hx3_2)
  replace hB := Below.dx hB (Nat.le_refl _) hN0 hx3_2
  replace ho10 := OwT.dx hD hx3_2 ho10 (by decide) (by decide)
  replace hD := hDn3_2
  refine WL_val (dd := some 14) rfl rfl rfl (r_ext2_0 (h := rfl)) ?_
  refine WL_val (dd := some 15) rfl rfl rfl (r_ext2_1 (h := rfl)) ?_
  refine WL_val (dd := some 4) rfl rfl rfl (r_assign (v := .int .i64 _) rfl) ?_
  refine WL_val (dd := some 5) rfl rfl rfl (r_assign (v := .int .i64 _) rfl) ?_
  refine WL_nil ?_
  refine hK15 _ _ ?_
  clear hK15 K14
  refine WC_ret ?_
  repeat (first | refine thenQ_ret ?_ | refine blockQ_ret ?_)
  refine ret_tt (v := .int .i64 _) rfl (v1 := .int .i64 _) rfl ?_
  exact ⟨_, _, _, rfl, hX, hD, hg3_2⟩

def CountAt (n : Nat) : Prop := ∀ (N ba bm bz R : Nat) (ns : List Nd) (id : Int) (w : World), At w bz #[.pointer (some ⟨ba, 0, none⟩)] 100 → Dia 147 150 N ba bm R w ns → id ≤ 9223372036854775807 → id.toNat < n → Fn Try.prog 39 #[.pointer (some ⟨bz, 0, none⟩), .int .i64 id] w fun v w' => v = .int .i64 (cntI ns id)

theorem C_count (n : Nat) (N ba bm bz R : Nat) (ns : List Nd) (id : Int) (w : World) (ih : CountAt n) (hz : At w bz #[.pointer (some ⟨ba, 0, none⟩)] 100) (hD : Dia 147 150 N ba bm R w ns) (hid : id ≤ 9223372036854775807) (hn : id.toNat < n + 1) :
    Fn Try.prog 39 #[.pointer (some ⟨bz, 0, none⟩), .int .i64 id] w fun v w' => v = .int .i64 (cntI ns id) := by
 refine Fn_intro (n := 35) Try.func39 rfl rfl (Nat.le_of_ble_eq_true rfl) ?_
 have hB : Below w.heap.size w w := Below.refl _ _
 have hwf := hD.wf
 have hroom := hD.room
 have htop := hD.top
 refine WC_seq (fun K1 hK2 => ?_)
 refine WC_region ?_
 refine WL_val (dd := some 4) rfl rfl rfl (r_assign (v := .int .i64 0) rfl) ?_
 refine WL_nil ?_
 refine hK2 _ _ ?_
 clear hK2 K1
 refine WC_seq (fun K3 hK4 => ?_)
 refine WC_seq (fun K5 hK6 => ?_)
 refine WC_region ?_
 refine WL_val (dd := some 9) rfl rfl rfl (r_move (v := .pointer (some ⟨bz, 0, none⟩)) rfl) ?_
 refine WL_val (dd := some 10) rfl rfl rfl (r_move (v := .int .i64 _) rfl) ?_
 refine WL_step (dd := some 11) rfl rfl rfl (Y_lit1 (u := .int .i64 _) rfl tb_el22 tb_zs3 rfl (by decide) (by decide) (fun b1_2 W7 hb8 hE9 hm1_2 => ?_))
 have lo_b1_2 : w.heap.size ≤ b1_2 := hb8 ▸ (Below.size hB)
 clear hb8
 replace hB := below_ext hB hE9 (Nat.le_refl _)
 clear hE9
 have ho10 := own_lit1 (enc := encI) (a := _) hm1_2 rfl rfl lo_b1_2
 clear hm1_2
 refine WL_call (dd := some 12) rfl rfl rfl (r_call2 tb_c73 (v0 := .pointer (some ⟨bz, 0, none⟩)) rfl (v1 := .slice (some ⟨b1_2, 0, none⟩) 1 1) rfl) (C___zdd_Zdd__there N ba bm bz R ns _ [id] _ (Below.atI hB hz) (Dia.below hB hD) ho10.sl (by simp) (by simp; omega)) (fun v1_3 W11 hE12 hP1_3 => ?_)
 have hsz13 := (Below.size hB)
 replace hB := below_ext hB hE12 (Nat.le_refl _)
 replace ho10 := hE12.ow ho10
 clear hE12
 clear hsz13
 obtain rfl := hP1_3
 refine WL_val (dd := some 13) rfl rfl rfl (r_not rfl) ?_
 refine WL_nil ?_
 refine hK6 _ _ ?_
 clear hK6 K5
 refine WC_cond (b := _) rfl (fun hc0 => ?_) (fun hc0 => ?_)
 ·
  try with_reducible replace hc0 := of_decide_eq_true hc0
  refine WC_seq (fun K14 hK15 => ?_)
  refine WC_region ?_
  refine WL_val (dd := some 4) rfl rfl rfl (r_assign (v := .int .i64 0) rfl) ?_
  refine WL_nil ?_
  refine hK15 _ _ ?_
  clear hK15 K14
  refine WC_ret ?_
  repeat (first | refine thenQ_ret ?_ | refine blockQ_ret ?_)
  try clear hK4 K3
  refine ret_t (v := .int .i64 0) rfl ?_
  refine ⟨hB, ?_⟩
  exact cnt_none (by simpa using not_t' hc0)
 ·
  try with_reducible replace hc0 := of_decide_eq_false hc0
  refine WC_skip ?_
  refine hK4 _ _ ?_
  clear hK4 K3
  refine WC_seq (fun K16 hK17 => ?_)
  refine WC_seq (fun K18 hK19 => ?_)
  have htz : thereZ ns id = true := by simpa using not_f' hc0
  have hti := tz_iff.1 htz
  refine WC_region ?_
  refine WL_val (dd := some 14) rfl rfl rfl (r_move (v := .int .i64 _) rfl) ?_
  refine WL_val (dd := some 15) rfl rfl rfl (r_lss rfl rfl) ?_
  refine WL_nil ?_
  refine hK19 _ _ ?_
  clear hK19 K18
  refine WC_cond (b := _) rfl (fun hc1 => ?_) (fun hc1 => ?_)
  ·
   try with_reducible replace hc1 := of_decide_eq_true hc1
   refine WC_seq (fun K20 hK21 => ?_)
   refine WC_region ?_
   refine WL_val (dd := some 16) rfl rfl rfl (r_move (v := .int .i64 _) rfl) ?_
   refine WL_val (dd := some 4) rfl rfl rfl (r_assign (v := .int .i64 _) rfl) ?_
   refine WL_nil ?_
   refine hK21 _ _ ?_
   clear hK21 K20
   refine WC_ret ?_
   repeat (first | refine thenQ_ret ?_ | refine blockQ_ret ?_)
   try clear hK17 K16
   refine ret_t (v := .int .i64 _) rfl ?_
   refine ⟨hB, ?_⟩
   exact cnt_small htz hc1
  ·
   try with_reducible replace hc1 := of_decide_eq_false hc1
   refine WC_skip ?_
   refine hK17 _ _ ?_
   clear hK17 K16
   refine WC_seq (fun K22 hK23 => ?_)
   obtain ⟨f, rfl⟩ := Int.eq_ofNat_of_zero_le hti.1
   have hnd := node_of hwf (show f < ns.length + 2 by omega) (there_iff.2 (show 2 ≤ (f : Int) ∧ (f : Int) < (ns.length : Int) + 2 by omega))
   have h1 := hnd.ltlo
   have h2 := hnd.lthi
   have k1 := mems_card hwf hnd.vlo
   have k2 := mems_card hwf hnd.vhi
   have e1 := cntI_nat hnd.vlo
   have e2 := cntI_nat hnd.vhi
   refine WC_region ?_
   refine WL_val (dd := some 18) rfl rfl rfl (r_move (v := .pointer (some ⟨bz, 0, none⟩)) rfl) ?_
   refine WL_val (dd := some 19) rfl rfl rfl (r_nilCheck_ptr rfl) ?_
   refine WL_val (dd := some 20) rfl rfl rfl (r_fieldAddr (b := _) (o := _) rfl tb_fo100_0) ?_
   refine WL_val (dd := some 21) rfl rfl rfl (r_load1 (v := .pointer (some ⟨ba, 0, none⟩)) rfl tb_sc96 (At.cell (Below.atI hB hz) rfl)) ?_
   refine WL_val (dd := some 22) rfl rfl rfl (r_move (v := .int .i64 _) rfl) ?_
   refine WL_call (dd := some 23) rfl rfl rfl (r_call2 tb_c86 (v0 := .pointer (some ⟨ba, 0, none⟩)) rfl (v1 := .int .i64 _) rfl) (C___arena_Arena__Node _ _ _ _ _ _ _ (Dia.below hB hD) (by first | assumption | omega)) (fun v5_5 W24 hE25 hP5_5 => ?_)
   have hsz26 := (Below.size hB)
   replace hB := below_ext hB hE25 (Nat.le_refl _)
   replace ho10 := hE25.ow ho10
   clear hE25
   obtain rfl := hP5_5
   clear hsz26
   refine WL_val (dd := some 17) rfl rfl rfl (r_move (v := .tuple #[.int .i64 _, .int .i64 _, .int .i64 _, .bool _]) rfl) ?_
   refine WL_val (dd := some 24) rfl rfl rfl (r_ext4_0 (h := rfl)) ?_
   refine WL_val (dd := some 25) rfl rfl rfl (r_ext4_1 (h := rfl)) ?_
   refine WL_val (dd := some 26) rfl rfl rfl (r_ext4_2 (h := rfl)) ?_
   refine WL_val (dd := some 27) rfl rfl rfl (r_ext4_3 (h := rfl)) ?_
   refine WL_val (dd := some 5) rfl rfl rfl (r_assign (v := .int .i64 _) rfl) ?_
   refine WL_val (dd := some 6) rfl rfl rfl (r_assign (v := .int .i64 _) rfl) ?_
   refine WL_val (dd := some 7) rfl rfl rfl (r_assign (v := .int .i64 _) rfl) ?_
   refine WL_val (dd := some 8) rfl rfl rfl (r_assign (v := .bool _) rfl) ?_
   refine WL_nil ?_
   refine hK23 _ _ ?_
   clear hK23 K22
   refine WC_seq (fun K27 hK28 => ?_)
   refine WC_region ?_
   refine WL_val (dd := some 28) rfl rfl rfl (r_move (v := .pointer (some ⟨bz, 0, none⟩)) rfl) ?_
   refine WL_val (dd := some 29) rfl rfl rfl (r_move (v := .int .i64 _) rfl) ?_
   refine WL_call (dd := some 30) rfl rfl rfl (r_call2 tb_c39 (v0 := .pointer (some ⟨bz, 0, none⟩)) rfl (v1 := .int .i64 _) rfl) (ih N ba bm bz R ns _ _ (Below.atI hB hz) (Dia.below hB hD) (by omega) (by omega)) (fun v6_2 W29 hE30 hP6_2 => ?_)
   have hsz31 := (Below.size hB)
   replace hB := below_ext hB hE30 (Nat.le_refl _)
   replace ho10 := hE30.ow ho10
   clear hE30
   clear hsz31
   obtain rfl := hP6_2
   refine WL_val (dd := some 31) rfl rfl rfl (r_move (v := .pointer (some ⟨bz, 0, none⟩)) rfl) ?_
   refine WL_val (dd := some 32) rfl rfl rfl (r_move (v := .int .i64 _) rfl) ?_
   refine WL_call (dd := some 33) rfl rfl rfl (r_call2 tb_c39 (v0 := .pointer (some ⟨bz, 0, none⟩)) rfl (v1 := .int .i64 _) rfl) (ih N ba bm bz R ns _ _ (Below.atI hB hz) (Dia.below hB hD) (by omega) (by omega)) (fun v6_5 W32 hE33 hP6_5 => ?_)
   have hsz34 := (Below.size hB)
   replace hB := below_ext hB hE33 (Nat.le_refl _)
   replace ho10 := hE33.ow ho10
   clear hE33
   clear hsz34
   obtain rfl := hP6_5
   refine WL_val (dd := some 34) rfl rfl rfl (r_addI rfl rfl (by omega) (by omega)) ?_
   refine WL_val (dd := some 4) rfl rfl rfl (r_assign (v := .int .i64 _) rfl) ?_
   refine WL_nil ?_
   refine hK28 _ _ ?_
   clear hK28 K27
   refine WC_ret ?_
   repeat (first | refine thenQ_ret ?_ | refine blockQ_ret ?_)
   refine ret_t (v := .int .i64 _) rfl ?_
   refine ⟨hB, ?_⟩
   rw [cnt_node (by omega) hnd]

end Go.Proofs.Ytpamgfbecgjjeaa
