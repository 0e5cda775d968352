/-
  The walks of the statements about families.
-/
import Derived.Test.YtpamgfbecgjjeaaProg
import Derived.Test.YtpamgfbecgjjeaaWRef08
import Derived.Test.YtpamgfbecgjjeaaWZdd3
import Derived.Test.YtpamgfbecgjjeaaZ10
namespace Go.Proofs.Ytpamgfbecgjjeaa
set_option linter.unusedVariables false
set_option linter.unusedSimpArgs false
open Go Go.RowKit

theorem tb_c37 : callB Try.prog 37 = true := by kernel_rfl
theorem tb_c31 : callB Try.prog 31 = true := by kernel_rfl
theorem tb_c30 : callB Try.prog 30 = true := by kernel_rfl
theorem tb_c32 : callB Try.prog 32 = true := by kernel_rfl
theorem tb_c26 : callB Try.prog 26 = true := by kernel_rfl
theorem tb_c23 : callB Try.prog 23 = true := by kernel_rfl
theorem tb_c24 : callB Try.prog 24 = true := by kernel_rfl
theorem tb_c29 : callB Try.prog 29 = true := by kernel_rfl
theorem tb_c19 : callB Try.prog 19 = true := by kernel_rfl
theorem tb_c20 : callB Try.prog 20 = true := by kernel_rfl
theorem tb_c27 : callB Try.prog 27 = true := by kernel_rfl
theorem tb_c34 : callB Try.prog 34 = true := by kernel_rfl
theorem tb_c35 : callB Try.prog 35 = true := by kernel_rfl
theorem tb_c25 : callB Try.prog 25 = true := by kernel_rfl
theorem tb_c36 : callB Try.prog 36 = true := by kernel_rfl
theorem tb_c40 : callB Try.prog 40 = true := by kernel_rfl
theorem tb_c41 : callB Try.prog 41 = true := by kernel_rfl
theorem tb_c42 : callB Try.prog 42 = true := by kernel_rfl

theorem C_drawknifelaw08_great (xf : Value) (f : List Int) (xg : Value) (g : List Int) (w : World) (hf : SlT encI 1 w xf f) (hg : SlT encI 1 w xg g) :
    Fn Try.prog 29 #[xf, xg] w fun v w' => v = .bool (great8 f g) := by
  refine Fn_intro (n := 13) Try.func29 rfl rfl (Nat.le_of_ble_eq_true rfl) ?_
  have hB : Below w.heap.size w w := Below.refl _ _
  refine WC_seq (fun K1 hK2 => ?_)
  refine WC_region ?_
  refine WL_val (dd := some 4) rfl rfl rfl (r_assign (v := .bool false) rfl) ?_
  refine WL_nil ?_
  refine hK2 _ _ ?_
  clear hK2 K1
  refine WC_seq (fun K3 hK4 => ?_)
  refine WC_region ?_
  refine WL_val (dd := some 5) rfl rfl rfl (r_move (v := xf) rfl) ?_
  refine WL_val (dd := some 6) rfl rfl rfl (r_lenS (v := xf) rfl (Below.slT hB hf) tb_el22) ?_
  refine WL_val (dd := some 7) rfl rfl rfl (r_gtr rfl rfl) ?_
  refine WL_split (dd := some 8) rfl rfl rfl (r_move (v := .bool _) rfl) (fun hs1_3 => ?_) (fun hs1_3 => ?_)
  ·
    try with_reducible replace hs1_3 := of_decide_eq_true hs1_3
    refine WL_skip (dd := some 9) rfl rfl rfl ?_
    refine WL_skip (dd := some 10) rfl rfl rfl ?_
    refine WL_skip (dd := some 11) rfl rfl rfl ?_
    refine WL_val (dd := some 12) rfl rfl rfl (r_pick_t rfl (v := .bool true) rfl) ?_
    refine WL_val (dd := some 4) rfl rfl rfl (r_assign (v := .bool true) rfl) ?_
    refine WL_nil ?_
    refine hK4 _ _ ?_
    clear hK4 K3
    refine WC_ret ?_
    repeat (first | refine thenQ_ret ?_ | refine blockQ_ret ?_)
    refine ret_t (v := .bool true) rfl ?_
    refine ⟨hB, ?_⟩
    first | exact g8_1 hs1_3 | exact g8_2 hs1_3
  ·
    try with_reducible replace hs1_3 := of_decide_eq_false hs1_3
    refine WL_val (dd := some 9) rfl rfl rfl (r_move (v := xg) rfl) ?_
    refine WL_val (dd := some 10) rfl rfl rfl (r_lenS (v := xg) rfl (Below.slT hB hg) tb_el22) ?_
    refine WL_val (dd := some 11) rfl rfl rfl (r_gtr rfl rfl) ?_
    refine WL_val (dd := some 12) rfl rfl rfl (r_pick_f rfl (v := .bool _) rfl) ?_
    refine WL_val (dd := some 4) rfl rfl rfl (r_assign (v := .bool _) rfl) ?_
    refine WL_nil ?_
    refine hK4 _ _ ?_
    clear hK4 K3
    refine WC_ret ?_
    repeat (first | refine thenQ_ret ?_ | refine blockQ_ret ?_)
    refine ret_t (v := .bool _) rfl ?_
    refine ⟨hB, ?_⟩
    first | exact g8_1 hs1_3 | exact g8_2 hs1_3

theorem C_drawknifelaw08_list (N ba bm bz R : Nat) (ns : List Nd) (id : Nat) (F : List Int) (w : World) (hz : At w bz #[.pointer (some ⟨ba, 0, none⟩)] 100) (hD : Dia 147 150 N ba bm R w ns) (hI : Is ns id F) (hF : F.length ≤ 100000) :
    Fn Try.prog 25 #[.pointer (some ⟨bz, 0, none⟩), .int .i64 (id : Int), .int .i64 0] w fun v w' => SlT encI 1 w' v F ∧ TyS 3 w' v F := by
  refine Fn_intro (n := 22) Try.func25 rfl rfl (Nat.le_of_ble_eq_true rfl) ?_
  have hB : Below w.heap.size w w := Below.refl _ _
  have hwf := hD.wf
  have hroom := hD.room
  have htop := hD.top
  have hv := hI.v
  refine WC_seq (fun K1 hK2 => ?_)
  refine WC_region ?_
  refine WL_val (dd := some 6) rfl rfl rfl (r_assign (v := .slice none 0 0) rfl) ?_
  refine WL_nil ?_
  refine hK2 _ _ ?_
  clear hK2 K1
  refine WC_seq (fun K3 hK4 => ?_)
  refine WC_seq (fun K5 hK6 => ?_)
  refine WC_region ?_
  refine WL_val (dd := some 9) rfl rfl rfl (r_move (v := .int .i64 _) rfl) ?_
  refine WL_val (dd := some 10) rfl rfl rfl (r_neq rfl rfl) ?_
  refine WL_nil ?_
  refine hK6 _ _ ?_
  clear hK6 K5
  refine WC_cond (b := _) rfl (fun hc0 => ?_) (fun hc0 => ?_)
  ·
    try with_reducible replace hc0 := of_decide_eq_true hc0
    exact absurd rfl hc0
  ·
    try with_reducible replace hc0 := of_decide_eq_false hc0
    refine WC_skip ?_
    refine hK4 _ _ ?_
    clear hK4 K3
    refine WC_seq (fun K7 hK8 => ?_)
    refine WC_region ?_
    refine WL_val (dd := some 13) rfl rfl rfl (r_move (v := .pointer (some ⟨bz, 0, none⟩)) rfl) ?_
    refine WL_val (dd := some 14) rfl rfl rfl (r_move (v := .int .i64 _) rfl) ?_
    refine WL_call (dd := some 15) rfl rfl rfl (r_call2 tb_c37 (v0 := .pointer (some ⟨bz, 0, none⟩)) rfl (v1 := .int .i64 _) rfl) (C___zdd_Zdd__List N ba bm bz R ns (id : Int) _ (Below.atI hB hz) (Dia.below hB hD) (by omega)) (fun v3_2 W9 hE10 hP3_2 => ?_)
    have hsz11 := (Below.size hB)
    replace hB := below_ext hB hE10 (Nat.le_refl _)
    clear hE10
    obtain ⟨x3_2, rfl, hsl3_2, hty3_2⟩ := list_is hI hwf hF hP3_2
    clear hsz11
    refine WL_val (dd := some 12) rfl rfl rfl (r_move (v := .tuple #[x3_2, .int .i64 0]) rfl) ?_
    refine WL_val (dd := some 16) rfl rfl rfl (r_ext2_0 (h := rfl)) ?_
    refine WL_val (dd := some 17) rfl rfl rfl (r_ext2_1 (h := rfl)) ?_
    refine WL_val (dd := some 7) rfl rfl rfl (r_assign (v := x3_2) rfl) ?_
    refine WL_val (dd := some 8) rfl rfl rfl (r_assign (v := .int .i64 0) rfl) ?_
    refine WL_nil ?_
    refine hK8 _ _ ?_
    clear hK8 K7
    refine WC_seq (fun K12 hK13 => ?_)
    refine WC_seq (fun K14 hK15 => ?_)
    refine WC_region ?_
    refine WL_val (dd := some 18) rfl rfl rfl (r_move (v := .int .i64 0) rfl) ?_
    refine WL_val (dd := some 19) rfl rfl rfl (r_neq rfl rfl) ?_
    refine WL_nil ?_
    refine hK15 _ _ ?_
    clear hK15 K14
    refine WC_cond (b := _) rfl (fun hc1 => ?_) (fun hc1 => ?_)
    ·
      try with_reducible replace hc1 := of_decide_eq_true hc1
      exact absurd rfl hc1
    ·
      try with_reducible replace hc1 := of_decide_eq_false hc1
      refine WC_skip ?_
      refine hK13 _ _ ?_
      clear hK13 K12
      refine WC_seq (fun K16 hK17 => ?_)
      refine WC_region ?_
      refine WL_val (dd := some 21) rfl rfl rfl (r_move (v := x3_2) rfl) ?_
      refine WL_val (dd := some 6) rfl rfl rfl (r_assign (v := x3_2) rfl) ?_
      refine WL_nil ?_
      refine hK17 _ _ ?_
      clear hK17 K16
      refine WC_ret ?_
      repeat (first | refine thenQ_ret ?_ | refine blockQ_ret ?_)
      refine ret_t (v := x3_2) rfl ?_
      refine ⟨hB, ?_⟩
      exact ⟨hsl3_2, hty3_2⟩

set_option maxRecDepth 10000 in
theorem C_drawknifelaw08_start (xf : Value) (f : List Int) (xg : Value) (g : List Int) (w : World) (hf : SlT encI 1 w xf f) (hg : SlT encI 1 w xg g) (hfl : f.length ≤ 40) (hgl : g.length ≤ 40) :
    Fn Try.prog 20 #[xf, xg] w fun v w' => ∃ (bz ba bm a b : Nat) (ns : List Nd), v = .tuple #[.pointer (some ⟨bz, 0, none⟩), .int .i64 (a : Int), .int .i64 (b : Int), .bool (ofZB f && ofZB g), .bool true] ∧ At w' bz #[.pointer (some ⟨ba, 0, none⟩)] 100 ∧ Dia 147 150 w.heap.size ba bm 20000 w' ns ∧ ((ofZB f && ofZB g) = true → Is ns a (ofI f) ∧ Is ns b (ofI g) ∧ ns.length ≤ 24 * f.length + 24 * g.length) := by
  refine Fn_intro (n := 107) Try.func20 rfl rfl (Nat.le_of_ble_eq_true rfl) ?_
  have hB : Below w.heap.size w w := Below.refl _ _
  refine WC_seq (fun K1 hK2 => ?_)
  refine WC_region ?_
  refine WL_val (dd := some 4) rfl rfl rfl (r_assign (v := .pointer none) rfl) ?_
  refine WL_val (dd := some 5) rfl rfl rfl (r_assign (v := .int .i64 0) rfl) ?_
  refine WL_val (dd := some 6) rfl rfl rfl (r_assign (v := .int .i64 0) rfl) ?_
  refine WL_val (dd := some 7) rfl rfl rfl (r_assign (v := .bool false) rfl) ?_
  refine WL_val (dd := some 8) rfl rfl rfl (r_assign (v := .bool false) rfl) ?_
  refine WL_nil ?_
  refine hK2 _ _ ?_
  clear hK2 K1
  refine WC_seq (fun K3 hK4 => ?_)
  refine WC_region ?_
  refine WL_call (dd := some 20) rfl rfl rfl (r_call1 tb_c31 (v0 := .int .i64 20000) rfl) (C_zdd_New 20000 _ (by omega)) (fun v1_0 W5 hE6 hP1_0 => ?_)
  have hsz7 := (Below.size hB)
  replace hB := below_ext hB hE6 (Nat.le_refl _)
  clear hE6
  obtain ⟨bz, ba, bm, rfl, hz, hD⟩ := hP1_0
  replace hD := Dia.mono hD hsz7
  clear hsz7
  refine WL_val (dd := some 19) rfl rfl rfl (r_move (v := .tuple #[.pointer (some ⟨bz, 0, none⟩), .int .i64 0]) rfl) ?_
  refine WL_val (dd := some 21) rfl rfl rfl (r_ext2_0 (h := rfl)) ?_
  refine WL_val (dd := some 22) rfl rfl rfl (r_ext2_1 (h := rfl)) ?_
  refine WL_val (dd := some 9) rfl rfl rfl (r_assign (v := .pointer (some ⟨bz, 0, none⟩)) rfl) ?_
  refine WL_val (dd := some 10) rfl rfl rfl (r_assign (v := .int .i64 0) rfl) ?_
  refine WL_nil ?_
  refine hK4 _ _ ?_
  clear hK4 K3
  refine WC_seq (fun K8 hK9 => ?_)
  refine WC_seq (fun K10 hK11 => ?_)
  refine WC_region ?_
  refine WL_val (dd := some 23) rfl rfl rfl (r_move (v := .pointer (some ⟨bz, 0, none⟩)) rfl) ?_
  refine WL_val (dd := some 24) rfl rfl rfl (r_ptrNil rfl rfl Try.underlying24) ?_
  refine WL_val (dd := some 25) rfl rfl rfl (r_move (v := .bool false) rfl) ?_
  refine WL_val (dd := some 26) rfl rfl rfl (r_move (v := .int .i64 0) rfl) ?_
  refine WL_val (dd := some 27) rfl rfl rfl (r_neq rfl rfl) ?_
  refine WL_val (dd := some 28) rfl rfl rfl (r_pick_f rfl (v := .bool _) rfl) ?_
  refine WL_nil ?_
  refine hK11 _ _ ?_
  clear hK11 K10
  refine WC_cond (b := _) rfl (fun hc0 => ?_) (fun hc0 => ?_)
  ·
    try with_reducible replace hc0 := of_decide_eq_true hc0
    exact absurd rfl hc0
  ·
    try with_reducible replace hc0 := of_decide_eq_false hc0
    refine WC_skip ?_
    refine hK9 _ _ ?_
    clear hK9 K8
    refine WC_seq (fun K12 hK13 => ?_)
    refine WC_region ?_
    refine WL_val (dd := some 11) rfl rfl rfl (r_assign (v := .bool true) rfl) ?_
    refine WL_nil ?_
    refine hK13 _ _ ?_
    clear hK13 K12
    refine WC_seq (fun K14 hK15 => ?_)
    refine WC_seq (fun K16 hK17 => ?_)
    refine WC_region ?_
    refine WL_val (dd := some 12) rfl rfl rfl (r_assign (v := .int .i64 0) rfl) ?_
    refine WL_nil ?_
    refine hK17 _ _ ?_
    clear hK17 K16
    refine WC_block ?_
    refine WC_loop (σ := (Nat)) [11, 12, 29, 30, 31, 32, 33, 34, 35, 36, 37, 38, 39, 40, 41, 42] (fun k => [(12, .int .i64 (k : Int)), (11, .bool (mayTo f k))]) (fun k W => (Below w.heap.size w W) ∧ (Dia 147 150 w.heap.size ba bm 20000 W []) ∧ (At W bz _ 100) ∧ (k ≤ f.length) ∧ (True)) (fun k => f.length - k) (0) ⟨rfl, rfl, trivial⟩ ⟨hB, hD, hz, (Nat.zero_le _), trivial⟩ ?_
    clear hB hD hz
    rintro k g19 W18 ⟨hB, hD, hz, hk, _⟩ J20 hJ21
    refine WC_seq (fun K22 hK23 => ?_)
    refine WC_seq (fun K24 hK25 => ?_)
    refine WC_region ?_
    refine WL_val (dd := some 29) rfl rfl rfl (r_move (v := .int .i64 _) rfl) ?_
    refine WL_val (dd := some 30) rfl rfl rfl (r_move (v := xf) rfl) ?_
    refine WL_val (dd := some 31) rfl rfl rfl (r_lenS (v := xf) rfl (Below.slT hB hf) tb_el22) ?_
    refine WL_val (dd := some 32) rfl rfl rfl (r_lss rfl rfl) ?_
    refine WL_nil ?_
    refine hK25 _ _ ?_
    clear hK25 K24
    refine WC_cond (b := _) rfl (fun hc1 => ?_) (fun hc1 => ?_)
    ·
      try with_reducible replace hc1 := of_decide_eq_true hc1
      refine WC_skip ?_
      refine hK23 _ _ ?_
      clear hK23 K22
      refine WC_seq (fun K26 hK27 => ?_)
      refine WC_block ?_
      refine WC_region ?_
      refine WL_val (dd := some 35) rfl rfl rfl (r_move (v := .bool _) rfl) ?_
      refine WL_split (dd := some 36) rfl rfl rfl (r_move (v := .bool _) rfl) (fun hs8_1 => ?_) (fun hs8_1 => ?_)
      ·
        try with_reducible replace hs8_1 := of_decide_eq_true hs8_1
        refine WL_val (dd := some 37) rfl rfl rfl (r_move (v := xf) rfl) ?_
        refine WL_val (dd := some 38) rfl rfl rfl (r_move (v := .int .i64 _) rfl) ?_
        refine WL_val (dd := some 39) rfl rfl rfl (r_idxS (v := xf) rfl (Below.slT hB hf) rfl tb_el22 (by omega) (by omega)) ?_
        refine WL_val (dd := some 40) rfl rfl rfl (r_load1 (v := .int .i64 _) rfl tb_sc3 (SlT.cell (Below.slT hB hf) encI_len 0 (by omega) (by omega) 0 rfl)) ?_
        refine WL_call (dd := some 41) rfl rfl rfl (r_call1 tb_c30 (v0 := .int .i64 _) rfl) (C_drawkniferef08_May _ _) (fun v8_6 W28 hE29 hP8_6 => ?_)
        have hsz30 := (Below.size hB)
        replace hB := below_ext hB hE29 (Nat.le_refl _)
        replace hD := Dia.ext hE29 hD
        replace hz := hE29.at hz
        clear hE29
        clear hsz30
        obtain rfl := hP8_6
        refine WL_val (dd := some 42) rfl rfl rfl (r_pick_t rfl (v := .bool _) rfl) ?_
        refine WL_val (dd := some 11) rfl rfl rfl (r_assign (v := .bool _) rfl) ?_
        refine WL_nil ?_
        refine hK27 _ _ ?_
        clear hK27 K26
        refine WC_region ?_
        refine WL_val (dd := some 33) rfl rfl rfl (r_move (v := .int .i64 _) rfl) ?_
        refine WL_val (dd := some 34) rfl rfl rfl (r_addI rfl rfl (by omega) (by omega)) ?_
        refine WL_val (dd := some 12) rfl rfl rfl (r_assign (v := .int .i64 _) rfl) ?_
        refine WL_nil ?_
        refine hJ21 _ _ (k + 1) ?_ ?_ ?_ ?_
        · repeat (first | exact agree.mask _ _ _ | refine agree.updo ?_ rfl _ | refine agree.updL ?_ _ rfl | refine agree.maskS rfl ?_)
        · exact ⟨rfl, (by first | exact congrArg Value.bool (mayTo_t (by omega) hs8_1) | exact congrArg Value.bool (mayTo_f (by omega) hs8_1)), trivial⟩
        · exact ⟨hB, hD, hz, (by omega), trivial⟩
        · first | omega | (dsimp only; omega)
      ·
        try with_reducible replace hs8_1 := of_decide_eq_false hs8_1
        refine WL_skip (dd := some 37) rfl rfl rfl ?_
        refine WL_skip (dd := some 38) rfl rfl rfl ?_
        refine WL_skip (dd := some 39) rfl rfl rfl ?_
        refine WL_skip (dd := some 40) rfl rfl rfl ?_
        refine WL_skip (dd := some 41) rfl rfl rfl ?_
        refine WL_val (dd := some 42) rfl rfl rfl (r_pick_f rfl (v := .bool false) rfl) ?_
        refine WL_val (dd := some 11) rfl rfl rfl (r_assign (v := .bool false) rfl) ?_
        refine WL_nil ?_
        refine hK27 _ _ ?_
        clear hK27 K26
        refine WC_region ?_
        refine WL_val (dd := some 33) rfl rfl rfl (r_move (v := .int .i64 _) rfl) ?_
        refine WL_val (dd := some 34) rfl rfl rfl (r_addI rfl rfl (by omega) (by omega)) ?_
        refine WL_val (dd := some 12) rfl rfl rfl (r_assign (v := .int .i64 _) rfl) ?_
        refine WL_nil ?_
        refine hJ21 _ _ (k + 1) ?_ ?_ ?_ ?_
        · repeat (first | exact agree.mask _ _ _ | refine agree.updo ?_ rfl _ | refine agree.updL ?_ _ rfl | refine agree.maskS rfl ?_)
        · exact ⟨rfl, (by first | exact congrArg Value.bool (mayTo_t (by omega) hs8_1) | exact congrArg Value.bool (mayTo_f (by omega) hs8_1)), trivial⟩
        · exact ⟨hB, hD, hz, (by omega), trivial⟩
        · first | omega | (dsimp only; omega)
    ·
      try with_reducible replace hc1 := of_decide_eq_false hc1
      refine WC_exit ?_
      refine hK15 _ _ ?_
      clear hK23 K22
      clear hJ21 J20
      clear hK15 K14
      refine WC_seq (fun K31 hK32 => ?_)
      obtain rfl : k = f.length := by omega
      have hm0 := mayTo_e (l := f) (k := f.length) rfl
      refine WC_region ?_
      refine WL_val (dd := some 43) rfl rfl rfl (r_move (v := .bool _) rfl) ?_
      refine WL_val (dd := some 13) rfl rfl rfl (r_assign (v := .bool _) rfl) ?_
      refine WL_nil ?_
      refine hK32 _ _ ?_
      clear hK32 K31
      refine WC_seq (fun K33 hK34 => ?_)
      refine WC_seq (fun K35 hK36 => ?_)
      refine WC_region ?_
      refine WL_val (dd := some 14) rfl rfl rfl (r_assign (v := .int .i64 0) rfl) ?_
      refine WL_nil ?_
      refine hK36 _ _ ?_
      clear hK36 K35
      refine WC_block ?_
      refine WC_loop (σ := (Nat)) [13, 14, 44, 45, 46, 47, 48, 49, 50, 51, 52, 53, 54, 55, 56, 57] (fun k2 => [(14, .int .i64 (k2 : Int)), (13, .bool (mayTo f f.length && mayTo g k2))]) (fun k2 W => (Below w.heap.size w W) ∧ (Dia 147 150 w.heap.size ba bm 20000 W []) ∧ (At W bz _ 100) ∧ (k2 ≤ g.length) ∧ (True)) (fun k2 => g.length - k2) (0) ⟨rfl, congrArg Value.bool (Bool.and_true _).symm, trivial⟩ ⟨hB, hD, hz, (Nat.zero_le _), trivial⟩ ?_
      clear hB hD hz
      rintro k2 g38 W37 ⟨hB, hD, hz, hk2, _⟩ J39 hJ40
      refine WC_seq (fun K41 hK42 => ?_)
      refine WC_seq (fun K43 hK44 => ?_)
      refine WC_region ?_
      refine WL_val (dd := some 44) rfl rfl rfl (r_move (v := .int .i64 _) rfl) ?_
      refine WL_val (dd := some 45) rfl rfl rfl (r_move (v := xg) rfl) ?_
      refine WL_val (dd := some 46) rfl rfl rfl (r_lenS (v := xg) rfl (Below.slT hB hg) tb_el22) ?_
      refine WL_val (dd := some 47) rfl rfl rfl (r_lss rfl rfl) ?_
      refine WL_nil ?_
      refine hK44 _ _ ?_
      clear hK44 K43
      refine WC_cond (b := _) rfl (fun hc2 => ?_) (fun hc2 => ?_)
      ·
        try with_reducible replace hc2 := of_decide_eq_true hc2
        refine WC_skip ?_
        refine hK42 _ _ ?_
        clear hK42 K41
        refine WC_seq (fun K45 hK46 => ?_)
        refine WC_block ?_
        refine WC_region ?_
        refine WL_val (dd := some 50) rfl rfl rfl (r_move (v := .bool _) rfl) ?_
        refine WL_split (dd := some 51) rfl rfl rfl (r_move (v := .bool _) rfl) (fun hs13_1 => ?_) (fun hs13_1 => ?_)
        ·
          try with_reducible replace hs13_1 := of_decide_eq_true hs13_1
          refine WL_val (dd := some 52) rfl rfl rfl (r_move (v := xg) rfl) ?_
          refine WL_val (dd := some 53) rfl rfl rfl (r_move (v := .int .i64 _) rfl) ?_
          refine WL_val (dd := some 54) rfl rfl rfl (r_idxS (v := xg) rfl (Below.slT hB hg) rfl tb_el22 (by omega) (by omega)) ?_
          refine WL_val (dd := some 55) rfl rfl rfl (r_load1 (v := .int .i64 _) rfl tb_sc3 (SlT.cell (Below.slT hB hg) encI_len 0 (by omega) (by omega) 0 rfl)) ?_
          refine WL_call (dd := some 56) rfl rfl rfl (r_call1 tb_c30 (v0 := .int .i64 _) rfl) (C_drawkniferef08_May _ _) (fun v13_6 W47 hE48 hP13_6 => ?_)
          have hsz49 := (Below.size hB)
          replace hB := below_ext hB hE48 (Nat.le_refl _)
          replace hD := Dia.ext hE48 hD
          replace hz := hE48.at hz
          clear hE48
          clear hsz49
          obtain rfl := hP13_6
          refine WL_val (dd := some 57) rfl rfl rfl (r_pick_t rfl (v := .bool _) rfl) ?_
          refine WL_val (dd := some 13) rfl rfl rfl (r_assign (v := .bool _) rfl) ?_
          refine WL_nil ?_
          refine hK46 _ _ ?_
          clear hK46 K45
          refine WC_region ?_
          refine WL_val (dd := some 48) rfl rfl rfl (r_move (v := .int .i64 _) rfl) ?_
          refine WL_val (dd := some 49) rfl rfl rfl (r_addI rfl rfl (by omega) (by omega)) ?_
          refine WL_val (dd := some 14) rfl rfl rfl (r_assign (v := .int .i64 _) rfl) ?_
          refine WL_nil ?_
          refine hJ40 _ _ (k2 + 1) ?_ ?_ ?_ ?_
          · repeat (first | exact agree.mask _ _ _ | refine agree.updo ?_ rfl _ | refine agree.updL ?_ _ rfl | refine agree.maskS rfl ?_)
          · exact ⟨rfl, (by first | exact congrArg Value.bool (may2_t (by omega) hs13_1) | exact congrArg Value.bool (may2_f (by omega) hs13_1)), trivial⟩
          · exact ⟨hB, hD, hz, (by omega), trivial⟩
          · first | omega | (dsimp only; omega)
        ·
          try with_reducible replace hs13_1 := of_decide_eq_false hs13_1
          refine WL_skip (dd := some 52) rfl rfl rfl ?_
          refine WL_skip (dd := some 53) rfl rfl rfl ?_
          refine WL_skip (dd := some 54) rfl rfl rfl ?_
          refine WL_skip (dd := some 55) rfl rfl rfl ?_
          refine WL_skip (dd := some 56) rfl rfl rfl ?_
          refine WL_val (dd := some 57) rfl rfl rfl (r_pick_f rfl (v := .bool false) rfl) ?_
          refine WL_val (dd := some 13) rfl rfl rfl (r_assign (v := .bool false) rfl) ?_
          refine WL_nil ?_
          refine hK46 _ _ ?_
          clear hK46 K45
          refine WC_region ?_
          refine WL_val (dd := some 48) rfl rfl rfl (r_move (v := .int .i64 _) rfl) ?_
          refine WL_val (dd := some 49) rfl rfl rfl (r_addI rfl rfl (by omega) (by omega)) ?_
          refine WL_val (dd := some 14) rfl rfl rfl (r_assign (v := .int .i64 _) rfl) ?_
          refine WL_nil ?_
          refine hJ40 _ _ (k2 + 1) ?_ ?_ ?_ ?_
          · repeat (first | exact agree.mask _ _ _ | refine agree.updo ?_ rfl _ | refine agree.updL ?_ _ rfl | refine agree.maskS rfl ?_)
          · exact ⟨rfl, (by first | exact congrArg Value.bool (may2_t (by omega) hs13_1) | exact congrArg Value.bool (may2_f (by omega) hs13_1)), trivial⟩
          · exact ⟨hB, hD, hz, (by omega), trivial⟩
          · first | omega | (dsimp only; omega)
      ·
        try with_reducible replace hc2 := of_decide_eq_false hc2
        refine WC_exit ?_
        refine hK34 _ _ ?_
        clear hK42 K41
        clear hJ40 J39
        clear hK34 K33
        refine WC_seq (fun K50 hK51 => ?_)
        obtain rfl : k2 = g.length := by omega
        have hm1 := mayTo_e (l := g) (k := g.length) rfl
        refine WC_region ?_
        refine WL_val (dd := some 59) rfl rfl rfl (r_move (v := .pointer (some ⟨bz, 0, none⟩)) rfl) ?_
        refine WL_val (dd := some 60) rfl rfl rfl (r_move (v := xf) rfl) ?_
        refine WL_callG (dd := some 61) rfl rfl rfl (r_call2 tb_c32 (v0 := .pointer (some ⟨bz, 0, none⟩)) rfl (v1 := xf) rfl) (C___zdd_Zdd__Of _ _ _ _ _ _ _ _ _ (Below.size hB) hz hD (Below.slT hB hf) (by first | assumption | omega)) (fun v14_2 W52 hP14_2 => ?_)
        obtain ⟨ns14_2, id14_2, er14_2, rfl, hx14_2, hDn14_2, hg14_2⟩ := hP14_2
        replace hB := Below.dx hB (Nat.le_refl _) (Nat.le_refl _) hx14_2
        replace hz := At.dx hD hx14_2 hz (by decide) (by decide)
        replace hD := hDn14_2
        refine WL_val (dd := some 58) rfl rfl rfl (r_move (v := .tuple #[.int .i64 (id14_2 : Int), .int .i64 er14_2]) rfl) ?_
        refine WL_val (dd := some 62) rfl rfl rfl (r_ext2_0 (h := rfl)) ?_
        refine WL_val (dd := some 63) rfl rfl rfl (r_ext2_1 (h := rfl)) ?_
        refine WL_val (dd := some 15) rfl rfl rfl (r_assign (v := .int .i64 _) rfl) ?_
        refine WL_val (dd := some 16) rfl rfl rfl (r_assign (v := .int .i64 _) rfl) ?_
        refine WL_nil ?_
        refine hK51 _ _ ?_
        clear hK51 K50
        refine WC_seq (fun K54 hK55 => ?_)
        obtain ⟨hA1, hA2, hpA, hlA⟩ := pe_O hg14_2 (by simp only [List.length_nil]; omega)
        simp only [List.length_nil] at hlA
        refine WC_region ?_
        refine WL_val (dd := some 65) rfl rfl rfl (r_move (v := .pointer (some ⟨bz, 0, none⟩)) rfl) ?_
        refine WL_val (dd := some 66) rfl rfl rfl (r_move (v := xg) rfl) ?_
        refine WL_callG (dd := some 67) rfl rfl rfl (r_call2 tb_c32 (v0 := .pointer (some ⟨bz, 0, none⟩)) rfl (v1 := xg) rfl) (C___zdd_Zdd__Of _ _ _ _ _ _ _ _ _ (Below.size hB) hz hD (Below.slT hB hg) (by first | assumption | omega)) (fun v15_2 W56 hP15_2 => ?_)
        obtain ⟨ns15_2, id15_2, er15_2, rfl, hx15_2, hDn15_2, hg15_2⟩ := hP15_2
        replace hB := Below.dx hB (Nat.le_refl _) (Nat.le_refl _) hx15_2
        replace hz := At.dx hD hx15_2 hz (by decide) (by decide)
        replace hD := hDn15_2
        refine WL_val (dd := some 64) rfl rfl rfl (r_move (v := .tuple #[.int .i64 (id15_2 : Int), .int .i64 er15_2]) rfl) ?_
        refine WL_val (dd := some 68) rfl rfl rfl (r_ext2_0 (h := rfl)) ?_
        refine WL_val (dd := some 69) rfl rfl rfl (r_ext2_1 (h := rfl)) ?_
        refine WL_val (dd := some 17) rfl rfl rfl (r_assign (v := .int .i64 _) rfl) ?_
        refine WL_val (dd := some 18) rfl rfl rfl (r_assign (v := .int .i64 _) rfl) ?_
        refine WL_nil ?_
        refine hK55 _ _ ?_
        clear hK55 K54
        refine WC_seq (fun K58 hK59 => ?_)
        refine WC_seq (fun K60 hK61 => ?_)
        obtain ⟨hB1, hB2, hpB, hlB⟩ := pe_O hg15_2 (by omega)
        refine WC_region ?_
        refine WL_val (dd := some 70) rfl rfl rfl (r_move (v := .bool _) rfl) ?_
        refine WL_val (dd := some 71) rfl rfl rfl (r_not rfl) ?_
        refine WL_split (dd := some 72) rfl rfl rfl (r_move (v := .bool _) rfl) (fun hs16_2 => ?_) (fun hs16_2 => ?_)
        ·
          try with_reducible replace hs16_2 := of_decide_eq_true hs16_2
          refine WL_skip (dd := some 73) rfl rfl rfl ?_
          refine WL_skip (dd := some 74) rfl rfl rfl ?_
          refine WL_val (dd := some 75) rfl rfl rfl (r_pick_t rfl (v := .bool true) rfl) ?_
          refine WL_nil ?_
          refine hK61 _ _ ?_
          clear hK61 K60
          refine WC_cond_true rfl ?_
          refine WC_seq (fun K62 hK63 => ?_)
          refine WC_region ?_
          refine WL_val (dd := some 76) rfl rfl rfl (r_move (v := .pointer (some ⟨bz, 0, none⟩)) rfl) ?_
          refine WL_val (dd := some 77) rfl rfl rfl (r_move (v := .bool _) rfl) ?_
          refine WL_split (dd := some 78) rfl rfl rfl (r_move (v := .bool _) rfl) (fun hs17_2 => ?_) (fun hs17_2 => ?_)
          ·
            try with_reducible replace hs17_2 := of_decide_eq_true hs17_2
            exact absurd hs16_2 (by rw [hs17_2]; decide)
          ·
            try with_reducible replace hs17_2 := of_decide_eq_false hs17_2
            refine WL_val (dd := some 79) rfl rfl rfl (r_move (v := .int .i64 _) rfl) ?_
            refine WL_val (dd := some 80) rfl rfl rfl (r_eql rfl rfl) ?_
            refine WL_split (dd := some 81) rfl rfl rfl (r_move (v := .bool _) rfl) (fun hs17_5 => ?_) (fun hs17_5 => ?_)
            ·
              try with_reducible replace hs17_5 := of_decide_eq_true hs17_5
              refine WL_val (dd := some 82) rfl rfl rfl (r_move (v := .int .i64 _) rfl) ?_
              refine WL_val (dd := some 83) rfl rfl rfl (r_eql rfl rfl) ?_
              refine WL_val (dd := some 84) rfl rfl rfl (r_pick_t rfl (v := .bool _) rfl) ?_
              refine WL_val (dd := some 85) rfl rfl rfl (r_pick_f rfl (v := .bool _) rfl) ?_
              refine WL_split (dd := some 86) rfl rfl rfl (r_move (v := .bool _) rfl) (fun hs17_10 => ?_) (fun hs17_10 => ?_)
              ·
                try with_reducible replace hs17_10 := of_decide_eq_true hs17_10
                refine WL_val (dd := some 87) rfl rfl rfl (r_move (v := .int .i64 _) rfl) ?_
                refine WL_val (dd := some 88) rfl rfl rfl (r_neq rfl rfl) ?_
                refine WL_split (dd := some 89) rfl rfl rfl (r_move (v := .bool _) rfl) (fun hs17_13 => ?_) (fun hs17_13 => ?_)
                ·
                  try with_reducible replace hs17_13 := of_decide_eq_true hs17_13
                  refine WL_skip (dd := some 90) rfl rfl rfl ?_
                  refine WL_skip (dd := some 91) rfl rfl rfl ?_
                  refine WL_skip (dd := some 92) rfl rfl rfl ?_
                  refine WL_skip (dd := some 93) rfl rfl rfl ?_
                  refine WL_skip (dd := some 94) rfl rfl rfl ?_
                  refine WL_skip (dd := some 95) rfl rfl rfl ?_
                  refine WL_val (dd := some 96) rfl rfl rfl (r_pick_t rfl (v := .bool true) rfl) ?_
                  refine WL_val (dd := some 97) rfl rfl rfl (r_pick_t rfl (v := .bool true) rfl) ?_
                  refine WL_val (dd := some 4) rfl rfl rfl (r_assign (v := .pointer (some ⟨bz, 0, none⟩)) rfl) ?_
                  refine WL_val (dd := some 5) rfl rfl rfl (r_assign (v := .int .i64 0) rfl) ?_
                  refine WL_val (dd := some 6) rfl rfl rfl (r_assign (v := .int .i64 0) rfl) ?_
                  refine WL_val (dd := some 7) rfl rfl rfl (r_assign (v := .bool false) rfl) ?_
                  refine WL_val (dd := some 8) rfl rfl rfl (r_assign (v := .bool true) rfl) ?_
                  refine WL_nil ?_
                  refine hK63 _ _ ?_
                  clear hK63 K62
                  refine WC_ret ?_
                  repeat (first | refine thenQ_ret ?_ | refine blockQ_ret ?_)
                  try clear hK59 K58
                  refine ret_ttttt (v := .pointer (some ⟨bz, 0, none⟩)) rfl (v1 := .int .i64 0) rfl (v2 := .int .i64 0) rfl (v3 := .bool false) rfl (v4 := .bool true) rfl ?_
                  refine ⟨hB, ?_⟩
                  have hff : ofZB f = false := by rw [← hm0]; revert hs16_2; cases mayTo f f.length <;> simp
                  exact ⟨bz, ba, bm, 0, 0, _, by rw [hff]; rfl, hz, hD, fun k => by rw [hff] at k; cases k⟩
                ·
                  try with_reducible replace hs17_13 := of_decide_eq_false hs17_13
                  have hff : ofZB f = false := by rw [← hm0]; revert hs16_2; cases mayTo f f.length <;> simp
                  have hq := hA2 hff
                  omega
              ·
                try with_reducible replace hs17_10 := of_decide_eq_false hs17_10
                have hff : ofZB f = false := by rw [← hm0]; revert hs16_2; cases mayTo f f.length <;> simp
                have hq := hA2 hff
                omega
            ·
              try with_reducible replace hs17_5 := of_decide_eq_false hs17_5
              have hff : ofZB f = false := by rw [← hm0]; revert hs16_2; cases mayTo f f.length <;> simp
              have hq := hA2 hff
              omega
        ·
          try with_reducible replace hs16_2 := of_decide_eq_false hs16_2
          refine WL_val (dd := some 73) rfl rfl rfl (r_move (v := .bool _) rfl) ?_
          refine WL_val (dd := some 74) rfl rfl rfl (r_not rfl) ?_
          refine WL_val (dd := some 75) rfl rfl rfl (r_pick_f rfl (v := .bool _) rfl) ?_
          refine WL_nil ?_
          refine hK61 _ _ ?_
          clear hK61 K60
          refine WC_cond (b := _) rfl (fun hc3 => ?_) (fun hc3 => ?_)
          ·
            try with_reducible replace hc3 := of_decide_eq_true hc3
            refine WC_seq (fun K64 hK65 => ?_)
            refine WC_region ?_
            refine WL_val (dd := some 76) rfl rfl rfl (r_move (v := .pointer (some ⟨bz, 0, none⟩)) rfl) ?_
            refine WL_val (dd := some 77) rfl rfl rfl (r_move (v := .bool _) rfl) ?_
            refine WL_split (dd := some 78) rfl rfl rfl (r_move (v := .bool _) rfl) (fun hs17_2 => ?_) (fun hs17_2 => ?_)
            ·
              try with_reducible replace hs17_2 := of_decide_eq_true hs17_2
              refine WL_skip (dd := some 79) rfl rfl rfl ?_
              refine WL_skip (dd := some 80) rfl rfl rfl ?_
              refine WL_skip (dd := some 81) rfl rfl rfl ?_
              refine WL_skip (dd := some 82) rfl rfl rfl ?_
              refine WL_skip (dd := some 83) rfl rfl rfl ?_
              refine WL_skip (dd := some 84) rfl rfl rfl ?_
              refine WL_val (dd := some 85) rfl rfl rfl (r_pick_t rfl (v := .bool true) rfl) ?_
              refine WL_val (dd := some 86) rfl rfl rfl (r_move (v := .bool true) rfl) ?_
              refine WL_val (dd := some 87) rfl rfl rfl (r_move (v := .int .i64 _) rfl) ?_
              refine WL_val (dd := some 88) rfl rfl rfl (r_neq rfl rfl) ?_
              refine WL_split (dd := some 89) rfl rfl rfl (r_move (v := .bool _) rfl) (fun hs17_13 => ?_) (fun hs17_13 => ?_)
              ·
                try with_reducible replace hs17_13 := of_decide_eq_true hs17_13
                have hq := hA1 (by rw [← hm0]; revert hs16_2; cases mayTo f f.length <;> simp)
                omega
              ·
                try with_reducible replace hs17_13 := of_decide_eq_false hs17_13
                refine WL_val (dd := some 90) rfl rfl rfl (r_move (v := .int .i64 _) rfl) ?_
                refine WL_val (dd := some 91) rfl rfl rfl (r_eql rfl rfl) ?_
                refine WL_split (dd := some 92) rfl rfl rfl (r_move (v := .bool _) rfl) (fun hs17_16 => ?_) (fun hs17_16 => ?_)
                ·
                  try with_reducible replace hs17_16 := of_decide_eq_true hs17_16
                  refine WL_val (dd := some 93) rfl rfl rfl (r_move (v := .int .i64 _) rfl) ?_
                  refine WL_val (dd := some 94) rfl rfl rfl (r_eql rfl rfl) ?_
                  refine WL_val (dd := some 95) rfl rfl rfl (r_pick_t rfl (v := .bool _) rfl) ?_
                  refine WL_val (dd := some 96) rfl rfl rfl (r_pick_f rfl (v := .bool _) rfl) ?_
                  refine WL_val (dd := some 97) rfl rfl rfl (r_pick_t rfl (v := .bool _) rfl) ?_
                  refine WL_val (dd := some 4) rfl rfl rfl (r_assign (v := .pointer (some ⟨bz, 0, none⟩)) rfl) ?_
                  refine WL_val (dd := some 5) rfl rfl rfl (r_assign (v := .int .i64 0) rfl) ?_
                  refine WL_val (dd := some 6) rfl rfl rfl (r_assign (v := .int .i64 0) rfl) ?_
                  refine WL_val (dd := some 7) rfl rfl rfl (r_assign (v := .bool false) rfl) ?_
                  refine WL_val (dd := some 8) rfl rfl rfl (r_assign (v := .bool _) rfl) ?_
                  refine WL_nil ?_
                  refine hK65 _ _ ?_
                  clear hK65 K64
                  refine WC_ret ?_
                  repeat (first | refine thenQ_ret ?_ | refine blockQ_ret ?_)
                  try clear hK59 K58
                  refine ret_ttttt (v := .pointer (some ⟨bz, 0, none⟩)) rfl (v1 := .int .i64 0) rfl (v2 := .int .i64 0) rfl (v3 := .bool false) rfl (v4 := .bool _) rfl ?_
                  refine ⟨hB, ?_⟩
                  have hgf : ofZB g = false := (by have h1 : ofZB f = true := (by rw [← hm0]; revert hs16_2; cases mayTo f f.length <;> simp); have h2 := hc3; rw [hm0, h1, hm1] at h2; simpa using h2)
                  have hq := hB2 hgf
                  exact ⟨bz, ba, bm, 0, 0, _, by rw [hgf, Bool.and_false, hq.1]; rfl, hz, hD, fun k => by rw [hgf, Bool.and_false] at k; cases k⟩
                ·
                  try with_reducible replace hs17_16 := of_decide_eq_false hs17_16
                  have hq := hB2 (by have h1 : ofZB f = true := (by rw [← hm0]; revert hs16_2; cases mayTo f f.length <;> simp); have h2 := hc3; rw [hm0, h1, hm1] at h2; simpa using h2)
                  omega
            ·
              try with_reducible replace hs17_2 := of_decide_eq_false hs17_2
              exact absurd hs16_2 (by rw [hs17_2]; decide)
          ·
            try with_reducible replace hc3 := of_decide_eq_false hc3
            refine WC_skip ?_
            refine hK59 _ _ ?_
            clear hK59 K58
            refine WC_seq (fun K66 hK67 => ?_)
            refine WC_region ?_
            refine WL_val (dd := some 98) rfl rfl rfl (r_move (v := .pointer (some ⟨bz, 0, none⟩)) rfl) ?_
            refine WL_val (dd := some 99) rfl rfl rfl (r_move (v := .int .i64 _) rfl) ?_
            refine WL_val (dd := some 100) rfl rfl rfl (r_move (v := .int .i64 _) rfl) ?_
            refine WL_val (dd := some 101) rfl rfl rfl (r_move (v := .int .i64 _) rfl) ?_
            refine WL_val (dd := some 102) rfl rfl rfl (r_eql rfl rfl) ?_
            refine WL_split (dd := some 103) rfl rfl rfl (r_move (v := .bool _) rfl) (fun hs18_5 => ?_) (fun hs18_5 => ?_)
            ·
              try with_reducible replace hs18_5 := of_decide_eq_true hs18_5
              refine WL_val (dd := some 104) rfl rfl rfl (r_move (v := .int .i64 _) rfl) ?_
              refine WL_val (dd := some 105) rfl rfl rfl (r_eql rfl rfl) ?_
              refine WL_val (dd := some 106) rfl rfl rfl (r_pick_t rfl (v := .bool _) rfl) ?_
              refine WL_val (dd := some 4) rfl rfl rfl (r_assign (v := .pointer (some ⟨bz, 0, none⟩)) rfl) ?_
              refine WL_val (dd := some 5) rfl rfl rfl (r_assign (v := .int .i64 _) rfl) ?_
              refine WL_val (dd := some 6) rfl rfl rfl (r_assign (v := .int .i64 _) rfl) ?_
              refine WL_val (dd := some 7) rfl rfl rfl (r_assign (v := .bool true) rfl) ?_
              refine WL_val (dd := some 8) rfl rfl rfl (r_assign (v := .bool _) rfl) ?_
              refine WL_nil ?_
              refine hK67 _ _ ?_
              clear hK67 K66
              refine WC_ret ?_
              repeat (first | refine thenQ_ret ?_ | refine blockQ_ret ?_)
              refine ret_ttttt (v := .pointer (some ⟨bz, 0, none⟩)) rfl (v1 := .int .i64 _) rfl (v2 := .int .i64 _) rfl (v3 := .bool true) rfl (v4 := .bool _) rfl ?_
              refine ⟨hB, ?_⟩
              have hff : ofZB f = true := (by rw [← hm0]; revert hs16_2; cases mayTo f f.length <;> simp)
              have hgt : ofZB g = true := by have h2 := hc3; rw [hm0, hff, hm1] at h2; simpa using h2
              obtain ⟨q1, q2⟩ := hA1 hff
              obtain ⟨q3, q4⟩ := hB1 hgt
              exact ⟨bz, ba, bm, _, _, _, by rw [hff, hgt, q3]; rfl, hz, hD, fun _ => ⟨q2.pre hpB, q4, by omega⟩⟩
            ·
              try with_reducible replace hs18_5 := of_decide_eq_false hs18_5
              have hq := hA1 (by rw [← hm0]; revert hs16_2; cases mayTo f f.length <;> simp)
              omega

set_option maxRecDepth 10000 in
theorem C_drawknifelaw08_knows  (w : World) :
    Fn Try.prog 19 #[] w fun v w' => v = .bool true := by
  refine Fn_intro (n := 102) Try.func19 rfl rfl (Nat.le_of_ble_eq_true rfl) ?_
  have hB : Below w.heap.size w w := Below.refl _ _
  refine WC_seq (fun K1 hK2 => ?_)
  refine WC_region ?_
  refine WL_val (dd := some 0) rfl rfl rfl (r_assign (v := .bool false) rfl) ?_
  refine WL_nil ?_
  refine hK2 _ _ ?_
  clear hK2 K1
  refine WC_seq (fun K3 hK4 => ?_)
  refine WC_region ?_
  refine WL_call (dd := some 18) rfl rfl rfl (r_call1 tb_c31 (v0 := .int .i64 20000) rfl) (C_zdd_New 20000 _ (by omega)) (fun v1_0 W5 hE6 hP1_0 => ?_)
  have hsz7 := (Below.size hB)
  replace hB := below_ext hB hE6 (Nat.le_refl _)
  clear hE6
  obtain ⟨bz, ba, bm, rfl, hz, hD⟩ := hP1_0
  replace hD := Dia.mono hD hsz7
  clear hsz7
  refine WL_val (dd := some 17) rfl rfl rfl (r_move (v := .tuple #[.pointer (some ⟨bz, 0, none⟩), .int .i64 0]) rfl) ?_
  refine WL_val (dd := some 19) rfl rfl rfl (r_ext2_0 (h := rfl)) ?_
  refine WL_val (dd := some 20) rfl rfl rfl (r_ext2_1 (h := rfl)) ?_
  refine WL_val (dd := some 1) rfl rfl rfl (r_assign (v := .pointer (some ⟨bz, 0, none⟩)) rfl) ?_
  refine WL_val (dd := some 2) rfl rfl rfl (r_assign (v := .int .i64 0) rfl) ?_
  refine WL_nil ?_
  refine hK4 _ _ ?_
  clear hK4 K3
  refine WC_seq (fun K8 hK9 => ?_)
  refine WC_region ?_
  refine WL_val (dd := some 22) rfl rfl rfl (r_move (v := .pointer (some ⟨bz, 0, none⟩)) rfl) ?_
  refine WL_step (dd := some 23) rfl rfl rfl (Y_lit3 (u0 := .int .i64 5) (u1 := .int .i64 1) (u2 := .int .i64 4) rfl rfl rfl tb_el22 tb_zs3 rfl rfl rfl (fun b2_1 W10 hb11 hE12 hm2_1 => ?_))
  have lo_b2_1 : w.heap.size ≤ b2_1 := hb11 ▸ (Below.size hB)
  clear hb11
  replace hB := below_ext hB hE12 (Nat.le_refl _)
  replace hD := Dia.ext hE12 hD
  replace hz := hE12.at hz
  clear hE12
  have ho2_1 := own_lit3 (enc := encI) (sz := 1) hm2_1 rfl rfl rfl rfl lo_b2_1
  clear hm2_1
  have hw2_2 := hD.wf
  refine WL_callG (dd := some 24) rfl rfl rfl (r_call2 tb_c32 (v0 := .pointer (some ⟨bz, 0, none⟩)) rfl (v1 := .slice (some ⟨b2_1, 0, none⟩) 3 3) rfl) (C___zdd_Zdd__Of _ _ _ _ _ _ _ [5, 1, 4] _ (Below.size hB) hz hD ho2_1.sl (by decide)) (fun v2_2 W13 hP2_2 => ?_)
  obtain ⟨ns2_2, id2_2, er2_2, rfl, hx2_2, hDn2_2, hg2_2⟩ := hP2_2
  replace hB := Below.dx hB (Nat.le_refl _) (Nat.le_refl _) hx2_2
  replace hz := At.dx hD hx2_2 hz (by decide) (by decide)
  replace ho2_1 := OwT.dx hD hx2_2 ho2_1 (by decide) (by decide)
  replace hD := hDn2_2
  refine WL_val (dd := some 21) rfl rfl rfl (r_move (v := .tuple #[.int .i64 (id2_2 : Int), .int .i64 er2_2]) rfl) ?_
  refine WL_val (dd := some 25) rfl rfl rfl (r_ext2_0 (h := rfl)) ?_
  refine WL_val (dd := some 26) rfl rfl rfl (r_ext2_1 (h := rfl)) ?_
  refine WL_val (dd := some 3) rfl rfl rfl (r_assign (v := .int .i64 _) rfl) ?_
  refine WL_val (dd := some 4) rfl rfl rfl (r_assign (v := .int .i64 _) rfl) ?_
  refine WL_nil ?_
  refine hK9 _ _ ?_
  clear hK9 K8
  refine WC_seq (fun K15 hK16 => ?_)
  obtain ⟨he2_2, hI2, hp2_2, hl2_2⟩ := room_O (pe_ok hg2_2 (by decide)) (by decide) 3 (by decide) (by decide)
  subst he2_2
  have hn2 : ns2_2.length ≤ 72 := hl2_2
  refine WC_region ?_
  refine WL_val (dd := some 28) rfl rfl rfl (r_move (v := .pointer (some ⟨bz, 0, none⟩)) rfl) ?_
  refine WL_val (dd := some 29) rfl rfl rfl (r_move (v := .int .i64 _) rfl) ?_
  have hw3_2 := hD.wf
  refine WL_callG (dd := some 30) rfl rfl rfl (r_call2 tb_c26 (v0 := .pointer (some ⟨bz, 0, none⟩)) rfl (v1 := .int .i64 _) rfl) (C___zdd_Zdd__Least _ _ _ _ _ _ _ _ (Below.size hB) hz hD hI2.v) (fun v3_2 W17 hP3_2 => ?_)
  obtain ⟨ns3_2, id3_2, er3_2, rfl, hx3_2, hDn3_2, hg3_2⟩ := hP3_2
  replace hB := Below.dx hB (Nat.le_refl _) (Nat.le_refl _) hx3_2
  replace hz := At.dx hD hx3_2 hz (by decide) (by decide)
  replace ho2_1 := OwT.dx hD hx3_2 ho2_1 (by decide) (by decide)
  replace hD := hDn3_2
  refine WL_val (dd := some 27) rfl rfl rfl (r_move (v := .tuple #[.int .i64 (id3_2 : Int), .int .i64 er3_2]) rfl) ?_
  refine WL_val (dd := some 31) rfl rfl rfl (r_ext2_0 (h := rfl)) ?_
  refine WL_val (dd := some 32) rfl rfl rfl (r_ext2_1 (h := rfl)) ?_
  refine WL_val (dd := some 5) rfl rfl rfl (r_assign (v := .int .i64 _) rfl) ?_
  refine WL_val (dd := some 6) rfl rfl rfl (r_assign (v := .int .i64 _) rfl) ?_
  refine WL_nil ?_
  refine hK16 _ _ ?_
  clear hK16 K15
  refine WC_seq (fun K19 hK20 => ?_)
  obtain ⟨he3_2, hI3, hp3_2, hl3_2⟩ := room_S hg3_2 hw3_2 hI2 3 (by decide) (by omega)
  subst he3_2
  replace hI2 := hI2.pre hp3_2
  refine WC_region ?_
  refine WL_val (dd := some 34) rfl rfl rfl (r_move (v := .pointer (some ⟨bz, 0, none⟩)) rfl) ?_
  refine WL_val (dd := some 35) rfl rfl rfl (r_move (v := .int .i64 _) rfl) ?_
  have hw4_2 := hD.wf
  have hv4 := hI3.v
  have hro4 := hD.room
  have hto4 := hD.top
  refine WL_call (dd := some 36) rfl rfl rfl (r_call2 tb_c37 (v0 := .pointer (some ⟨bz, 0, none⟩)) rfl (v1 := .int .i64 _) rfl) (C___zdd_Zdd__List _ _ _ _ _ _ _ _ hz hD (by omega)) (fun v4_2 W21 hE22 hP4_2 => ?_)
  have hlt23 := OwT.lt2 ho2_1
  have hsz24 := (Below.size hB)
  replace hB := below_ext hB hE22 (Nat.le_refl _)
  replace hD := Dia.ext hE22 hD
  replace hz := hE22.at hz
  replace ho2_1 := hE22.ow ho2_1
  clear hE22
  obtain ⟨x4_2, rfl, hsl4_2, hty4_2⟩ := list_is hI3 hw4_2 (by decide +kernel) hP4_2
  clear hsz24
  refine WL_val (dd := some 33) rfl rfl rfl (r_move (v := .tuple #[x4_2, .int .i64 0]) rfl) ?_
  refine WL_val (dd := some 37) rfl rfl rfl (r_ext2_0 (h := rfl)) ?_
  refine WL_val (dd := some 38) rfl rfl rfl (r_ext2_1 (h := rfl)) ?_
  refine WL_val (dd := some 7) rfl rfl rfl (r_assign (v := x4_2) rfl) ?_
  refine WL_val (dd := some 8) rfl rfl rfl (r_assign (v := .int .i64 0) rfl) ?_
  refine WL_nil ?_
  refine hK20 _ _ ?_
  clear hK20 K19
  refine WC_seq (fun K25 hK26 => ?_)
  refine WC_region ?_
  refine WL_val (dd := some 40) rfl rfl rfl (r_move (v := .pointer (some ⟨bz, 0, none⟩)) rfl) ?_
  refine WL_step (dd := some 41) rfl rfl rfl (Y_lit1 (u := .int .i64 1) rfl tb_el22 tb_zs3 rfl (by decide) (by decide) (fun b5_1 W27 hb28 hE29 hm5_1 => ?_))
  have lo_b5_1 : w.heap.size ≤ b5_1 := hb28 ▸ (Below.size hB)
  have no30 := OwT.neB (b := b5_1) ho2_1 (Nat.le_of_eq hb28.symm)
  have far31 := SlT.far (b := b5_1) hsl4_2 (Nat.le_of_eq hb28.symm)
  clear hb28
  replace hB := below_ext hB hE29 (Nat.le_refl _)
  replace hD := Dia.ext hE29 hD
  replace hz := hE29.at hz
  replace ho2_1 := hE29.ow ho2_1
  replace hsl4_2 := hE29.slT hsl4_2
  replace hty4_2 := TyS.ext hE29 hty4_2
  clear hE29
  have ho32 := own_lit1 (enc := encI) (a := 1) hm5_1 rfl rfl lo_b5_1
  clear hm5_1
  have hw5_2 := hD.wf
  refine WL_callG (dd := some 42) rfl rfl rfl (r_call2 tb_c32 (v0 := .pointer (some ⟨bz, 0, none⟩)) rfl (v1 := .slice (some ⟨b5_1, 0, none⟩) 1 1) rfl) (C___zdd_Zdd__Of _ _ _ _ _ _ _ [1] _ (Below.size hB) hz hD ho32.sl (by decide)) (fun v5_2 W33 hP5_2 => ?_)
  obtain ⟨ns5_2, id5_2, er5_2, rfl, hx5_2, hDn5_2, hg5_2⟩ := hP5_2
  replace hB := Below.dx hB (Nat.le_refl _) (Nat.le_refl _) hx5_2
  replace hz := At.dx hD hx5_2 hz (by decide) (by decide)
  replace ho2_1 := OwT.dx hD hx5_2 ho2_1 (by decide) (by decide)
  replace hsl4_2 := SlT.dx hD hx5_2 hty4_2 hsl4_2 (by decide) (by decide)
  replace hty4_2 := TyS.dx hD hx5_2 hty4_2 (by decide) (by decide)
  replace ho32 := OwT.dx hD hx5_2 ho32 (by decide) (by decide)
  replace hD := hDn5_2
  refine WL_val (dd := some 39) rfl rfl rfl (r_move (v := .tuple #[.int .i64 (id5_2 : Int), .int .i64 er5_2]) rfl) ?_
  refine WL_val (dd := some 43) rfl rfl rfl (r_ext2_0 (h := rfl)) ?_
  refine WL_val (dd := some 44) rfl rfl rfl (r_ext2_1 (h := rfl)) ?_
  refine WL_val (dd := some 9) rfl rfl rfl (r_assign (v := .int .i64 _) rfl) ?_
  refine WL_val (dd := some 10) rfl rfl rfl (r_assign (v := .int .i64 _) rfl) ?_
  refine WL_nil ?_
  refine hK26 _ _ ?_
  clear hK26 K25
  refine WC_seq (fun K35 hK36 => ?_)
  obtain ⟨he5_2, hI5, hp5_2, hl5_2⟩ := room_O (pe_ok hg5_2 (by decide)) (by decide) 1 (by decide) (by omega)
  subst he5_2
  replace hI2 := hI2.pre hp5_2
  refine WC_region ?_
  refine WL_val (dd := some 46) rfl rfl rfl (r_move (v := .pointer (some ⟨bz, 0, none⟩)) rfl) ?_
  refine WL_step (dd := some 47) rfl rfl rfl (Y_lit1 (u := .int .i64 4) rfl tb_el22 tb_zs3 rfl (by decide) (by decide) (fun b6_1 W37 hb38 hE39 hm6_1 => ?_))
  have lo_b6_1 : w.heap.size ≤ b6_1 := hb38 ▸ (Below.size hB)
  have no40 := OwT.neB (b := b6_1) ho2_1 (Nat.le_of_eq hb38.symm)
  have far41 := SlT.far (b := b6_1) hsl4_2 (Nat.le_of_eq hb38.symm)
  have no42 := OwT.neB (b := b6_1) ho32 (Nat.le_of_eq hb38.symm)
  clear hb38
  replace hB := below_ext hB hE39 (Nat.le_refl _)
  replace hD := Dia.ext hE39 hD
  replace hz := hE39.at hz
  replace ho2_1 := hE39.ow ho2_1
  replace hsl4_2 := hE39.slT hsl4_2
  replace hty4_2 := TyS.ext hE39 hty4_2
  replace ho32 := hE39.ow ho32
  clear hE39
  have ho43 := own_lit1 (enc := encI) (a := 4) hm6_1 rfl rfl lo_b6_1
  clear hm6_1
  have hw6_2 := hD.wf
  refine WL_callG (dd := some 48) rfl rfl rfl (r_call2 tb_c32 (v0 := .pointer (some ⟨bz, 0, none⟩)) rfl (v1 := .slice (some ⟨b6_1, 0, none⟩) 1 1) rfl) (C___zdd_Zdd__Of _ _ _ _ _ _ _ [4] _ (Below.size hB) hz hD ho43.sl (by decide)) (fun v6_2 W44 hP6_2 => ?_)
  obtain ⟨ns6_2, id6_2, er6_2, rfl, hx6_2, hDn6_2, hg6_2⟩ := hP6_2
  replace hB := Below.dx hB (Nat.le_refl _) (Nat.le_refl _) hx6_2
  replace hz := At.dx hD hx6_2 hz (by decide) (by decide)
  replace ho2_1 := OwT.dx hD hx6_2 ho2_1 (by decide) (by decide)
  replace hsl4_2 := SlT.dx hD hx6_2 hty4_2 hsl4_2 (by decide) (by decide)
  replace hty4_2 := TyS.dx hD hx6_2 hty4_2 (by decide) (by decide)
  replace ho32 := OwT.dx hD hx6_2 ho32 (by decide) (by decide)
  replace ho43 := OwT.dx hD hx6_2 ho43 (by decide) (by decide)
  replace hD := hDn6_2
  refine WL_val (dd := some 45) rfl rfl rfl (r_move (v := .tuple #[.int .i64 (id6_2 : Int), .int .i64 er6_2]) rfl) ?_
  refine WL_val (dd := some 49) rfl rfl rfl (r_ext2_0 (h := rfl)) ?_
  refine WL_val (dd := some 50) rfl rfl rfl (r_ext2_1 (h := rfl)) ?_
  refine WL_val (dd := some 11) rfl rfl rfl (r_assign (v := .int .i64 _) rfl) ?_
  refine WL_val (dd := some 12) rfl rfl rfl (r_assign (v := .int .i64 _) rfl) ?_
  refine WL_nil ?_
  refine hK36 _ _ ?_
  clear hK36 K35
  refine WC_seq (fun K46 hK47 => ?_)
  obtain ⟨he6_2, hI6, hp6_2, hl6_2⟩ := room_O (pe_ok hg6_2 (by decide)) (by decide) 1 (by decide) (by omega)
  subst he6_2
  replace hI2 := hI2.pre hp6_2
  replace hI5 := hI5.pre hp6_2
  refine WC_region ?_
  refine WL_val (dd := some 52) rfl rfl rfl (r_move (v := .pointer (some ⟨bz, 0, none⟩)) rfl) ?_
  refine WL_val (dd := some 53) rfl rfl rfl (r_move (v := .int .i64 _) rfl) ?_
  refine WL_val (dd := some 54) rfl rfl rfl (r_move (v := .int .i64 _) rfl) ?_
  have hw7_3 := hD.wf
  refine WL_callG (dd := some 55) rfl rfl rfl (r_call3 tb_c23 (v0 := .pointer (some ⟨bz, 0, none⟩)) rfl (v1 := .int .i64 _) rfl (v2 := .int .i64 _) rfl) (C___zdd_Zdd__Join _ _ _ _ _ _ _ _ _ (Below.size hB) hz hD hI5.v hI6.v) (fun v7_3 W48 hP7_3 => ?_)
  obtain ⟨ns7_3, id7_3, er7_3, rfl, hx7_3, hDn7_3, hg7_3⟩ := hP7_3
  replace hB := Below.dx hB (Nat.le_refl _) (Nat.le_refl _) hx7_3
  replace hz := At.dx hD hx7_3 hz (by decide) (by decide)
  replace ho2_1 := OwT.dx hD hx7_3 ho2_1 (by decide) (by decide)
  replace hsl4_2 := SlT.dx hD hx7_3 hty4_2 hsl4_2 (by decide) (by decide)
  replace hty4_2 := TyS.dx hD hx7_3 hty4_2 (by decide) (by decide)
  replace ho32 := OwT.dx hD hx7_3 ho32 (by decide) (by decide)
  replace ho43 := OwT.dx hD hx7_3 ho43 (by decide) (by decide)
  replace hD := hDn7_3
  refine WL_val (dd := some 51) rfl rfl rfl (r_move (v := .tuple #[.int .i64 (id7_3 : Int), .int .i64 er7_3]) rfl) ?_
  refine WL_val (dd := some 56) rfl rfl rfl (r_ext2_0 (h := rfl)) ?_
  refine WL_val (dd := some 57) rfl rfl rfl (r_ext2_1 (h := rfl)) ?_
  refine WL_val (dd := some 13) rfl rfl rfl (r_assign (v := .int .i64 _) rfl) ?_
  refine WL_val (dd := some 14) rfl rfl rfl (r_assign (v := .int .i64 _) rfl) ?_
  refine WL_nil ?_
  refine hK47 _ _ ?_
  clear hK47 K46
  refine WC_seq (fun K50 hK51 => ?_)
  obtain ⟨he7_3, hI7, hp7_3, hl7_3⟩ := room_J hg7_3 hw7_3 hI5 hI6 1 1 (by decide) (by decide) (by omega)
  subst he7_3
  replace hI2 := hI2.pre hp7_3
  refine WC_region ?_
  refine WL_val (dd := some 59) rfl rfl rfl (r_move (v := .pointer (some ⟨bz, 0, none⟩)) rfl) ?_
  refine WL_val (dd := some 60) rfl rfl rfl (r_move (v := .int .i64 _) rfl) ?_
  have hw8_2 := hD.wf
  have hv8 := hI7.v
  have hro8 := hD.room
  have hto8 := hD.top
  refine WL_call (dd := some 61) rfl rfl rfl (r_call2 tb_c37 (v0 := .pointer (some ⟨bz, 0, none⟩)) rfl (v1 := .int .i64 _) rfl) (C___zdd_Zdd__List _ _ _ _ _ _ _ _ hz hD (by omega)) (fun v8_2 W52 hE53 hP8_2 => ?_)
  have hlt54 := OwT.lt2 ho2_1
  have hlt55 := OwT.lt2 ho32
  have hlt56 := OwT.lt2 ho43
  have hsz57 := (Below.size hB)
  replace hB := below_ext hB hE53 (Nat.le_refl _)
  replace hD := Dia.ext hE53 hD
  replace hz := hE53.at hz
  replace ho2_1 := hE53.ow ho2_1
  replace hsl4_2 := hE53.slT hsl4_2
  replace hty4_2 := TyS.ext hE53 hty4_2
  replace ho32 := hE53.ow ho32
  replace ho43 := hE53.ow ho43
  clear hE53
  obtain ⟨x8_2, rfl, hsl8_2, hty8_2⟩ := list_is hI7 hw8_2 (by decide +kernel) hP8_2
  clear hsz57
  refine WL_val (dd := some 58) rfl rfl rfl (r_move (v := .tuple #[x8_2, .int .i64 0]) rfl) ?_
  refine WL_val (dd := some 62) rfl rfl rfl (r_ext2_0 (h := rfl)) ?_
  refine WL_val (dd := some 63) rfl rfl rfl (r_ext2_1 (h := rfl)) ?_
  refine WL_val (dd := some 15) rfl rfl rfl (r_assign (v := x8_2) rfl) ?_
  refine WL_val (dd := some 16) rfl rfl rfl (r_assign (v := .int .i64 0) rfl) ?_
  refine WL_nil ?_
  refine hK51 _ _ ?_
  clear hK51 K50
  refine WC_seq (fun K58 hK59 => ?_)
  have hw9 := hD.wf
  have hv9 := hI2.v
  have hro9 := hD.room
  have hto9 := hD.top
  refine WC_region ?_
  refine WL_val (dd := some 64) rfl rfl rfl (r_move (v := .int .i64 0) rfl) ?_
  refine WL_val (dd := some 65) rfl rfl rfl (r_eql rfl rfl) ?_
  refine WL_split (dd := some 66) rfl rfl rfl (r_move (v := .bool _) rfl) (fun hs9_2 => ?_) (fun hs9_2 => ?_)
  ·
    try with_reducible replace hs9_2 := of_decide_eq_true hs9_2
    refine WL_val (dd := some 67) rfl rfl rfl (r_move (v := .int .i64 _) rfl) ?_
    refine WL_val (dd := some 68) rfl rfl rfl (r_eql rfl rfl) ?_
    refine WL_val (dd := some 69) rfl rfl rfl (r_pick_t rfl (v := .bool _) rfl) ?_
    refine WL_split (dd := some 70) rfl rfl rfl (r_move (v := .bool _) rfl) (fun hs9_6 => ?_) (fun hs9_6 => ?_)
    ·
      try with_reducible replace hs9_6 := of_decide_eq_true hs9_6
      refine WL_val (dd := some 71) rfl rfl rfl (r_move (v := .int .i64 _) rfl) ?_
      refine WL_val (dd := some 72) rfl rfl rfl (r_eql rfl rfl) ?_
      refine WL_val (dd := some 73) rfl rfl rfl (r_pick_t rfl (v := .bool _) rfl) ?_
      refine WL_split (dd := some 74) rfl rfl rfl (r_move (v := .bool _) rfl) (fun hs9_10 => ?_) (fun hs9_10 => ?_)
      ·
        try with_reducible replace hs9_10 := of_decide_eq_true hs9_10
        refine WL_val (dd := some 75) rfl rfl rfl (r_move (v := .int .i64 0) rfl) ?_
        refine WL_val (dd := some 76) rfl rfl rfl (r_eql rfl rfl) ?_
        refine WL_val (dd := some 77) rfl rfl rfl (r_pick_t rfl (v := .bool _) rfl) ?_
        refine WL_split (dd := some 78) rfl rfl rfl (r_move (v := .bool _) rfl) (fun hs9_14 => ?_) (fun hs9_14 => ?_)
        ·
          try with_reducible replace hs9_14 := of_decide_eq_true hs9_14
          refine WL_val (dd := some 79) rfl rfl rfl (r_move (v := .int .i64 _) rfl) ?_
          refine WL_val (dd := some 80) rfl rfl rfl (r_eql rfl rfl) ?_
          refine WL_val (dd := some 81) rfl rfl rfl (r_pick_t rfl (v := .bool _) rfl) ?_
          refine WL_split (dd := some 82) rfl rfl rfl (r_move (v := .bool _) rfl) (fun hs9_18 => ?_) (fun hs9_18 => ?_)
          ·
            try with_reducible replace hs9_18 := of_decide_eq_true hs9_18
            refine WL_val (dd := some 83) rfl rfl rfl (r_move (v := .int .i64 0) rfl) ?_
            refine WL_val (dd := some 84) rfl rfl rfl (r_eql rfl rfl) ?_
            refine WL_val (dd := some 85) rfl rfl rfl (r_pick_t rfl (v := .bool _) rfl) ?_
            refine WL_split (dd := some 86) rfl rfl rfl (r_move (v := .bool _) rfl) (fun hs9_22 => ?_) (fun hs9_22 => ?_)
            ·
              try with_reducible replace hs9_22 := of_decide_eq_true hs9_22
              refine WL_val (dd := some 87) rfl rfl rfl (r_move (v := x4_2) rfl) ?_
              refine WL_step (dd := some 88) rfl rfl rfl (Y_lit2 (u0 := .int .i64 1) (u1 := .int .i64 4) rfl rfl tb_el22 tb_zs3 rfl rfl (by decide) (by decide) (fun b9_24 W60 hb61 hE62 hm9_24 => ?_))
              have lo_b9_24 : w.heap.size ≤ b9_24 := hb61 ▸ (Below.size hB)
              have olt_ho2_1 := OwT.lt2 ho2_1
              have olt_ho32 := OwT.lt2 ho32
              have olt_ho43 := OwT.lt2 ho43
              have hap63 : Apart (.slice (some ⟨b2_1, 0, none⟩) 3 3) (.slice (some ⟨b9_24, 0, none⟩) 2 2) := fun j h1 h2 => by cases h2; exact absurd (olt_ho2_1 _ h1) (by rw [hb61]; exact Nat.lt_irrefl _)
              have hap64 : Apart (.slice (some ⟨b5_1, 0, none⟩) 1 1) (.slice (some ⟨b9_24, 0, none⟩) 2 2) := fun j h1 h2 => by cases h2; exact absurd (olt_ho32 _ h1) (by rw [hb61]; exact Nat.lt_irrefl _)
              have hap65 : Apart (.slice (some ⟨b6_1, 0, none⟩) 1 1) (.slice (some ⟨b9_24, 0, none⟩) 2 2) := fun j h1 h2 => by cases h2; exact absurd (olt_ho43 _ h1) (by rw [hb61]; exact Nat.lt_irrefl _)
              clear hb61
              replace hB := below_ext hB hE62 (Nat.le_refl _)
              replace hD := Dia.ext hE62 hD
              replace hz := hE62.at hz
              replace ho2_1 := hE62.ow ho2_1
              replace hsl4_2 := hE62.slT hsl4_2
              replace hty4_2 := TyS.ext hE62 hty4_2
              replace ho32 := hE62.ow ho32
              replace ho43 := hE62.ow ho43
              replace hsl8_2 := hE62.slT hsl8_2
              replace hty8_2 := TyS.ext hE62 hty8_2
              clear hE62
              have ho9_24 := own_lit2 (enc := encI) (sz := 1) (a0 := 1) (a1 := 4) hm9_24 rfl rfl rfl rfl lo_b9_24
              clear hm9_24
              refine WL_call (dd := some 89) rfl rfl rfl (r_call2 tb_c24 (v0 := x4_2) rfl (v1 := .slice (some ⟨b9_24, 0, none⟩) 2 2) rfl) (C_drawkniferef08_Same _ _ _ [1, 4] _ hsl4_2 ho9_24.sl (by decide +kernel) (by decide)) (fun v9_25 W66 hE67 hP9_25 => ?_)
              have hsz68 := (Below.size hB)
              replace hB := below_ext hB hE67 (Nat.le_refl _)
              replace hD := Dia.ext hE67 hD
              replace hz := hE67.at hz
              replace ho2_1 := hE67.ow ho2_1
              replace hsl4_2 := hE67.slT hsl4_2
              replace hty4_2 := TyS.ext hE67 hty4_2
              replace ho32 := hE67.ow ho32
              replace ho43 := hE67.ow ho43
              replace hsl8_2 := hE67.slT hsl8_2
              replace hty8_2 := TyS.ext hE67 hty8_2
              replace ho9_24 := hE67.ow ho9_24
              clear hE67
              clear hsz68
              obtain rfl := hP9_25
              refine WL_val (dd := some 90) rfl rfl rfl (r_pick_t rfl (v := .bool _) rfl) ?_
              refine WL_split (dd := some 91) rfl rfl rfl (r_move (v := .bool _) rfl) (fun hs9_27 => ?_) (fun hs9_27 => ?_)
              ·
                try with_reducible replace hs9_27 := of_decide_eq_true hs9_27
                refine WL_val (dd := some 92) rfl rfl rfl (r_move (v := x8_2) rfl) ?_
                refine WL_step (dd := some 93) rfl rfl rfl (Y_lit1 (u := .int .i64 5) rfl tb_el22 tb_zs3 rfl (by decide) (by decide) (fun b9_29 W69 hb70 hE71 hm9_29 => ?_))
                have lo_b9_29 : w.heap.size ≤ b9_29 := hb70 ▸ (Below.size hB)
                have no72 := OwT.neB (b := b9_29) ho2_1 (Nat.le_of_eq hb70.symm)
                have far73 := SlT.far (b := b9_29) hsl4_2 (Nat.le_of_eq hb70.symm)
                have no74 := OwT.neB (b := b9_29) ho32 (Nat.le_of_eq hb70.symm)
                have no75 := OwT.neB (b := b9_29) ho43 (Nat.le_of_eq hb70.symm)
                have far76 := SlT.far (b := b9_29) hsl8_2 (Nat.le_of_eq hb70.symm)
                have no77 := OwT.neB (b := b9_29) ho9_24 (Nat.le_of_eq hb70.symm)
                clear hb70
                replace hB := below_ext hB hE71 (Nat.le_refl _)
                replace hD := Dia.ext hE71 hD
                replace hz := hE71.at hz
                replace ho2_1 := hE71.ow ho2_1
                replace hsl4_2 := hE71.slT hsl4_2
                replace hty4_2 := TyS.ext hE71 hty4_2
                replace ho32 := hE71.ow ho32
                replace ho43 := hE71.ow ho43
                replace hsl8_2 := hE71.slT hsl8_2
                replace hty8_2 := TyS.ext hE71 hty8_2
                replace ho9_24 := hE71.ow ho9_24
                clear hE71
                have ho78 := own_lit1 (enc := encI) (a := 5) hm9_29 rfl rfl lo_b9_29
                clear hm9_29
                refine WL_call (dd := some 94) rfl rfl rfl (r_call2 tb_c24 (v0 := x8_2) rfl (v1 := .slice (some ⟨b9_29, 0, none⟩) 1 1) rfl) (C_drawkniferef08_Same _ _ _ [5] _ hsl8_2 ho78.sl (by decide +kernel) (by decide)) (fun v9_30 W79 hE80 hP9_30 => ?_)
                have hsz81 := (Below.size hB)
                replace hB := below_ext hB hE80 (Nat.le_refl _)
                replace hD := Dia.ext hE80 hD
                replace hz := hE80.at hz
                replace ho2_1 := hE80.ow ho2_1
                replace hsl4_2 := hE80.slT hsl4_2
                replace hty4_2 := TyS.ext hE80 hty4_2
                replace ho32 := hE80.ow ho32
                replace ho43 := hE80.ow ho43
                replace hsl8_2 := hE80.slT hsl8_2
                replace hty8_2 := TyS.ext hE80 hty8_2
                replace ho9_24 := hE80.ow ho9_24
                replace ho78 := hE80.ow ho78
                clear hE80
                clear hsz81
                obtain rfl := hP9_30
                refine WL_val (dd := some 95) rfl rfl rfl (r_pick_t rfl (v := .bool _) rfl) ?_
                refine WL_split (dd := some 96) rfl rfl rfl (r_move (v := .bool _) rfl) (fun hs9_32 => ?_) (fun hs9_32 => ?_)
                ·
                  try with_reducible replace hs9_32 := of_decide_eq_true hs9_32
                  refine WL_val (dd := some 97) rfl rfl rfl (r_move (v := .pointer (some ⟨bz, 0, none⟩)) rfl) ?_
                  refine WL_val (dd := some 98) rfl rfl rfl (r_move (v := .int .i64 _) rfl) ?_
                  refine WL_call (dd := some 99) rfl rfl rfl (r_call2 tb_c39 (v0 := .pointer (some ⟨bz, 0, none⟩)) rfl (v1 := .int .i64 _) rfl) (CountAll (id2_2 + 1) _ _ _ _ _ _ _ _ hz hD (by omega) (by omega)) (fun v9_35 W82 hE83 hP9_35 => ?_)
                  have hsz84 := (Below.size hB)
                  replace hB := below_ext hB hE83 (Nat.le_refl _)
                  replace hD := Dia.ext hE83 hD
                  replace hz := hE83.at hz
                  replace ho2_1 := hE83.ow ho2_1
                  replace hsl4_2 := hE83.slT hsl4_2
                  replace hty4_2 := TyS.ext hE83 hty4_2
                  replace ho32 := hE83.ow ho32
                  replace ho43 := hE83.ow ho43
                  replace hsl8_2 := hE83.slT hsl8_2
                  replace hty8_2 := TyS.ext hE83 hty8_2
                  replace ho9_24 := hE83.ow ho9_24
                  replace ho78 := hE83.ow ho78
                  clear hE83
                  clear hsz84
                  obtain rfl := hP9_35
                  refine WL_val (dd := some 100) rfl rfl rfl (r_eql rfl rfl) ?_
                  refine WL_val (dd := some 101) rfl rfl rfl (r_pick_t rfl (v := .bool _) rfl) ?_
                  refine WL_val (dd := some 0) rfl rfl rfl (r_assign (v := .bool _) rfl) ?_
                  refine WL_nil ?_
                  refine hK59 _ _ ?_
                  clear hK59 K58
                  refine WC_ret ?_
                  repeat (first | refine thenQ_ret ?_ | refine blockQ_ret ?_)
                  refine ret_t (v := .bool _) rfl ?_
                  refine ⟨hB, ?_⟩
                  exact congrArg Value.bool (decide_eq_true (hI2.cnt hw9))
                ·
                  try with_reducible replace hs9_32 := of_decide_eq_false hs9_32
                  exact absurd (by decide +kernel) hs9_32
              ·
                try with_reducible replace hs9_27 := of_decide_eq_false hs9_27
                exact absurd (by decide +kernel) hs9_27
            ·
              try with_reducible replace hs9_22 := of_decide_eq_false hs9_22
              exact absurd rfl hs9_22
          ·
            try with_reducible replace hs9_18 := of_decide_eq_false hs9_18
            exact absurd rfl hs9_18
        ·
          try with_reducible replace hs9_14 := of_decide_eq_false hs9_14
          exact absurd rfl hs9_14
      ·
        try with_reducible replace hs9_10 := of_decide_eq_false hs9_10
        exact absurd rfl hs9_10
    ·
      try with_reducible replace hs9_6 := of_decide_eq_false hs9_6
      exact absurd rfl hs9_6
  ·
    try with_reducible replace hs9_2 := of_decide_eq_false hs9_2
    exact absurd rfl hs9_2

set_option maxRecDepth 10000 in
theorem C_drawknifelaw08_ZddDoes (xf : Value) (f : List Int) (xg : Value) (g : List Int) (w : World) (hf : SlT encI 1 w xf f) (hg : SlT encI 1 w xg g) :
    Fn Try.prog 6 #[xf, xg] w fun v w' => v = .bool true := by
  refine Fn_intro (n := 100) Try.func6 rfl rfl (Nat.le_of_ble_eq_true rfl) ?_
  have hB : Below w.heap.size w w := Below.refl _ _
  refine WC_seq (fun K1 hK2 => ?_)
  refine WC_region ?_
  refine WL_val (dd := some 4) rfl rfl rfl (r_assign (v := .bool false) rfl) ?_
  refine WL_nil ?_
  refine hK2 _ _ ?_
  clear hK2 K1
  refine WC_seq (fun K3 hK4 => ?_)
  refine WC_seq (fun K5 hK6 => ?_)
  refine WC_region ?_
  refine WL_val (dd := some 18) rfl rfl rfl (r_move (v := xf) rfl) ?_
  refine WL_val (dd := some 19) rfl rfl rfl (r_move (v := xg) rfl) ?_
  refine WL_call (dd := some 20) rfl rfl rfl (r_call2 tb_c29 (v0 := xf) rfl (v1 := xg) rfl) (C_drawknifelaw08_great _ _ _ _ _ (Below.slT hB hf) (Below.slT hB hg)) (fun v1_2 W7 hE8 hP1_2 => ?_)
  have hsz9 := (Below.size hB)
  replace hB := below_ext hB hE8 (Nat.le_refl _)
  clear hE8
  clear hsz9
  obtain rfl := hP1_2
  refine WL_nil ?_
  refine hK6 _ _ ?_
  clear hK6 K5
  refine WC_cond (b := _) rfl (fun hc0 => ?_) (fun hc0 => ?_)
  ·
    try with_reducible replace hc0 := of_decide_eq_true hc0
    refine WC_seq (fun K10 hK11 => ?_)
    refine WC_region ?_
    refine WL_call (dd := some 21) rfl rfl rfl (r_call0 tb_c19) (C_drawknifelaw08_knows _) (fun v2_0 W12 hE13 hP2_0 => ?_)
    have hsz14 := (Below.size hB)
    replace hB := below_ext hB hE13 (Nat.le_refl _)
    clear hE13
    clear hsz14
    obtain rfl := hP2_0
    refine WL_val (dd := some 4) rfl rfl rfl (r_assign (v := .bool _) rfl) ?_
    refine WL_nil ?_
    refine hK11 _ _ ?_
    clear hK11 K10
    refine WC_ret ?_
    repeat (first | refine thenQ_ret ?_ | refine blockQ_ret ?_)
    try clear hK4 K3
    refine ret_t (v := .bool _) rfl ?_
    refine ⟨hB, ?_⟩
    rfl
  ·
    try with_reducible replace hc0 := of_decide_eq_false hc0
    refine WC_skip ?_
    refine hK4 _ _ ?_
    clear hK4 K3
    refine WC_seq (fun K15 hK16 => ?_)
    obtain ⟨hfl, hgl⟩ := g8_no hc0
    refine WC_region ?_
    refine WL_val (dd := some 23) rfl rfl rfl (r_move (v := xf) rfl) ?_
    refine WL_val (dd := some 24) rfl rfl rfl (r_move (v := xg) rfl) ?_
    refine WL_call (dd := some 25) rfl rfl rfl (r_call2 tb_c20 (v0 := xf) rfl (v1 := xg) rfl) (C_drawknifelaw08_start _ _ _ _ _ (Below.slT hB hf) (Below.slT hB hg) (by first | assumption | omega) (by first | assumption | omega)) (fun v3_2 W17 hE18 hP3_2 => ?_)
    have hsz19 := (Below.size hB)
    replace hB := below_ext hB hE18 (Nat.le_refl _)
    clear hE18
    obtain ⟨bz, ba, bm, a, b, ns3_2, rfl, hz, hD, hst⟩ := hP3_2
    replace hD := Dia.mono hD hsz19
    clear hsz19
    refine WL_val (dd := some 22) rfl rfl rfl (r_move (v := .tuple #[.pointer (some ⟨bz, 0, none⟩), .int .i64 (a : Int), .int .i64 (b : Int), .bool _, .bool true]) rfl) ?_
    refine WL_val (dd := some 26) rfl rfl rfl (r_ext5_0 (h := rfl)) ?_
    refine WL_val (dd := some 27) rfl rfl rfl (r_ext5_1 (h := rfl)) ?_
    refine WL_val (dd := some 28) rfl rfl rfl (r_ext5_2 (h := rfl)) ?_
    refine WL_val (dd := some 29) rfl rfl rfl (r_ext5_3 (h := rfl)) ?_
    refine WL_val (dd := some 30) rfl rfl rfl (r_ext5_4 (h := rfl)) ?_
    refine WL_val (dd := some 5) rfl rfl rfl (r_assign (v := .pointer (some ⟨bz, 0, none⟩)) rfl) ?_
    refine WL_val (dd := some 6) rfl rfl rfl (r_assign (v := .int .i64 _) rfl) ?_
    refine WL_val (dd := some 7) rfl rfl rfl (r_assign (v := .int .i64 _) rfl) ?_
    refine WL_val (dd := some 8) rfl rfl rfl (r_assign (v := .bool _) rfl) ?_
    refine WL_val (dd := some 9) rfl rfl rfl (r_assign (v := .bool true) rfl) ?_
    refine WL_nil ?_
    refine hK16 _ _ ?_
    clear hK16 K15
    refine WC_seq (fun K20 hK21 => ?_)
    refine WC_seq (fun K22 hK23 => ?_)
    refine WC_region ?_
    refine WL_val (dd := some 31) rfl rfl rfl (r_move (v := .bool _) rfl) ?_
    refine WL_val (dd := some 32) rfl rfl rfl (r_not rfl) ?_
    refine WL_split (dd := some 33) rfl rfl rfl (r_move (v := .bool _) rfl) (fun hs4_2 => ?_) (fun hs4_2 => ?_)
    ·
      try with_reducible replace hs4_2 := of_decide_eq_true hs4_2
      refine WL_skip (dd := some 34) rfl rfl rfl ?_
      refine WL_skip (dd := some 35) rfl rfl rfl ?_
      refine WL_val (dd := some 36) rfl rfl rfl (r_pick_t rfl (v := .bool true) rfl) ?_
      refine WL_nil ?_
      refine hK23 _ _ ?_
      clear hK23 K22
      refine WC_cond_true rfl ?_
      refine WC_seq (fun K24 hK25 => ?_)
      refine WC_region ?_
      refine WL_val (dd := some 37) rfl rfl rfl (r_move (v := .bool true) rfl) ?_
      refine WL_val (dd := some 38) rfl rfl rfl (r_move (v := .bool true) rfl) ?_
      refine WL_call (dd := some 39) rfl rfl rfl (r_call0 tb_c19) (C_drawknifelaw08_knows _) (fun v5_2 W26 hE27 hP5_2 => ?_)
      have hsz28 := (Below.size hB)
      replace hB := below_ext hB hE27 (Nat.le_refl _)
      replace hD := Dia.ext hE27 hD
      replace hz := hE27.at hz
      clear hE27
      clear hsz28
      obtain rfl := hP5_2
      refine WL_val (dd := some 40) rfl rfl rfl (r_pick_t rfl (v := .bool _) rfl) ?_
      refine WL_val (dd := some 4) rfl rfl rfl (r_assign (v := .bool _) rfl) ?_
      refine WL_nil ?_
      refine hK25 _ _ ?_
      clear hK25 K24
      refine WC_ret ?_
      repeat (first | refine thenQ_ret ?_ | refine blockQ_ret ?_)
      try clear hK21 K20
      refine ret_t (v := .bool _) rfl ?_
      refine ⟨hB, ?_⟩
      rfl
    ·
      try with_reducible replace hs4_2 := of_decide_eq_false hs4_2
      refine WL_val (dd := some 34) rfl rfl rfl (r_move (v := .bool true) rfl) ?_
      refine WL_val (dd := some 35) rfl rfl rfl (r_not rfl) ?_
      refine WL_val (dd := some 36) rfl rfl rfl (r_pick_f rfl (v := .bool _) rfl) ?_
      refine WL_nil ?_
      refine hK23 _ _ ?_
      clear hK23 K22
      refine WC_cond (b := _) rfl (fun hc1 => ?_) (fun hc1 => ?_)
      ·
        try with_reducible replace hc1 := of_decide_eq_true hc1
        refine WC_seq (fun K29 hK30 => ?_)
        refine WC_region ?_
        refine WL_val (dd := some 37) rfl rfl rfl (r_move (v := .bool true) rfl) ?_
        refine WL_val (dd := some 38) rfl rfl rfl (r_move (v := .bool true) rfl) ?_
        refine WL_call (dd := some 39) rfl rfl rfl (r_call0 tb_c19) (C_drawknifelaw08_knows _) (fun v5_2 W31 hE32 hP5_2 => ?_)
        have hsz33 := (Below.size hB)
        replace hB := below_ext hB hE32 (Nat.le_refl _)
        replace hD := Dia.ext hE32 hD
        replace hz := hE32.at hz
        clear hE32
        clear hsz33
        obtain rfl := hP5_2
        refine WL_val (dd := some 40) rfl rfl rfl (r_pick_t rfl (v := .bool _) rfl) ?_
        refine WL_val (dd := some 4) rfl rfl rfl (r_assign (v := .bool _) rfl) ?_
        refine WL_nil ?_
        refine hK30 _ _ ?_
        clear hK30 K29
        refine WC_ret ?_
        repeat (first | refine thenQ_ret ?_ | refine blockQ_ret ?_)
        try clear hK21 K20
        refine ret_t (v := .bool _) rfl ?_
        refine ⟨hB, ?_⟩
        rfl
      ·
        try with_reducible replace hc1 := of_decide_eq_false hc1
        refine WC_skip ?_
        refine hK21 _ _ ?_
        clear hK21 K20
        refine WC_seq (fun K34 hK35 => ?_)
        have hok : (ofZB f && ofZB g) = true := by simpa using hs4_2
        obtain ⟨hIa, hIb, hnl⟩ := hst hok
        have hof : ofZB f = true := (Bool.and_eq_true_iff.1 hok).1
        have hog : ofZB g = true := (Bool.and_eq_true_iff.1 hok).2
        have hxl := ofI_len f
        have hyl := ofI_len g
        refine WC_region ?_
        refine WL_val (dd := some 41) rfl rfl rfl (r_move (v := xf) rfl) ?_
        refine WL_call (dd := some 42) rfl rfl rfl (r_call1 tb_c27 (v0 := xf) rfl) (C_drawkniferef08_Of _ _ _ (Below.slT hB hf) (by first | assumption | omega)) (fun v6_1 W36 hE37 hP6_1 => ?_)
        have hsz38 := (Below.size hB)
        replace hB := below_ext hB hE37 (Nat.le_refl _)
        replace hD := Dia.ext hE37 hD
        replace hz := hE37.at hz
        clear hE37
        replace hP6_1 := OwT.mono hP6_1 hsz38
        clear hsz38
        refine WL_val (dd := some 43) rfl rfl rfl (r_move (v := xg) rfl) ?_
        refine WL_call (dd := some 44) rfl rfl rfl (r_call1 tb_c27 (v0 := xg) rfl) (C_drawkniferef08_Of _ _ _ (Below.slT hB hg) (by first | assumption | omega)) (fun v6_3 W39 hE40 hP6_3 => ?_)
        have hlt41 := OwT.lt2 hP6_1
        have hsz42 := (Below.size hB)
        replace hB := below_ext hB hE40 (Nat.le_refl _)
        replace hD := Dia.ext hE40 hD
        replace hz := hE40.at hz
        replace hP6_1 := hE40.ow hP6_1
        clear hE40
        have hap43 := Apart.new hlt41 hP6_3
        replace hP6_3 := OwT.mono hP6_3 hsz42
        clear hsz42
        refine WL_val (dd := some 10) rfl rfl rfl (r_assign (v := v6_1) rfl) ?_
        refine WL_val (dd := some 11) rfl rfl rfl (r_assign (v := v6_3) rfl) ?_
        refine WL_nil ?_
        refine hK35 _ _ ?_
        clear hK35 K34
        refine WC_seq (fun K44 hK45 => ?_)
        refine WC_region ?_
        refine WL_val (dd := some 46) rfl rfl rfl (r_move (v := .pointer (some ⟨bz, 0, none⟩)) rfl) ?_
        refine WL_val (dd := some 47) rfl rfl rfl (r_move (v := .int .i64 _) rfl) ?_
        refine WL_val (dd := some 48) rfl rfl rfl (r_move (v := .int .i64 _) rfl) ?_
        have hw7_3 := hD.wf
        refine WL_callG (dd := some 49) rfl rfl rfl (r_call3 tb_c33 (v0 := .pointer (some ⟨bz, 0, none⟩)) rfl (v1 := .int .i64 _) rfl (v2 := .int .i64 _) rfl) (C___zdd_Zdd__Union _ _ _ _ _ _ a b _ (Below.size hB) hz hD hIa.v hIb.v) (fun v7_3 W46 hP7_3 => ?_)
        obtain ⟨ns7_3, id7_3, er7_3, rfl, hx7_3, hDn7_3, hg7_3⟩ := hP7_3
        replace hB := Below.dx hB (Nat.le_refl _) (Nat.le_refl _) hx7_3
        replace hz := At.dx hD hx7_3 hz (by decide) (by decide)
        replace hP6_1 := OwT.dx hD hx7_3 hP6_1 (by decide) (by decide)
        replace hP6_3 := OwT.dx hD hx7_3 hP6_3 (by decide) (by decide)
        replace hD := hDn7_3
        refine WL_val (dd := some 45) rfl rfl rfl (r_move (v := .tuple #[.int .i64 (id7_3 : Int), .int .i64 er7_3]) rfl) ?_
        refine WL_val (dd := some 50) rfl rfl rfl (r_ext2_0 (h := rfl)) ?_
        refine WL_val (dd := some 51) rfl rfl rfl (r_ext2_1 (h := rfl)) ?_
        refine WL_val (dd := some 12) rfl rfl rfl (r_assign (v := .int .i64 _) rfl) ?_
        refine WL_val (dd := some 13) rfl rfl rfl (r_assign (v := .int .i64 _) rfl) ?_
        refine WL_nil ?_
        refine hK45 _ _ ?_
        clear hK45 K44
        refine WC_seq (fun K48 hK49 => ?_)
        obtain ⟨he7_3, hIu, hp7_3, hl7_3⟩ := room_U hg7_3 hw7_3 hIa hIb 40 (by omega) (by omega)
        subst he7_3
        replace hIa := hIa.pre hp7_3
        replace hIb := hIb.pre hp7_3
        refine WC_region ?_
        refine WL_val (dd := some 53) rfl rfl rfl (r_move (v := .pointer (some ⟨bz, 0, none⟩)) rfl) ?_
        refine WL_val (dd := some 54) rfl rfl rfl (r_move (v := .int .i64 _) rfl) ?_
        refine WL_val (dd := some 55) rfl rfl rfl (r_move (v := .int .i64 _) rfl) ?_
        have hw8_3 := hD.wf
        refine WL_callG (dd := some 56) rfl rfl rfl (r_call3 tb_c34 (v0 := .pointer (some ⟨bz, 0, none⟩)) rfl (v1 := .int .i64 _) rfl (v2 := .int .i64 _) rfl) (C___zdd_Zdd__Meet _ _ _ _ _ _ a b _ (Below.size hB) hz hD hIa.v hIb.v) (fun v8_3 W50 hP8_3 => ?_)
        obtain ⟨ns8_3, id8_3, er8_3, rfl, hx8_3, hDn8_3, hg8_3⟩ := hP8_3
        replace hB := Below.dx hB (Nat.le_refl _) (Nat.le_refl _) hx8_3
        replace hz := At.dx hD hx8_3 hz (by decide) (by decide)
        replace hP6_1 := OwT.dx hD hx8_3 hP6_1 (by decide) (by decide)
        replace hP6_3 := OwT.dx hD hx8_3 hP6_3 (by decide) (by decide)
        replace hD := hDn8_3
        refine WL_val (dd := some 52) rfl rfl rfl (r_move (v := .tuple #[.int .i64 (id8_3 : Int), .int .i64 er8_3]) rfl) ?_
        refine WL_val (dd := some 57) rfl rfl rfl (r_ext2_0 (h := rfl)) ?_
        refine WL_val (dd := some 58) rfl rfl rfl (r_ext2_1 (h := rfl)) ?_
        refine WL_val (dd := some 14) rfl rfl rfl (r_assign (v := .int .i64 _) rfl) ?_
        refine WL_val (dd := some 15) rfl rfl rfl (r_assign (v := .int .i64 _) rfl) ?_
        refine WL_nil ?_
        refine hK49 _ _ ?_
        clear hK49 K48
        refine WC_seq (fun K52 hK53 => ?_)
        obtain ⟨he8_3, hIm, hp8_3, hl8_3⟩ := room_M hg8_3 hw8_3 hIa hIb 40 (by omega) (by omega)
        subst he8_3
        replace hIa := hIa.pre hp8_3
        replace hIb := hIb.pre hp8_3
        replace hIu := hIu.pre hp8_3
        refine WC_region ?_
        refine WL_val (dd := some 60) rfl rfl rfl (r_move (v := .pointer (some ⟨bz, 0, none⟩)) rfl) ?_
        refine WL_val (dd := some 61) rfl rfl rfl (r_move (v := .int .i64 _) rfl) ?_
        refine WL_val (dd := some 62) rfl rfl rfl (r_move (v := .int .i64 _) rfl) ?_
        have hw9_3 := hD.wf
        refine WL_callG (dd := some 63) rfl rfl rfl (r_call3 tb_c35 (v0 := .pointer (some ⟨bz, 0, none⟩)) rfl (v1 := .int .i64 _) rfl (v2 := .int .i64 _) rfl) (C___zdd_Zdd__Less _ _ _ _ _ _ a b _ (Below.size hB) hz hD hIa.v hIb.v) (fun v9_3 W54 hP9_3 => ?_)
        obtain ⟨ns9_3, id9_3, er9_3, rfl, hx9_3, hDn9_3, hg9_3⟩ := hP9_3
        replace hB := Below.dx hB (Nat.le_refl _) (Nat.le_refl _) hx9_3
        replace hz := At.dx hD hx9_3 hz (by decide) (by decide)
        replace hP6_1 := OwT.dx hD hx9_3 hP6_1 (by decide) (by decide)
        replace hP6_3 := OwT.dx hD hx9_3 hP6_3 (by decide) (by decide)
        replace hD := hDn9_3
        refine WL_val (dd := some 59) rfl rfl rfl (r_move (v := .tuple #[.int .i64 (id9_3 : Int), .int .i64 er9_3]) rfl) ?_
        refine WL_val (dd := some 64) rfl rfl rfl (r_ext2_0 (h := rfl)) ?_
        refine WL_val (dd := some 65) rfl rfl rfl (r_ext2_1 (h := rfl)) ?_
        refine WL_val (dd := some 16) rfl rfl rfl (r_assign (v := .int .i64 _) rfl) ?_
        refine WL_val (dd := some 17) rfl rfl rfl (r_assign (v := .int .i64 _) rfl) ?_
        refine WL_nil ?_
        refine hK53 _ _ ?_
        clear hK53 K52
        refine WC_seq (fun K56 hK57 => ?_)
        obtain ⟨he9_3, hIl, hp9_3, hl9_3⟩ := room_L hg9_3 hw9_3 hIa hIb 40 (by omega) (by omega)
        subst he9_3
        replace hIu := hIu.pre hp9_3
        replace hIm := hIm.pre hp9_3
        have hl1 := ofI_len (ofI f ++ ofI g)
        have hl2 := ofI_len (f ++ g)
        simp only [List.length_append] at hl1 hl2
        have hl3 := pickI_len (ofI f) (ofI g) true
        have hl4 := pickI_len (ofI f) (ofI g) false
        have hl5 : (f ++ g).length ≤ 1000000 := by rw [List.length_append]; omega
        refine WC_region ?_
        refine WL_val (dd := some 66) rfl rfl rfl (r_move (v := .pointer (some ⟨bz, 0, none⟩)) rfl) ?_
        refine WL_val (dd := some 67) rfl rfl rfl (r_move (v := .int .i64 _) rfl) ?_
        refine WL_val (dd := some 68) rfl rfl rfl (r_move (v := .int .i64 _) rfl) ?_
        refine WL_call (dd := some 69) rfl rfl rfl (r_call3 tb_c25 (v0 := .pointer (some ⟨bz, 0, none⟩)) rfl (v1 := .int .i64 _) rfl (v2 := .int .i64 _) rfl) (C_drawknifelaw08_list _ _ _ _ _ _ _ (ofI (ofI f ++ ofI g)) _ hz hD hIu (by omega)) (fun v10_3 W58 hE59 hP10_3 => ?_)
        have hlt60 := OwT.lt2 hP6_1
        have hlt61 := OwT.lt2 hP6_3
        have hsz62 := (Below.size hB)
        replace hB := below_ext hB hE59 (Nat.le_refl _)
        replace hD := Dia.ext hE59 hD
        replace hz := hE59.at hz
        replace hP6_1 := hE59.ow hP6_1
        replace hP6_3 := hE59.ow hP6_3
        clear hE59
        obtain ⟨hP10_3, hty10_3⟩ := hP10_3
        clear hsz62
        have hz64 := Below.slT hB hf
        have hz65 := Below.slT hB hg
        have hBo63 := hB
        replace hB := Below.refl W58.heap.size W58
        refine WL_step (dd := some 70) rfl rfl rfl (Y_lit0 tb_el22 (fun b10_4 W66 hb67 hE68 hm10_4 => ?_))
        have lo_b10_4 : W58.heap.size ≤ b10_4 := hb67 ▸ (Below.size hB)
        clear hb67
        replace hB := below_ext hB hE68 (Nat.le_refl _)
        clear hE68
        have ho10_4 := own_lit0 (enc := encI) (sz := 1) hm10_4 lo_b10_4
        clear hm10_4
        refine WL_val (dd := some 71) rfl rfl rfl (r_move (v := xf) rfl) ?_
        refine WL_step (dd := some 72) rfl rfl rfl (Y_append (v := .slice (some ⟨b10_4, 0, none⟩) 0 0) (v2 := xf) rfl rfl tb_el22 tb_zs3 (by decide) ho10_4 (Below.slT hB hz64) (enc_one_encI) (by have := Below.size hB; omega) (by first | omega | (simp; omega)) (by first | omega | (simp; omega)) (fun v10_6 W69 hG70 ho10_6 => ?_))
        replace ho10_6 := OwT.app (enc := encI) rfl rfl rfl rfl ho10_6
        replace hB := below_grown hB hG70 (Nat.le_refl _) (fun j hj => (OwT.lt ho10_4 j hj))
        clear hG70
        clear ho10_4
        rw [List.nil_append] at ho10_6
        refine WL_val (dd := some 73) rfl rfl rfl (r_move (v := xg) rfl) ?_
        refine WL_step (dd := some 74) rfl rfl rfl (Y_append (v := v10_6) (v2 := xg) rfl rfl tb_el22 tb_zs3 (by decide) ho10_6 (Below.slT hB hz65) (enc_one_encI) (by have := Below.size hB; omega) (by first | omega | (simp; omega)) (by first | omega | (simp; omega)) (fun v10_8 W72 hG73 ho10_8 => ?_))
        replace ho10_8 := OwT.app (enc := encI) rfl rfl rfl rfl ho10_8
        replace hB := below_grown hB hG73 (Nat.le_refl _) (fun j hj => (OwT.lt ho10_6 j hj))
        clear hG73
        clear ho10_6
        refine WL_call (dd := some 75) rfl rfl rfl (r_call1 tb_c27 (v0 := v10_8) rfl) (C_drawkniferef08_Of _ _ _ ho10_8.sl (by first | assumption | omega)) (fun v10_9 W75 hE76 hP10_9 => ?_)
        have hlt77 := OwT.lt2 ho10_8
        have hsz78 := (Below.size hB)
        replace hB := below_ext hB hE76 (Nat.le_refl _)
        replace ho10_8 := hE76.ow ho10_8
        clear hE76
        have hap79 := Apart.new hlt77 hP10_9
        replace hP10_9 := OwT.mono hP10_9 hsz78
        clear hsz78
        refine WL_call (dd := some 76) rfl rfl rfl (r_call2 tb_c24 (v0 := v10_3) rfl (v1 := v10_9) rfl) (C_drawkniferef08_Same _ _ _ _ _ (Below.slT hB hP10_3) hP10_9.sl (by first | assumption | omega) (by first | assumption | omega)) (fun v10_10 W80 hE81 hP10_10 => ?_)
        have hsz82 := (Below.size hB)
        replace hB := below_ext hB hE81 (Nat.le_refl _)
        replace ho10_8 := hE81.ow ho10_8
        replace hP10_9 := hE81.ow hP10_9
        clear hE81
        clear hsz82
        obtain rfl := hP10_10
        refine WL_split (dd := some 77) rfl rfl rfl (r_move (v := .bool _) rfl) (fun hs10_11 => ?_) (fun hs10_11 => ?_)
        ·
          try with_reducible replace hs10_11 := of_decide_eq_true hs10_11
          refine WL_val (dd := some 78) rfl rfl rfl (r_move (v := .pointer (some ⟨bz, 0, none⟩)) rfl) ?_
          refine WL_val (dd := some 79) rfl rfl rfl (r_move (v := .int .i64 _) rfl) ?_
          refine WL_val (dd := some 80) rfl rfl rfl (r_move (v := .int .i64 _) rfl) ?_
          refine WL_call (dd := some 81) rfl rfl rfl (r_call3 tb_c25 (v0 := .pointer (some ⟨bz, 0, none⟩)) rfl (v1 := .int .i64 _) rfl (v2 := .int .i64 _) rfl) (C_drawknifelaw08_list _ _ _ _ _ _ _ (pickI (ofI f) (ofI g) true) _ (Below.atI hB hz) (Dia.below hB hD) hIm (by omega)) (fun v10_15 W83 hE84 hP10_15 => ?_)
          have hlt85 := OwT.lt2 ho10_8
          have hlt86 := OwT.lt2 hP10_9
          have hsz87 := (Below.size hB)
          replace hB := below_ext hB hE84 (Nat.le_refl _)
          replace ho10_8 := hE84.ow ho10_8
          replace hP10_9 := hE84.ow hP10_9
          clear hE84
          obtain ⟨hP10_15, hty10_15⟩ := hP10_15
          clear hsz87
          refine WL_val (dd := some 82) rfl rfl rfl (r_move (v := v6_1) rfl) ?_
          refine WL_val (dd := some 83) rfl rfl rfl (r_move (v := v6_3) rfl) ?_
          refine WL_call (dd := some 84) rfl rfl rfl (r_call3 tb_c36 (v0 := v6_1) rfl (v1 := v6_3) rfl (v2 := .bool true) rfl) (C_drawkniferef08_Pick _ _ _ _ _ _ ((Below.ow hB hP6_1)).sl ((Below.ow hB hP6_3)).sl (by first | assumption | omega) (by first | assumption | omega)) (fun v10_18 W88 hE89 hP10_18 => ?_)
          have hlt90 := OwT.lt2 ho10_8
          have hlt91 := OwT.lt2 hP10_9
          have hsz92 := (Below.size hB)
          replace hB := below_ext hB hE89 (Nat.le_refl _)
          replace ho10_8 := hE89.ow ho10_8
          replace hP10_9 := hE89.ow hP10_9
          replace hP10_15 := hE89.slT hP10_15
          replace hty10_15 := TyS.ext hE89 hty10_15
          clear hE89
          have hap93 := Apart.new hlt90 hP10_18
          have hap94 := Apart.new hlt91 hP10_18
          replace hP10_18 := OwT.mono hP10_18 hsz92
          clear hsz92
          refine WL_call (dd := some 85) rfl rfl rfl (r_call2 tb_c24 (v0 := v10_15) rfl (v1 := v10_18) rfl) (C_drawkniferef08_Same _ _ _ _ _ hP10_15 hP10_18.sl (by first | assumption | omega) (by first | assumption | omega)) (fun v10_19 W95 hE96 hP10_19 => ?_)
          have hsz97 := (Below.size hB)
          replace hB := below_ext hB hE96 (Nat.le_refl _)
          replace ho10_8 := hE96.ow ho10_8
          replace hP10_9 := hE96.ow hP10_9
          replace hP10_15 := hE96.slT hP10_15
          replace hty10_15 := TyS.ext hE96 hty10_15
          replace hP10_18 := hE96.ow hP10_18
          clear hE96
          clear hsz97
          obtain rfl := hP10_19
          refine WL_val (dd := some 86) rfl rfl rfl (r_pick_t rfl (v := .bool _) rfl) ?_
          refine WL_split (dd := some 87) rfl rfl rfl (r_move (v := .bool _) rfl) (fun hs10_21 => ?_) (fun hs10_21 => ?_)
          ·
            try with_reducible replace hs10_21 := of_decide_eq_true hs10_21
            refine WL_val (dd := some 88) rfl rfl rfl (r_move (v := .pointer (some ⟨bz, 0, none⟩)) rfl) ?_
            refine WL_val (dd := some 89) rfl rfl rfl (r_move (v := .int .i64 _) rfl) ?_
            refine WL_val (dd := some 90) rfl rfl rfl (r_move (v := .int .i64 _) rfl) ?_
            refine WL_call (dd := some 91) rfl rfl rfl (r_call3 tb_c25 (v0 := .pointer (some ⟨bz, 0, none⟩)) rfl (v1 := .int .i64 _) rfl (v2 := .int .i64 _) rfl) (C_drawknifelaw08_list _ _ _ _ _ _ _ (pickI (ofI f) (ofI g) false) _ (Below.atI hB hz) (Dia.below hB hD) hIl (by omega)) (fun v10_25 W98 hE99 hP10_25 => ?_)
            have hlt100 := OwT.lt2 ho10_8
            have hlt101 := OwT.lt2 hP10_9
            have hlt102 := OwT.lt2 hP10_18
            have hsz103 := (Below.size hB)
            replace hB := below_ext hB hE99 (Nat.le_refl _)
            replace ho10_8 := hE99.ow ho10_8
            replace hP10_9 := hE99.ow hP10_9
            replace hP10_15 := hE99.slT hP10_15
            replace hty10_15 := TyS.ext hE99 hty10_15
            replace hP10_18 := hE99.ow hP10_18
            clear hE99
            obtain ⟨hP10_25, hty10_25⟩ := hP10_25
            clear hsz103
            refine WL_val (dd := some 92) rfl rfl rfl (r_move (v := v6_1) rfl) ?_
            refine WL_val (dd := some 93) rfl rfl rfl (r_move (v := v6_3) rfl) ?_
            refine WL_call (dd := some 94) rfl rfl rfl (r_call3 tb_c36 (v0 := v6_1) rfl (v1 := v6_3) rfl (v2 := .bool false) rfl) (C_drawkniferef08_Pick _ _ _ _ _ _ ((Below.ow hB hP6_1)).sl ((Below.ow hB hP6_3)).sl (by first | assumption | omega) (by first | assumption | omega)) (fun v10_28 W104 hE105 hP10_28 => ?_)
            have hlt106 := OwT.lt2 ho10_8
            have hlt107 := OwT.lt2 hP10_9
            have hlt108 := OwT.lt2 hP10_18
            have hsz109 := (Below.size hB)
            replace hB := below_ext hB hE105 (Nat.le_refl _)
            replace ho10_8 := hE105.ow ho10_8
            replace hP10_9 := hE105.ow hP10_9
            replace hP10_15 := hE105.slT hP10_15
            replace hty10_15 := TyS.ext hE105 hty10_15
            replace hP10_18 := hE105.ow hP10_18
            replace hP10_25 := hE105.slT hP10_25
            replace hty10_25 := TyS.ext hE105 hty10_25
            clear hE105
            have hap110 := Apart.new hlt106 hP10_28
            have hap111 := Apart.new hlt107 hP10_28
            have hap112 := Apart.new hlt108 hP10_28
            replace hP10_28 := OwT.mono hP10_28 hsz109
            clear hsz109
            refine WL_call (dd := some 95) rfl rfl rfl (r_call2 tb_c24 (v0 := v10_25) rfl (v1 := v10_28) rfl) (C_drawkniferef08_Same _ _ _ _ _ hP10_25 hP10_28.sl (by first | assumption | omega) (by first | assumption | omega)) (fun v10_29 W113 hE114 hP10_29 => ?_)
            have hsz115 := (Below.size hB)
            replace hB := below_ext hB hE114 (Nat.le_refl _)
            replace ho10_8 := hE114.ow ho10_8
            replace hP10_9 := hE114.ow hP10_9
            replace hP10_15 := hE114.slT hP10_15
            replace hty10_15 := TyS.ext hE114 hty10_15
            replace hP10_18 := hE114.ow hP10_18
            replace hP10_25 := hE114.slT hP10_25
            replace hty10_25 := TyS.ext hE114 hty10_25
            replace hP10_28 := hE114.ow hP10_28
            clear hE114
            clear hsz115
            obtain rfl := hP10_29
            refine WL_val (dd := some 96) rfl rfl rfl (r_pick_t rfl (v := .bool _) rfl) ?_
            refine WL_split (dd := some 97) rfl rfl rfl (r_move (v := .bool _) rfl) (fun hs10_31 => ?_) (fun hs10_31 => ?_)
            ·
              try with_reducible replace hs10_31 := of_decide_eq_true hs10_31
              refine WL_call (dd := some 98) rfl rfl rfl (r_call0 tb_c19) (C_drawknifelaw08_knows _) (fun v10_32 W116 hE117 hP10_32 => ?_)
              have hsz118 := (Below.size hB)
              replace hB := below_ext hB hE117 (Nat.le_refl _)
              replace ho10_8 := hE117.ow ho10_8
              replace hP10_9 := hE117.ow hP10_9
              replace hP10_15 := hE117.slT hP10_15
              replace hty10_15 := TyS.ext hE117 hty10_15
              replace hP10_18 := hE117.ow hP10_18
              replace hP10_25 := hE117.slT hP10_25
              replace hty10_25 := TyS.ext hE117 hty10_25
              replace hP10_28 := hE117.ow hP10_28
              clear hE117
              clear hsz118
              obtain rfl := hP10_32
              refine WL_val (dd := some 99) rfl rfl rfl (r_pick_t rfl (v := .bool _) rfl) ?_
              refine WL_val (dd := some 4) rfl rfl rfl (r_assign (v := .bool _) rfl) ?_
              refine WL_nil ?_
              refine hK57 _ _ ?_
              clear hK57 K56
              refine WC_ret ?_
              try clear hz64
              try clear hz65
              replace hD := Dia.below hB hD
              replace hz := Below.atI hB hz
              replace hP6_1 := Below.ow hB hP6_1
              replace hP6_3 := Below.ow hB hP6_3
              replace hP10_3 := Below.slT hB hP10_3
              replace hty10_3 := TyS.ext hB hty10_3
              have hzs := Nat.le_trans (Nat.le_refl _) (Below.size hBo63)
              replace ho10_8 := OwT.mono ho10_8 hzs
              replace hP10_9 := OwT.mono hP10_9 hzs
              replace hP10_18 := OwT.mono hP10_18 hzs
              replace hP10_28 := OwT.mono hP10_28 hzs
              replace hB := Below.trans hBo63 (Below.mono hB hzs)
              clear hBo63 hzs
              repeat (first | refine thenQ_ret ?_ | refine blockQ_ret ?_)
              refine ret_t (v := .bool _) rfl ?_
              refine ⟨hB, ?_⟩
              rfl
            ·
              try with_reducible replace hs10_31 := of_decide_eq_false hs10_31
              exact absurd rfl hs10_31
          ·
            try with_reducible replace hs10_21 := of_decide_eq_false hs10_21
            exact absurd rfl hs10_21
        ·
          try with_reducible replace hs10_11 := of_decide_eq_false hs10_11
          exact absurd (ofI_app2 f g) hs10_11

set_option maxRecDepth 10000 in
theorem C_drawknifelaw08_ZddOne (xf : Value) (f : List Int) (xg : Value) (g : List Int) (w : World) (hf : SlT encI 1 w xf f) (hg : SlT encI 1 w xg g) :
    Fn Try.prog 7 #[xf, xg] w fun v w' => v = .bool true := by
  refine Fn_intro (n := 129) Try.func7 rfl rfl (Nat.le_of_ble_eq_true rfl) ?_
  have hB : Below w.heap.size w w := Below.refl _ _
  refine WC_seq (fun K1 hK2 => ?_)
  refine WC_region ?_
  refine WL_val (dd := some 4) rfl rfl rfl (r_assign (v := .bool false) rfl) ?_
  refine WL_nil ?_
  refine hK2 _ _ ?_
  clear hK2 K1
  refine WC_seq (fun K3 hK4 => ?_)
  refine WC_seq (fun K5 hK6 => ?_)
  refine WC_region ?_
  refine WL_val (dd := some 25) rfl rfl rfl (r_move (v := xf) rfl) ?_
  refine WL_val (dd := some 26) rfl rfl rfl (r_move (v := xg) rfl) ?_
  refine WL_call (dd := some 27) rfl rfl rfl (r_call2 tb_c29 (v0 := xf) rfl (v1 := xg) rfl) (C_drawknifelaw08_great _ _ _ _ _ (Below.slT hB hf) (Below.slT hB hg)) (fun v1_2 W7 hE8 hP1_2 => ?_)
  have hsz9 := (Below.size hB)
  replace hB := below_ext hB hE8 (Nat.le_refl _)
  clear hE8
  clear hsz9
  obtain rfl := hP1_2
  refine WL_nil ?_
  refine hK6 _ _ ?_
  clear hK6 K5
  refine WC_cond (b := _) rfl (fun hc0 => ?_) (fun hc0 => ?_)
  ·
    try with_reducible replace hc0 := of_decide_eq_true hc0
    refine WC_seq (fun K10 hK11 => ?_)
    refine WC_region ?_
    refine WL_call (dd := some 28) rfl rfl rfl (r_call0 tb_c19) (C_drawknifelaw08_knows _) (fun v2_0 W12 hE13 hP2_0 => ?_)
    have hsz14 := (Below.size hB)
    replace hB := below_ext hB hE13 (Nat.le_refl _)
    clear hE13
    clear hsz14
    obtain rfl := hP2_0
    refine WL_val (dd := some 4) rfl rfl rfl (r_assign (v := .bool _) rfl) ?_
    refine WL_nil ?_
    refine hK11 _ _ ?_
    clear hK11 K10
    refine WC_ret ?_
    repeat (first | refine thenQ_ret ?_ | refine blockQ_ret ?_)
    try clear hK4 K3
    refine ret_t (v := .bool _) rfl ?_
    refine ⟨hB, ?_⟩
    rfl
  ·
    try with_reducible replace hc0 := of_decide_eq_false hc0
    refine WC_skip ?_
    refine hK4 _ _ ?_
    clear hK4 K3
    refine WC_seq (fun K15 hK16 => ?_)
    obtain ⟨hfl, hgl⟩ := g8_no hc0
    refine WC_region ?_
    refine WL_val (dd := some 30) rfl rfl rfl (r_move (v := xf) rfl) ?_
    refine WL_val (dd := some 31) rfl rfl rfl (r_move (v := xg) rfl) ?_
    refine WL_call (dd := some 32) rfl rfl rfl (r_call2 tb_c20 (v0 := xf) rfl (v1 := xg) rfl) (C_drawknifelaw08_start _ _ _ _ _ (Below.slT hB hf) (Below.slT hB hg) (by first | assumption | omega) (by first | assumption | omega)) (fun v3_2 W17 hE18 hP3_2 => ?_)
    have hsz19 := (Below.size hB)
    replace hB := below_ext hB hE18 (Nat.le_refl _)
    clear hE18
    obtain ⟨bz, ba, bm, a, b, ns3_2, rfl, hz, hD, hst⟩ := hP3_2
    replace hD := Dia.mono hD hsz19
    clear hsz19
    refine WL_val (dd := some 29) rfl rfl rfl (r_move (v := .tuple #[.pointer (some ⟨bz, 0, none⟩), .int .i64 (a : Int), .int .i64 (b : Int), .bool _, .bool true]) rfl) ?_
    refine WL_val (dd := some 33) rfl rfl rfl (r_ext5_0 (h := rfl)) ?_
    refine WL_val (dd := some 34) rfl rfl rfl (r_ext5_1 (h := rfl)) ?_
    refine WL_val (dd := some 35) rfl rfl rfl (r_ext5_2 (h := rfl)) ?_
    refine WL_val (dd := some 36) rfl rfl rfl (r_ext5_3 (h := rfl)) ?_
    refine WL_val (dd := some 37) rfl rfl rfl (r_ext5_4 (h := rfl)) ?_
    refine WL_val (dd := some 5) rfl rfl rfl (r_assign (v := .pointer (some ⟨bz, 0, none⟩)) rfl) ?_
    refine WL_val (dd := some 6) rfl rfl rfl (r_assign (v := .int .i64 _) rfl) ?_
    refine WL_val (dd := some 7) rfl rfl rfl (r_assign (v := .int .i64 _) rfl) ?_
    refine WL_val (dd := some 8) rfl rfl rfl (r_assign (v := .bool _) rfl) ?_
    refine WL_val (dd := some 9) rfl rfl rfl (r_assign (v := .bool true) rfl) ?_
    refine WL_nil ?_
    refine hK16 _ _ ?_
    clear hK16 K15
    refine WC_seq (fun K20 hK21 => ?_)
    refine WC_seq (fun K22 hK23 => ?_)
    refine WC_region ?_
    refine WL_val (dd := some 38) rfl rfl rfl (r_move (v := .bool _) rfl) ?_
    refine WL_val (dd := some 39) rfl rfl rfl (r_not rfl) ?_
    refine WL_split (dd := some 40) rfl rfl rfl (r_move (v := .bool _) rfl) (fun hs4_2 => ?_) (fun hs4_2 => ?_)
    ·
      try with_reducible replace hs4_2 := of_decide_eq_true hs4_2
      refine WL_skip (dd := some 41) rfl rfl rfl ?_
      refine WL_skip (dd := some 42) rfl rfl rfl ?_
      refine WL_val (dd := some 43) rfl rfl rfl (r_pick_t rfl (v := .bool true) rfl) ?_
      refine WL_nil ?_
      refine hK23 _ _ ?_
      clear hK23 K22
      refine WC_cond_true rfl ?_
      refine WC_seq (fun K24 hK25 => ?_)
      refine WC_region ?_
      refine WL_val (dd := some 44) rfl rfl rfl (r_move (v := .bool true) rfl) ?_
      refine WL_val (dd := some 45) rfl rfl rfl (r_move (v := .bool true) rfl) ?_
      refine WL_call (dd := some 46) rfl rfl rfl (r_call0 tb_c19) (C_drawknifelaw08_knows _) (fun v5_2 W26 hE27 hP5_2 => ?_)
      have hsz28 := (Below.size hB)
      replace hB := below_ext hB hE27 (Nat.le_refl _)
      replace hD := Dia.ext hE27 hD
      replace hz := hE27.at hz
      clear hE27
      clear hsz28
      obtain rfl := hP5_2
      refine WL_val (dd := some 47) rfl rfl rfl (r_pick_t rfl (v := .bool _) rfl) ?_
      refine WL_val (dd := some 4) rfl rfl rfl (r_assign (v := .bool _) rfl) ?_
      refine WL_nil ?_
      refine hK25 _ _ ?_
      clear hK25 K24
      refine WC_ret ?_
      repeat (first | refine thenQ_ret ?_ | refine blockQ_ret ?_)
      try clear hK21 K20
      refine ret_t (v := .bool _) rfl ?_
      refine ⟨hB, ?_⟩
      rfl
    ·
      try with_reducible replace hs4_2 := of_decide_eq_false hs4_2
      refine WL_val (dd := some 41) rfl rfl rfl (r_move (v := .bool true) rfl) ?_
      refine WL_val (dd := some 42) rfl rfl rfl (r_not rfl) ?_
      refine WL_val (dd := some 43) rfl rfl rfl (r_pick_f rfl (v := .bool _) rfl) ?_
      refine WL_nil ?_
      refine hK23 _ _ ?_
      clear hK23 K22
      refine WC_cond (b := _) rfl (fun hc1 => ?_) (fun hc1 => ?_)
      ·
        try with_reducible replace hc1 := of_decide_eq_true hc1
        refine WC_seq (fun K29 hK30 => ?_)
        refine WC_region ?_
        refine WL_val (dd := some 44) rfl rfl rfl (r_move (v := .bool true) rfl) ?_
        refine WL_val (dd := some 45) rfl rfl rfl (r_move (v := .bool true) rfl) ?_
        refine WL_call (dd := some 46) rfl rfl rfl (r_call0 tb_c19) (C_drawknifelaw08_knows _) (fun v5_2 W31 hE32 hP5_2 => ?_)
        have hsz33 := (Below.size hB)
        replace hB := below_ext hB hE32 (Nat.le_refl _)
        replace hD := Dia.ext hE32 hD
        replace hz := hE32.at hz
        clear hE32
        clear hsz33
        obtain rfl := hP5_2
        refine WL_val (dd := some 47) rfl rfl rfl (r_pick_t rfl (v := .bool _) rfl) ?_
        refine WL_val (dd := some 4) rfl rfl rfl (r_assign (v := .bool _) rfl) ?_
        refine WL_nil ?_
        refine hK30 _ _ ?_
        clear hK30 K29
        refine WC_ret ?_
        repeat (first | refine thenQ_ret ?_ | refine blockQ_ret ?_)
        try clear hK21 K20
        refine ret_t (v := .bool _) rfl ?_
        refine ⟨hB, ?_⟩
        rfl
      ·
        try with_reducible replace hc1 := of_decide_eq_false hc1
        refine WC_skip ?_
        refine hK21 _ _ ?_
        clear hK21 K20
        refine WC_seq (fun K34 hK35 => ?_)
        have hfl1 : (ofI f).length ≤ 1000000 := by have := ofI_len f; omega
        have hgl1 : (ofI g).length ≤ 1000000 := by have := ofI_len g; omega
        refine WC_region ?_
        refine WL_val (dd := some 48) rfl rfl rfl (r_move (v := xf) rfl) ?_
        refine WL_call (dd := some 49) rfl rfl rfl (r_call1 tb_c27 (v0 := xf) rfl) (C_drawkniferef08_Of _ _ _ (Below.slT hB hf) (by first | assumption | omega)) (fun v6_1 W36 hE37 hP6_1 => ?_)
        have hsz38 := (Below.size hB)
        replace hB := below_ext hB hE37 (Nat.le_refl _)
        replace hD := Dia.ext hE37 hD
        replace hz := hE37.at hz
        clear hE37
        replace hP6_1 := OwT.mono hP6_1 hsz38
        clear hsz38
        refine WL_val (dd := some 50) rfl rfl rfl (r_move (v := xg) rfl) ?_
        refine WL_call (dd := some 51) rfl rfl rfl (r_call1 tb_c27 (v0 := xg) rfl) (C_drawkniferef08_Of _ _ _ (Below.slT hB hg) (by first | assumption | omega)) (fun v6_3 W39 hE40 hP6_3 => ?_)
        have hlt41 := OwT.lt2 hP6_1
        have hsz42 := (Below.size hB)
        replace hB := below_ext hB hE40 (Nat.le_refl _)
        replace hD := Dia.ext hE40 hD
        replace hz := hE40.at hz
        replace hP6_1 := hE40.ow hP6_1
        clear hE40
        have hap43 := Apart.new hlt41 hP6_3
        replace hP6_3 := OwT.mono hP6_3 hsz42
        clear hsz42
        refine WL_call (dd := some 52) rfl rfl rfl (r_call2 tb_c24 (v0 := v6_1) rfl (v1 := v6_3) rfl) (C_drawkniferef08_Same _ _ _ _ _ hP6_1.sl hP6_3.sl (by first | assumption | omega) (by first | assumption | omega)) (fun v6_4 W44 hE45 hP6_4 => ?_)
        have hsz46 := (Below.size hB)
        replace hB := below_ext hB hE45 (Nat.le_refl _)
        replace hD := Dia.ext hE45 hD
        replace hz := hE45.at hz
        replace hP6_1 := hE45.ow hP6_1
        replace hP6_3 := hE45.ow hP6_3
        clear hE45
        clear hsz46
        obtain rfl := hP6_4
        refine WL_val (dd := some 10) rfl rfl rfl (r_assign (v := .bool _) rfl) ?_
        refine WL_nil ?_
        refine hK35 _ _ ?_
        clear hK35 K34
        refine WC_seq (fun K47 hK48 => ?_)
        have hok : (ofZB f && ofZB g) = true := by simpa using hs4_2
        obtain ⟨hIa, hIb, hnl⟩ := hst hok
        have hof : ofZB f = true := (Bool.and_eq_true_iff.1 hok).1
        have hog : ofZB g = true := (Bool.and_eq_true_iff.1 hok).2
        have hxl := ofI_len f
        have hyl := ofI_len g
        refine WC_region ?_
        refine WL_val (dd := some 54) rfl rfl rfl (r_move (v := .pointer (some ⟨bz, 0, none⟩)) rfl) ?_
        refine WL_val (dd := some 55) rfl rfl rfl (r_move (v := .int .i64 _) rfl) ?_
        refine WL_val (dd := some 56) rfl rfl rfl (r_move (v := .int .i64 _) rfl) ?_
        have hw7_3 := hD.wf
        refine WL_callG (dd := some 57) rfl rfl rfl (r_call3 tb_c33 (v0 := .pointer (some ⟨bz, 0, none⟩)) rfl (v1 := .int .i64 _) rfl (v2 := .int .i64 _) rfl) (C___zdd_Zdd__Union _ _ _ _ _ _ a b _ (Below.size hB) hz hD hIa.v hIb.v) (fun v7_3 W49 hP7_3 => ?_)
        obtain ⟨ns7_3, id7_3, er7_3, rfl, hx7_3, hDn7_3, hg7_3⟩ := hP7_3
        replace hB := Below.dx hB (Nat.le_refl _) (Nat.le_refl _) hx7_3
        replace hz := At.dx hD hx7_3 hz (by decide) (by decide)
        replace hP6_1 := OwT.dx hD hx7_3 hP6_1 (by decide) (by decide)
        replace hP6_3 := OwT.dx hD hx7_3 hP6_3 (by decide) (by decide)
        replace hD := hDn7_3
        refine WL_val (dd := some 53) rfl rfl rfl (r_move (v := .tuple #[.int .i64 (id7_3 : Int), .int .i64 er7_3]) rfl) ?_
        refine WL_val (dd := some 58) rfl rfl rfl (r_ext2_0 (h := rfl)) ?_
        refine WL_val (dd := some 59) rfl rfl rfl (r_ext2_1 (h := rfl)) ?_
        refine WL_val (dd := some 11) rfl rfl rfl (r_assign (v := .int .i64 _) rfl) ?_
        refine WL_val (dd := some 12) rfl rfl rfl (r_assign (v := .int .i64 _) rfl) ?_
        refine WL_nil ?_
        refine hK48 _ _ ?_
        clear hK48 K47
        refine WC_seq (fun K51 hK52 => ?_)
        obtain ⟨he7_3, hIu, hp7_3, hl7_3⟩ := room_U hg7_3 hw7_3 hIa hIb 40 (by omega) (by omega)
        subst he7_3
        replace hIa := hIa.pre hp7_3
        replace hIb := hIb.pre hp7_3
        refine WC_region ?_
        refine WL_val (dd := some 61) rfl rfl rfl (r_move (v := .pointer (some ⟨bz, 0, none⟩)) rfl) ?_
        refine WL_val (dd := some 62) rfl rfl rfl (r_move (v := .int .i64 _) rfl) ?_
        refine WL_val (dd := some 63) rfl rfl rfl (r_move (v := .int .i64 _) rfl) ?_
        have hw8_3 := hD.wf
        refine WL_callG (dd := some 64) rfl rfl rfl (r_call3 tb_c33 (v0 := .pointer (some ⟨bz, 0, none⟩)) rfl (v1 := .int .i64 _) rfl (v2 := .int .i64 _) rfl) (C___zdd_Zdd__Union _ _ _ _ _ _ b a _ (Below.size hB) hz hD hIb.v hIa.v) (fun v8_3 W53 hP8_3 => ?_)
        obtain ⟨ns8_3, id8_3, er8_3, rfl, hx8_3, hDn8_3, hg8_3⟩ := hP8_3
        replace hB := Below.dx hB (Nat.le_refl _) (Nat.le_refl _) hx8_3
        replace hz := At.dx hD hx8_3 hz (by decide) (by decide)
        replace hP6_1 := OwT.dx hD hx8_3 hP6_1 (by decide) (by decide)
        replace hP6_3 := OwT.dx hD hx8_3 hP6_3 (by decide) (by decide)
        replace hD := hDn8_3
        refine WL_val (dd := some 60) rfl rfl rfl (r_move (v := .tuple #[.int .i64 (id8_3 : Int), .int .i64 er8_3]) rfl) ?_
        refine WL_val (dd := some 65) rfl rfl rfl (r_ext2_0 (h := rfl)) ?_
        refine WL_val (dd := some 66) rfl rfl rfl (r_ext2_1 (h := rfl)) ?_
        refine WL_val (dd := some 13) rfl rfl rfl (r_assign (v := .int .i64 _) rfl) ?_
        refine WL_val (dd := some 14) rfl rfl rfl (r_assign (v := .int .i64 _) rfl) ?_
        refine WL_nil ?_
        refine hK52 _ _ ?_
        clear hK52 K51
        refine WC_seq (fun K55 hK56 => ?_)
        obtain ⟨he8_3, hIv, hp8_3, hl8_3⟩ := room_U hg8_3 hw8_3 hIb hIa 40 (by omega) (by omega)
        subst he8_3
        replace hIa := hIa.pre hp8_3
        replace hIb := hIb.pre hp8_3
        replace hIu := hIu.pre hp8_3
        refine WC_region ?_
        refine WL_val (dd := some 68) rfl rfl rfl (r_move (v := .pointer (some ⟨bz, 0, none⟩)) rfl) ?_
        refine WL_val (dd := some 69) rfl rfl rfl (r_move (v := .int .i64 _) rfl) ?_
        refine WL_val (dd := some 70) rfl rfl rfl (r_move (v := .int .i64 _) rfl) ?_
        have hw9_3 := hD.wf
        refine WL_callG (dd := some 71) rfl rfl rfl (r_call3 tb_c34 (v0 := .pointer (some ⟨bz, 0, none⟩)) rfl (v1 := .int .i64 _) rfl (v2 := .int .i64 _) rfl) (C___zdd_Zdd__Meet _ _ _ _ _ _ a b _ (Below.size hB) hz hD hIa.v hIb.v) (fun v9_3 W57 hP9_3 => ?_)
        obtain ⟨ns9_3, id9_3, er9_3, rfl, hx9_3, hDn9_3, hg9_3⟩ := hP9_3
        replace hB := Below.dx hB (Nat.le_refl _) (Nat.le_refl _) hx9_3
        replace hz := At.dx hD hx9_3 hz (by decide) (by decide)
        replace hP6_1 := OwT.dx hD hx9_3 hP6_1 (by decide) (by decide)
        replace hP6_3 := OwT.dx hD hx9_3 hP6_3 (by decide) (by decide)
        replace hD := hDn9_3
        refine WL_val (dd := some 67) rfl rfl rfl (r_move (v := .tuple #[.int .i64 (id9_3 : Int), .int .i64 er9_3]) rfl) ?_
        refine WL_val (dd := some 72) rfl rfl rfl (r_ext2_0 (h := rfl)) ?_
        refine WL_val (dd := some 73) rfl rfl rfl (r_ext2_1 (h := rfl)) ?_
        refine WL_val (dd := some 15) rfl rfl rfl (r_assign (v := .int .i64 _) rfl) ?_
        refine WL_val (dd := some 16) rfl rfl rfl (r_assign (v := .int .i64 _) rfl) ?_
        refine WL_nil ?_
        refine hK56 _ _ ?_
        clear hK56 K55
        refine WC_seq (fun K59 hK60 => ?_)
        obtain ⟨he9_3, hIm, hp9_3, hl9_3⟩ := room_M hg9_3 hw9_3 hIa hIb 40 (by omega) (by omega)
        subst he9_3
        replace hIa := hIa.pre hp9_3
        replace hIb := hIb.pre hp9_3
        replace hIu := hIu.pre hp9_3
        replace hIv := hIv.pre hp9_3
        refine WC_region ?_
        refine WL_val (dd := some 75) rfl rfl rfl (r_move (v := .pointer (some ⟨bz, 0, none⟩)) rfl) ?_
        refine WL_val (dd := some 76) rfl rfl rfl (r_move (v := .int .i64 _) rfl) ?_
        refine WL_val (dd := some 77) rfl rfl rfl (r_move (v := .int .i64 _) rfl) ?_
        have hw10_3 := hD.wf
        refine WL_callG (dd := some 78) rfl rfl rfl (r_call3 tb_c35 (v0 := .pointer (some ⟨bz, 0, none⟩)) rfl (v1 := .int .i64 _) rfl (v2 := .int .i64 _) rfl) (C___zdd_Zdd__Less _ _ _ _ _ _ a b _ (Below.size hB) hz hD hIa.v hIb.v) (fun v10_3 W61 hP10_3 => ?_)
        obtain ⟨ns10_3, id10_3, er10_3, rfl, hx10_3, hDn10_3, hg10_3⟩ := hP10_3
        replace hB := Below.dx hB (Nat.le_refl _) (Nat.le_refl _) hx10_3
        replace hz := At.dx hD hx10_3 hz (by decide) (by decide)
        replace hP6_1 := OwT.dx hD hx10_3 hP6_1 (by decide) (by decide)
        replace hP6_3 := OwT.dx hD hx10_3 hP6_3 (by decide) (by decide)
        replace hD := hDn10_3
        refine WL_val (dd := some 74) rfl rfl rfl (r_move (v := .tuple #[.int .i64 (id10_3 : Int), .int .i64 er10_3]) rfl) ?_
        refine WL_val (dd := some 79) rfl rfl rfl (r_ext2_0 (h := rfl)) ?_
        refine WL_val (dd := some 80) rfl rfl rfl (r_ext2_1 (h := rfl)) ?_
        refine WL_val (dd := some 17) rfl rfl rfl (r_assign (v := .int .i64 _) rfl) ?_
        refine WL_val (dd := some 18) rfl rfl rfl (r_assign (v := .int .i64 _) rfl) ?_
        refine WL_nil ?_
        refine hK60 _ _ ?_
        clear hK60 K59
        refine WC_seq (fun K63 hK64 => ?_)
        obtain ⟨he10_3, hIl, hp10_3, hl10_3⟩ := room_L hg10_3 hw10_3 hIa hIb 40 (by omega) (by omega)
        subst he10_3
        replace hIa := hIa.pre hp10_3
        replace hIb := hIb.pre hp10_3
        replace hIu := hIu.pre hp10_3
        replace hIv := hIv.pre hp10_3
        replace hIm := hIm.pre hp10_3
        refine WC_region ?_
        refine WL_val (dd := some 82) rfl rfl rfl (r_move (v := .pointer (some ⟨bz, 0, none⟩)) rfl) ?_
        refine WL_val (dd := some 83) rfl rfl rfl (r_move (v := .int .i64 _) rfl) ?_
        refine WL_val (dd := some 84) rfl rfl rfl (r_move (v := .int .i64 _) rfl) ?_
        have hw11_3 := hD.wf
        refine WL_callG (dd := some 85) rfl rfl rfl (r_call3 tb_c35 (v0 := .pointer (some ⟨bz, 0, none⟩)) rfl (v1 := .int .i64 _) rfl (v2 := .int .i64 _) rfl) (C___zdd_Zdd__Less _ _ _ _ _ _ b a _ (Below.size hB) hz hD hIb.v hIa.v) (fun v11_3 W65 hP11_3 => ?_)
        obtain ⟨ns11_3, id11_3, er11_3, rfl, hx11_3, hDn11_3, hg11_3⟩ := hP11_3
        replace hB := Below.dx hB (Nat.le_refl _) (Nat.le_refl _) hx11_3
        replace hz := At.dx hD hx11_3 hz (by decide) (by decide)
        replace hP6_1 := OwT.dx hD hx11_3 hP6_1 (by decide) (by decide)
        replace hP6_3 := OwT.dx hD hx11_3 hP6_3 (by decide) (by decide)
        replace hD := hDn11_3
        refine WL_val (dd := some 81) rfl rfl rfl (r_move (v := .tuple #[.int .i64 (id11_3 : Int), .int .i64 er11_3]) rfl) ?_
        refine WL_val (dd := some 86) rfl rfl rfl (r_ext2_0 (h := rfl)) ?_
        refine WL_val (dd := some 87) rfl rfl rfl (r_ext2_1 (h := rfl)) ?_
        refine WL_val (dd := some 19) rfl rfl rfl (r_assign (v := .int .i64 _) rfl) ?_
        refine WL_val (dd := some 20) rfl rfl rfl (r_assign (v := .int .i64 _) rfl) ?_
        refine WL_nil ?_
        refine hK64 _ _ ?_
        clear hK64 K63
        refine WC_seq (fun K67 hK68 => ?_)
        obtain ⟨he11_3, hIk, hp11_3, hl11_3⟩ := room_L hg11_3 hw11_3 hIb hIa 40 (by omega) (by omega)
        subst he11_3
        replace hIa := hIa.pre hp11_3
        replace hIb := hIb.pre hp11_3
        replace hIu := hIu.pre hp11_3
        replace hIv := hIv.pre hp11_3
        replace hIm := hIm.pre hp11_3
        replace hIl := hIl.pre hp11_3
        have hl3 := pickI_len (ofI f) (ofI g) false
        have hl4 := pickI_len (ofI g) (ofI f) false
        refine WC_region ?_
        refine WL_val (dd := some 89) rfl rfl rfl (r_move (v := .pointer (some ⟨bz, 0, none⟩)) rfl) ?_
        refine WL_val (dd := some 90) rfl rfl rfl (r_move (v := .int .i64 _) rfl) ?_
        refine WL_val (dd := some 91) rfl rfl rfl (r_move (v := .int .i64 _) rfl) ?_
        have hw12_3 := hD.wf
        refine WL_callG (dd := some 92) rfl rfl rfl (r_call3 tb_c33 (v0 := .pointer (some ⟨bz, 0, none⟩)) rfl (v1 := .int .i64 _) rfl (v2 := .int .i64 _) rfl) (C___zdd_Zdd__Union _ _ _ _ _ _ _ _ _ (Below.size hB) hz hD hIl.v hIm.v) (fun v12_3 W69 hP12_3 => ?_)
        obtain ⟨ns12_3, id12_3, er12_3, rfl, hx12_3, hDn12_3, hg12_3⟩ := hP12_3
        replace hB := Below.dx hB (Nat.le_refl _) (Nat.le_refl _) hx12_3
        replace hz := At.dx hD hx12_3 hz (by decide) (by decide)
        replace hP6_1 := OwT.dx hD hx12_3 hP6_1 (by decide) (by decide)
        replace hP6_3 := OwT.dx hD hx12_3 hP6_3 (by decide) (by decide)
        replace hD := hDn12_3
        refine WL_val (dd := some 88) rfl rfl rfl (r_move (v := .tuple #[.int .i64 (id12_3 : Int), .int .i64 er12_3]) rfl) ?_
        refine WL_val (dd := some 93) rfl rfl rfl (r_ext2_0 (h := rfl)) ?_
        refine WL_val (dd := some 94) rfl rfl rfl (r_ext2_1 (h := rfl)) ?_
        refine WL_val (dd := some 21) rfl rfl rfl (r_assign (v := .int .i64 _) rfl) ?_
        refine WL_val (dd := some 22) rfl rfl rfl (r_assign (v := .int .i64 _) rfl) ?_
        refine WL_nil ?_
        refine hK68 _ _ ?_
        clear hK68 K67
        refine WC_seq (fun K71 hK72 => ?_)
        obtain ⟨he12_3, hIw, hp12_3, hl12_3⟩ := room_U hg12_3 hw12_3 hIl hIm 40 (by omega) (by omega)
        subst he12_3
        replace hIa := hIa.pre hp12_3
        replace hIb := hIb.pre hp12_3
        replace hIu := hIu.pre hp12_3
        replace hIv := hIv.pre hp12_3
        replace hIk := hIk.pre hp12_3
        rw [pick_both (inc_ofI f)] at hIw
        refine WC_region ?_
        refine WL_val (dd := some 96) rfl rfl rfl (r_move (v := .pointer (some ⟨bz, 0, none⟩)) rfl) ?_
        refine WL_val (dd := some 97) rfl rfl rfl (r_move (v := .int .i64 _) rfl) ?_
        refine WL_val (dd := some 98) rfl rfl rfl (r_move (v := .int .i64 _) rfl) ?_
        have hw13_3 := hD.wf
        refine WL_callG (dd := some 99) rfl rfl rfl (r_call3 tb_c33 (v0 := .pointer (some ⟨bz, 0, none⟩)) rfl (v1 := .int .i64 _) rfl (v2 := .int .i64 _) rfl) (C___zdd_Zdd__Union _ _ _ _ _ _ _ _ _ (Below.size hB) hz hD hIw.v hIk.v) (fun v13_3 W73 hP13_3 => ?_)
        obtain ⟨ns13_3, id13_3, er13_3, rfl, hx13_3, hDn13_3, hg13_3⟩ := hP13_3
        replace hB := Below.dx hB (Nat.le_refl _) (Nat.le_refl _) hx13_3
        replace hz := At.dx hD hx13_3 hz (by decide) (by decide)
        replace hP6_1 := OwT.dx hD hx13_3 hP6_1 (by decide) (by decide)
        replace hP6_3 := OwT.dx hD hx13_3 hP6_3 (by decide) (by decide)
        replace hD := hDn13_3
        refine WL_val (dd := some 95) rfl rfl rfl (r_move (v := .tuple #[.int .i64 (id13_3 : Int), .int .i64 er13_3]) rfl) ?_
        refine WL_val (dd := some 100) rfl rfl rfl (r_ext2_0 (h := rfl)) ?_
        refine WL_val (dd := some 101) rfl rfl rfl (r_ext2_1 (h := rfl)) ?_
        refine WL_val (dd := some 23) rfl rfl rfl (r_assign (v := .int .i64 _) rfl) ?_
        refine WL_val (dd := some 24) rfl rfl rfl (r_assign (v := .int .i64 _) rfl) ?_
        refine WL_nil ?_
        refine hK72 _ _ ?_
        clear hK72 K71
        refine WC_seq (fun K75 hK76 => ?_)
        obtain ⟨he13_3, hIx, hp13_3, hl13_3⟩ := room_U hg13_3 hw13_3 hIw hIk 40 (by omega) (by omega)
        subst he13_3
        replace hIa := hIa.pre hp13_3
        replace hIb := hIb.pre hp13_3
        replace hIu := hIu.pre hp13_3
        replace hIv := hIv.pre hp13_3
        replace hIw := hIw.pre hp13_3
        rw [pick_un] at hIx
        have hw14 := hD.wf
        refine WC_region ?_
        refine WL_val (dd := some 102) rfl rfl rfl (r_move (v := .int .i64 _) rfl) ?_
        refine WL_val (dd := some 103) rfl rfl rfl (r_move (v := .int .i64 _) rfl) ?_
        refine WL_val (dd := some 104) rfl rfl rfl (r_eql rfl rfl) ?_
        refine WL_val (dd := some 105) rfl rfl rfl (r_move (v := .bool _) rfl) ?_
        refine WL_val (dd := some 106) rfl rfl rfl (r_eqlB rfl rfl Try.underlying4) ?_
        refine WL_split (dd := some 107) rfl rfl rfl (r_move (v := .bool _) rfl) (fun hs14_5 => ?_) (fun hs14_5 => ?_)
        ·
          try with_reducible replace hs14_5 := of_decide_eq_true hs14_5
          refine WL_val (dd := some 108) rfl rfl rfl (r_move (v := .int .i64 _) rfl) ?_
          refine WL_val (dd := some 109) rfl rfl rfl (r_move (v := .int .i64 _) rfl) ?_
          refine WL_val (dd := some 110) rfl rfl rfl (r_eql rfl rfl) ?_
          refine WL_val (dd := some 111) rfl rfl rfl (r_pick_t rfl (v := .bool _) rfl) ?_
          refine WL_split (dd := some 112) rfl rfl rfl (r_move (v := .bool _) rfl) (fun hs14_10 => ?_) (fun hs14_10 => ?_)
          ·
            try with_reducible replace hs14_10 := of_decide_eq_true hs14_10
            refine WL_val (dd := some 113) rfl rfl rfl (r_move (v := .int .i64 _) rfl) ?_
            refine WL_val (dd := some 114) rfl rfl rfl (r_move (v := .int .i64 _) rfl) ?_
            refine WL_val (dd := some 115) rfl rfl rfl (r_eql rfl rfl) ?_
            refine WL_val (dd := some 116) rfl rfl rfl (r_pick_t rfl (v := .bool _) rfl) ?_
            refine WL_split (dd := some 117) rfl rfl rfl (r_move (v := .bool _) rfl) (fun hs14_15 => ?_) (fun hs14_15 => ?_)
            ·
              try with_reducible replace hs14_15 := of_decide_eq_true hs14_15
              refine WL_val (dd := some 118) rfl rfl rfl (r_move (v := .int .i64 _) rfl) ?_
              refine WL_val (dd := some 119) rfl rfl rfl (r_move (v := .int .i64 _) rfl) ?_
              refine WL_val (dd := some 120) rfl rfl rfl (r_eql rfl rfl) ?_
              refine WL_val (dd := some 121) rfl rfl rfl (r_pick_t rfl (v := .bool _) rfl) ?_
              refine WL_split (dd := some 122) rfl rfl rfl (r_move (v := .bool _) rfl) (fun hs14_20 => ?_) (fun hs14_20 => ?_)
              ·
                try with_reducible replace hs14_20 := of_decide_eq_true hs14_20
                refine WL_val (dd := some 123) rfl rfl rfl (r_move (v := .int .i64 _) rfl) ?_
                refine WL_val (dd := some 124) rfl rfl rfl (r_eql rfl rfl) ?_
                refine WL_val (dd := some 125) rfl rfl rfl (r_pick_t rfl (v := .bool _) rfl) ?_
                refine WL_split (dd := some 126) rfl rfl rfl (r_move (v := .bool _) rfl) (fun hs14_24 => ?_) (fun hs14_24 => ?_)
                ·
                  try with_reducible replace hs14_24 := of_decide_eq_true hs14_24
                  refine WL_call (dd := some 127) rfl rfl rfl (r_call0 tb_c19) (C_drawknifelaw08_knows _) (fun v14_25 W77 hE78 hP14_25 => ?_)
                  have hsz79 := (Below.size hB)
                  replace hB := below_ext hB hE78 (Nat.le_refl _)
                  replace hD := Dia.ext hE78 hD
                  replace hz := hE78.at hz
                  replace hP6_1 := hE78.ow hP6_1
                  replace hP6_3 := hE78.ow hP6_3
                  clear hE78
                  clear hsz79
                  obtain rfl := hP14_25
                  refine WL_val (dd := some 128) rfl rfl rfl (r_pick_t rfl (v := .bool _) rfl) ?_
                  refine WL_val (dd := some 4) rfl rfl rfl (r_assign (v := .bool _) rfl) ?_
                  refine WL_nil ?_
                  refine hK76 _ _ ?_
                  clear hK76 K75
                  refine WC_ret ?_
                  repeat (first | refine thenQ_ret ?_ | refine blockQ_ret ?_)
                  refine ret_t (v := .bool _) rfl ?_
                  refine ⟨hB, ?_⟩
                  rfl
                ·
                  try with_reducible replace hs14_24 := of_decide_eq_false hs14_24
                  exact absurd rfl hs14_24
              ·
                try with_reducible replace hs14_20 := of_decide_eq_false hs14_20
                exact absurd (hIx.eq hIu hw14 rfl) hs14_20
            ·
              try with_reducible replace hs14_15 := of_decide_eq_false hs14_15
              exact absurd (hIw.eq hIa hw14 rfl) hs14_15
          ·
            try with_reducible replace hs14_10 := of_decide_eq_false hs14_10
            exact absurd (hIu.eq hIv hw14 (app_comm _ _)) hs14_10
        ·
          try with_reducible replace hs14_5 := of_decide_eq_false hs14_5
          exact absurd (hIa.same hIb hw14) hs14_5

set_option maxRecDepth 10000 in
theorem C_drawknifelaw08_ZddItems (xf : Value) (f : List Int) (j : Int) (w : World) (hf : SlT encI 1 w xf f) :
    Fn Try.prog 9 #[xf, .int .i64 j] w fun v w' => v = .bool true := by
  refine Fn_intro (n := 141) Try.func9 rfl rfl (Nat.le_of_ble_eq_true rfl) ?_
  have hB : Below w.heap.size w w := Below.refl _ _
  refine WC_seq (fun K1 hK2 => ?_)
  refine WC_region ?_
  refine WL_val (dd := some 4) rfl rfl rfl (r_assign (v := .bool false) rfl) ?_
  refine WL_nil ?_
  refine hK2 _ _ ?_
  clear hK2 K1
  refine WC_seq (fun K3 hK4 => ?_)
  refine WC_seq (fun K5 hK6 => ?_)
  refine WC_region ?_
  refine WL_val (dd := some 23) rfl rfl rfl (r_move (v := xf) rfl) ?_
  refine WL_call (dd := some 24) rfl rfl rfl (r_call2 tb_c29 (v0 := xf) rfl (v1 := .slice none 0 0) rfl) (C_drawknifelaw08_great _ _ _ _ _ (Below.slT hB hf) SlT.nil) (fun v1_1 W7 hE8 hP1_1 => ?_)
  have hsz9 := (Below.size hB)
  replace hB := below_ext hB hE8 (Nat.le_refl _)
  clear hE8
  clear hsz9
  obtain rfl := hP1_1
  refine WL_nil ?_
  refine hK6 _ _ ?_
  clear hK6 K5
  refine WC_cond (b := _) rfl (fun hc0 => ?_) (fun hc0 => ?_)
  ·
    try with_reducible replace hc0 := of_decide_eq_true hc0
    refine WC_seq (fun K10 hK11 => ?_)
    refine WC_region ?_
    refine WL_call (dd := some 25) rfl rfl rfl (r_call0 tb_c19) (C_drawknifelaw08_knows _) (fun v2_0 W12 hE13 hP2_0 => ?_)
    have hsz14 := (Below.size hB)
    replace hB := below_ext hB hE13 (Nat.le_refl _)
    clear hE13
    clear hsz14
    obtain rfl := hP2_0
    refine WL_val (dd := some 4) rfl rfl rfl (r_assign (v := .bool _) rfl) ?_
    refine WL_nil ?_
    refine hK11 _ _ ?_
    clear hK11 K10
    refine WC_ret ?_
    repeat (first | refine thenQ_ret ?_ | refine blockQ_ret ?_)
    try clear hK4 K3
    refine ret_t (v := .bool _) rfl ?_
    refine ⟨hB, ?_⟩
    rfl
  ·
    try with_reducible replace hc0 := of_decide_eq_false hc0
    refine WC_skip ?_
    refine hK4 _ _ ?_
    clear hK4 K3
    refine WC_seq (fun K15 hK16 => ?_)
    obtain ⟨hfl, hgl⟩ := g8_no hc0
    refine WC_region ?_
    refine WL_val (dd := some 27) rfl rfl rfl (r_move (v := xf) rfl) ?_
    refine WL_call (dd := some 28) rfl rfl rfl (r_call2 tb_c20 (v0 := xf) rfl (v1 := .slice none 0 0) rfl) (C_drawknifelaw08_start _ _ _ _ _ (Below.slT hB hf) SlT.nil (by first | assumption | omega) (by first | assumption | omega)) (fun v3_1 W17 hE18 hP3_1 => ?_)
    have hsz19 := (Below.size hB)
    replace hB := below_ext hB hE18 (Nat.le_refl _)
    clear hE18
    obtain ⟨bz, ba, bm, a, b, ns3_1, rfl, hz, hD, hst⟩ := hP3_1
    replace hD := Dia.mono hD hsz19
    clear hsz19
    refine WL_val (dd := some 26) rfl rfl rfl (r_move (v := .tuple #[.pointer (some ⟨bz, 0, none⟩), .int .i64 (a : Int), .int .i64 (b : Int), .bool _, .bool true]) rfl) ?_
    refine WL_val (dd := some 29) rfl rfl rfl (r_ext5_0 (h := rfl)) ?_
    refine WL_val (dd := some 30) rfl rfl rfl (r_ext5_1 (h := rfl)) ?_
    refine WL_val (dd := some 31) rfl rfl rfl (r_ext5_2 (h := rfl)) ?_
    refine WL_val (dd := some 32) rfl rfl rfl (r_ext5_3 (h := rfl)) ?_
    refine WL_val (dd := some 33) rfl rfl rfl (r_ext5_4 (h := rfl)) ?_
    refine WL_val (dd := some 5) rfl rfl rfl (r_assign (v := .pointer (some ⟨bz, 0, none⟩)) rfl) ?_
    refine WL_val (dd := some 6) rfl rfl rfl (r_assign (v := .int .i64 _) rfl) ?_
    refine WL_val (dd := some 7) rfl rfl rfl (r_assign (v := .int .i64 _) rfl) ?_
    refine WL_val (dd := some 8) rfl rfl rfl (r_assign (v := .bool _) rfl) ?_
    refine WL_val (dd := some 9) rfl rfl rfl (r_assign (v := .bool true) rfl) ?_
    refine WL_nil ?_
    refine hK16 _ _ ?_
    clear hK16 K15
    refine WC_seq (fun K20 hK21 => ?_)
    refine WC_seq (fun K22 hK23 => ?_)
    refine WC_region ?_
    refine WL_val (dd := some 34) rfl rfl rfl (r_move (v := .bool _) rfl) ?_
    refine WL_val (dd := some 35) rfl rfl rfl (r_not rfl) ?_
    refine WL_split (dd := some 36) rfl rfl rfl (r_move (v := .bool _) rfl) (fun hs4_2 => ?_) (fun hs4_2 => ?_)
    ·
      try with_reducible replace hs4_2 := of_decide_eq_true hs4_2
      refine WL_skip (dd := some 37) rfl rfl rfl ?_
      refine WL_skip (dd := some 38) rfl rfl rfl ?_
      refine WL_val (dd := some 39) rfl rfl rfl (r_pick_t rfl (v := .bool true) rfl) ?_
      refine WL_nil ?_
      refine hK23 _ _ ?_
      clear hK23 K22
      refine WC_cond_true rfl ?_
      refine WC_seq (fun K24 hK25 => ?_)
      refine WC_region ?_
      refine WL_val (dd := some 40) rfl rfl rfl (r_move (v := .bool true) rfl) ?_
      refine WL_val (dd := some 41) rfl rfl rfl (r_move (v := .bool true) rfl) ?_
      refine WL_call (dd := some 42) rfl rfl rfl (r_call0 tb_c19) (C_drawknifelaw08_knows _) (fun v5_2 W26 hE27 hP5_2 => ?_)
      have hsz28 := (Below.size hB)
      replace hB := below_ext hB hE27 (Nat.le_refl _)
      replace hD := Dia.ext hE27 hD
      replace hz := hE27.at hz
      clear hE27
      clear hsz28
      obtain rfl := hP5_2
      refine WL_val (dd := some 43) rfl rfl rfl (r_pick_t rfl (v := .bool _) rfl) ?_
      refine WL_val (dd := some 4) rfl rfl rfl (r_assign (v := .bool _) rfl) ?_
      refine WL_nil ?_
      refine hK25 _ _ ?_
      clear hK25 K24
      refine WC_ret ?_
      repeat (first | refine thenQ_ret ?_ | refine blockQ_ret ?_)
      try clear hK21 K20
      refine ret_t (v := .bool _) rfl ?_
      refine ⟨hB, ?_⟩
      rfl
    ·
      try with_reducible replace hs4_2 := of_decide_eq_false hs4_2
      refine WL_val (dd := some 37) rfl rfl rfl (r_move (v := .bool true) rfl) ?_
      refine WL_val (dd := some 38) rfl rfl rfl (r_not rfl) ?_
      refine WL_val (dd := some 39) rfl rfl rfl (r_pick_f rfl (v := .bool _) rfl) ?_
      refine WL_nil ?_
      refine hK23 _ _ ?_
      clear hK23 K22
      refine WC_cond (b := _) rfl (fun hc1 => ?_) (fun hc1 => ?_)
      ·
        try with_reducible replace hc1 := of_decide_eq_true hc1
        refine WC_seq (fun K29 hK30 => ?_)
        refine WC_region ?_
        refine WL_val (dd := some 40) rfl rfl rfl (r_move (v := .bool true) rfl) ?_
        refine WL_val (dd := some 41) rfl rfl rfl (r_move (v := .bool true) rfl) ?_
        refine WL_call (dd := some 42) rfl rfl rfl (r_call0 tb_c19) (C_drawknifelaw08_knows _) (fun v5_2 W31 hE32 hP5_2 => ?_)
        have hsz33 := (Below.size hB)
        replace hB := below_ext hB hE32 (Nat.le_refl _)
        replace hD := Dia.ext hE32 hD
        replace hz := hE32.at hz
        clear hE32
        clear hsz33
        obtain rfl := hP5_2
        refine WL_val (dd := some 43) rfl rfl rfl (r_pick_t rfl (v := .bool _) rfl) ?_
        refine WL_val (dd := some 4) rfl rfl rfl (r_assign (v := .bool _) rfl) ?_
        refine WL_nil ?_
        refine hK30 _ _ ?_
        clear hK30 K29
        refine WC_ret ?_
        repeat (first | refine thenQ_ret ?_ | refine blockQ_ret ?_)
        try clear hK21 K20
        refine ret_t (v := .bool _) rfl ?_
        refine ⟨hB, ?_⟩
        rfl
      ·
        try with_reducible replace hc1 := of_decide_eq_false hc1
        refine WC_skip ?_
        refine hK21 _ _ ?_
        clear hK21 K20
        refine WC_seq (fun K34 hK35 => ?_)
        have hok : (ofZB f && ofZB []) = true := by simpa using hs4_2
        obtain ⟨hIa, hIb, hnl⟩ := hst hok
        have hof : ofZB f = true := (Bool.and_eq_true_iff.1 hok).1
        have hog : ofZB [] = true := (Bool.and_eq_true_iff.1 hok).2
        have hxl := ofI_len f
        have hyl := ofI_len ([] : List Int)
        refine WC_region ?_
        refine WL_val (dd := some 44) rfl rfl rfl (r_move (v := xf) rfl) ?_
        refine WL_call (dd := some 45) rfl rfl rfl (r_call1 tb_c27 (v0 := xf) rfl) (C_drawkniferef08_Of _ _ _ (Below.slT hB hf) (by first | assumption | omega)) (fun v6_1 W36 hE37 hP6_1 => ?_)
        have hsz38 := (Below.size hB)
        replace hB := below_ext hB hE37 (Nat.le_refl _)
        replace hD := Dia.ext hE37 hD
        replace hz := hE37.at hz
        clear hE37
        replace hP6_1 := OwT.mono hP6_1 hsz38
        clear hsz38
        refine WL_val (dd := some 10) rfl rfl rfl (r_assign (v := v6_1) rfl) ?_
        refine WL_nil ?_
        refine hK35 _ _ ?_
        clear hK35 K34
        refine WC_seq (fun K39 hK40 => ?_)
        refine WC_region ?_
        refine WL_val (dd := some 47) rfl rfl rfl (r_move (v := .pointer (some ⟨bz, 0, none⟩)) rfl) ?_
        refine WL_val (dd := some 48) rfl rfl rfl (r_move (v := .int .i64 _) rfl) ?_
        refine WL_val (dd := some 49) rfl rfl rfl (r_move (v := .int .i64 _) rfl) ?_
        have hw7_3 := hD.wf
        have hva7 := hIa.v
        refine WL_callG (dd := some 50) rfl rfl rfl (r_call3 tb_c40 (v0 := .pointer (some ⟨bz, 0, none⟩)) rfl (v1 := .int .i64 _) rfl (v2 := .int .i64 _) rfl) (C___zdd_Zdd__With _ _ _ _ _ _ _ _ _ (Below.size hB) hz hD (by first | assumption | omega)) (fun v7_3 W41 hP7_3 => ?_)
        obtain ⟨ns7_3, id7_3, er7_3, rfl, hx7_3, hDn7_3, hg7_3⟩ := hP7_3
        replace hB := Below.dx hB (Nat.le_refl _) (Nat.le_refl _) hx7_3
        replace hz := At.dx hD hx7_3 hz (by decide) (by decide)
        replace hP6_1 := OwT.dx hD hx7_3 hP6_1 (by decide) (by decide)
        replace hD := hDn7_3
        refine WL_val (dd := some 46) rfl rfl rfl (r_move (v := .tuple #[.int .i64 (id7_3 : Int), .int .i64 er7_3]) rfl) ?_
        refine WL_val (dd := some 51) rfl rfl rfl (r_ext2_0 (h := rfl)) ?_
        refine WL_val (dd := some 52) rfl rfl rfl (r_ext2_1 (h := rfl)) ?_
        refine WL_val (dd := some 11) rfl rfl rfl (r_assign (v := .int .i64 _) rfl) ?_
        refine WL_val (dd := some 12) rfl rfl rfl (r_assign (v := .int .i64 _) rfl) ?_
        refine WL_nil ?_
        refine hK40 _ _ ?_
        clear hK40 K39
        refine WC_seq (fun K43 hK44 => ?_)
        obtain ⟨hP1, hP2, hpP, hlP⟩ := pe_P hg7_3 hw7_3 hIa 40 (by omega) (by omega)
        replace hIa := hIa.pre hpP
        refine WC_region ?_
        refine WL_val (dd := some 54) rfl rfl rfl (r_move (v := .pointer (some ⟨bz, 0, none⟩)) rfl) ?_
        refine WL_val (dd := some 55) rfl rfl rfl (r_move (v := .int .i64 _) rfl) ?_
        refine WL_val (dd := some 56) rfl rfl rfl (r_move (v := .int .i64 _) rfl) ?_
        have hw8_3 := hD.wf
        have hva8 := hIa.v
        refine WL_callG (dd := some 57) rfl rfl rfl (r_call3 tb_c41 (v0 := .pointer (some ⟨bz, 0, none⟩)) rfl (v1 := .int .i64 _) rfl (v2 := .int .i64 _) rfl) (C___zdd_Zdd__Without _ _ _ _ _ _ _ _ _ (Below.size hB) hz hD (by first | assumption | omega)) (fun v8_3 W45 hP8_3 => ?_)
        obtain ⟨ns8_3, id8_3, er8_3, rfl, hx8_3, hDn8_3, hg8_3⟩ := hP8_3
        replace hB := Below.dx hB (Nat.le_refl _) (Nat.le_refl _) hx8_3
        replace hz := At.dx hD hx8_3 hz (by decide) (by decide)
        replace hP6_1 := OwT.dx hD hx8_3 hP6_1 (by decide) (by decide)
        replace hD := hDn8_3
        refine WL_val (dd := some 53) rfl rfl rfl (r_move (v := .tuple #[.int .i64 (id8_3 : Int), .int .i64 er8_3]) rfl) ?_
        refine WL_val (dd := some 58) rfl rfl rfl (r_ext2_0 (h := rfl)) ?_
        refine WL_val (dd := some 59) rfl rfl rfl (r_ext2_1 (h := rfl)) ?_
        refine WL_val (dd := some 13) rfl rfl rfl (r_assign (v := .int .i64 _) rfl) ?_
        refine WL_val (dd := some 14) rfl rfl rfl (r_assign (v := .int .i64 _) rfl) ?_
        refine WL_nil ?_
        refine hK44 _ _ ?_
        clear hK44 K43
        refine WC_seq (fun K47 hK48 => ?_)
        refine WC_seq (fun K49 hK50 => ?_)
        obtain ⟨hQ1, hQ2, hpQ, hlQ⟩ := pe_P hg8_3 hw8_3 hIa 40 (by omega) (by omega)
        replace hIa := hIa.pre hpQ
        refine WC_region ?_
        refine WL_val (dd := some 60) rfl rfl rfl (r_move (v := .int .i64 _) rfl) ?_
        refine WL_val (dd := some 61) rfl rfl rfl (r_lss rfl rfl) ?_
        refine WL_split (dd := some 62) rfl rfl rfl (r_move (v := .bool _) rfl) (fun hs9_2 => ?_) (fun hs9_2 => ?_)
        ·
          try with_reducible replace hs9_2 := of_decide_eq_true hs9_2
          refine WL_skip (dd := some 63) rfl rfl rfl ?_
          refine WL_skip (dd := some 64) rfl rfl rfl ?_
          refine WL_val (dd := some 65) rfl rfl rfl (r_pick_t rfl (v := .bool true) rfl) ?_
          refine WL_nil ?_
          refine hK50 _ _ ?_
          clear hK50 K49
          refine WC_cond_true rfl ?_
          refine WC_seq (fun K51 hK52 => ?_)
          refine WC_region ?_
          refine WL_val (dd := some 66) rfl rfl rfl (r_move (v := .int .i64 _) rfl) ?_
          refine WL_val (dd := some 67) rfl rfl rfl (r_eql rfl rfl) ?_
          refine WL_split (dd := some 68) rfl rfl rfl (r_move (v := .bool _) rfl) (fun hs10_2 => ?_) (fun hs10_2 => ?_)
          ·
            try with_reducible replace hs10_2 := of_decide_eq_true hs10_2
            refine WL_val (dd := some 69) rfl rfl rfl (r_move (v := .int .i64 _) rfl) ?_
            refine WL_val (dd := some 70) rfl rfl rfl (r_eql rfl rfl) ?_
            refine WL_val (dd := some 71) rfl rfl rfl (r_pick_t rfl (v := .bool _) rfl) ?_
            refine WL_split (dd := some 72) rfl rfl rfl (r_move (v := .bool _) rfl) (fun hs10_6 => ?_) (fun hs10_6 => ?_)
            ·
              try with_reducible replace hs10_6 := of_decide_eq_true hs10_6
              refine WL_val (dd := some 73) rfl rfl rfl (r_move (v := .int .i64 _) rfl) ?_
              refine WL_val (dd := some 74) rfl rfl rfl (r_eql rfl rfl) ?_
              refine WL_val (dd := some 75) rfl rfl rfl (r_pick_t rfl (v := .bool _) rfl) ?_
              refine WL_split (dd := some 76) rfl rfl rfl (r_move (v := .bool _) rfl) (fun hs10_10 => ?_) (fun hs10_10 => ?_)
              ·
                try with_reducible replace hs10_10 := of_decide_eq_true hs10_10
                refine WL_val (dd := some 77) rfl rfl rfl (r_move (v := .int .i64 _) rfl) ?_
                refine WL_val (dd := some 78) rfl rfl rfl (r_eql rfl rfl) ?_
                refine WL_val (dd := some 79) rfl rfl rfl (r_pick_t rfl (v := .bool _) rfl) ?_
                refine WL_split (dd := some 80) rfl rfl rfl (r_move (v := .bool _) rfl) (fun hs10_14 => ?_) (fun hs10_14 => ?_)
                ·
                  try with_reducible replace hs10_14 := of_decide_eq_true hs10_14
                  refine WL_call (dd := some 81) rfl rfl rfl (r_call0 tb_c19) (C_drawknifelaw08_knows _) (fun v10_15 W53 hE54 hP10_15 => ?_)
                  have hsz55 := (Below.size hB)
                  replace hB := below_ext hB hE54 (Nat.le_refl _)
                  replace hD := Dia.ext hE54 hD
                  replace hz := hE54.at hz
                  replace hP6_1 := hE54.ow hP6_1
                  clear hE54
                  clear hsz55
                  obtain rfl := hP10_15
                  refine WL_val (dd := some 82) rfl rfl rfl (r_pick_t rfl (v := .bool _) rfl) ?_
                  refine WL_val (dd := some 4) rfl rfl rfl (r_assign (v := .bool _) rfl) ?_
                  refine WL_nil ?_
                  refine hK52 _ _ ?_
                  clear hK52 K51
                  refine WC_ret ?_
                  repeat (first | refine thenQ_ret ?_ | refine blockQ_ret ?_)
                  try clear hK48 K47
                  refine ret_t (v := .bool _) rfl ?_
                  refine ⟨hB, ?_⟩
                  rfl
                ·
                  try with_reducible replace hs10_14 := of_decide_eq_false hs10_14
                  have q1 := hP2 (decide_eq_false (by omega))
                  have q2 := hQ2 (decide_eq_false (by omega))
                  omega
              ·
                try with_reducible replace hs10_10 := of_decide_eq_false hs10_10
                have q1 := hP2 (decide_eq_false (by omega))
                have q2 := hQ2 (decide_eq_false (by omega))
                omega
            ·
              try with_reducible replace hs10_6 := of_decide_eq_false hs10_6
              have q1 := hP2 (decide_eq_false (by omega))
              have q2 := hQ2 (decide_eq_false (by omega))
              omega
          ·
            try with_reducible replace hs10_2 := of_decide_eq_false hs10_2
            have q1 := hP2 (decide_eq_false (by omega))
            have q2 := hQ2 (decide_eq_false (by omega))
            omega
        ·
          try with_reducible replace hs9_2 := of_decide_eq_false hs9_2
          refine WL_val (dd := some 63) rfl rfl rfl (r_move (v := .int .i64 _) rfl) ?_
          refine WL_val (dd := some 64) rfl rfl rfl (r_gtr rfl rfl) ?_
          refine WL_val (dd := some 65) rfl rfl rfl (r_pick_f rfl (v := .bool _) rfl) ?_
          refine WL_nil ?_
          refine hK50 _ _ ?_
          clear hK50 K49
          refine WC_cond (b := _) rfl (fun hc2 => ?_) (fun hc2 => ?_)
          ·
            try with_reducible replace hc2 := of_decide_eq_true hc2
            refine WC_seq (fun K56 hK57 => ?_)
            refine WC_region ?_
            refine WL_val (dd := some 66) rfl rfl rfl (r_move (v := .int .i64 _) rfl) ?_
            refine WL_val (dd := some 67) rfl rfl rfl (r_eql rfl rfl) ?_
            refine WL_split (dd := some 68) rfl rfl rfl (r_move (v := .bool _) rfl) (fun hs10_2 => ?_) (fun hs10_2 => ?_)
            ·
              try with_reducible replace hs10_2 := of_decide_eq_true hs10_2
              refine WL_val (dd := some 69) rfl rfl rfl (r_move (v := .int .i64 _) rfl) ?_
              refine WL_val (dd := some 70) rfl rfl rfl (r_eql rfl rfl) ?_
              refine WL_val (dd := some 71) rfl rfl rfl (r_pick_t rfl (v := .bool _) rfl) ?_
              refine WL_split (dd := some 72) rfl rfl rfl (r_move (v := .bool _) rfl) (fun hs10_6 => ?_) (fun hs10_6 => ?_)
              ·
                try with_reducible replace hs10_6 := of_decide_eq_true hs10_6
                refine WL_val (dd := some 73) rfl rfl rfl (r_move (v := .int .i64 _) rfl) ?_
                refine WL_val (dd := some 74) rfl rfl rfl (r_eql rfl rfl) ?_
                refine WL_val (dd := some 75) rfl rfl rfl (r_pick_t rfl (v := .bool _) rfl) ?_
                refine WL_split (dd := some 76) rfl rfl rfl (r_move (v := .bool _) rfl) (fun hs10_10 => ?_) (fun hs10_10 => ?_)
                ·
                  try with_reducible replace hs10_10 := of_decide_eq_true hs10_10
                  refine WL_val (dd := some 77) rfl rfl rfl (r_move (v := .int .i64 _) rfl) ?_
                  refine WL_val (dd := some 78) rfl rfl rfl (r_eql rfl rfl) ?_
                  refine WL_val (dd := some 79) rfl rfl rfl (r_pick_t rfl (v := .bool _) rfl) ?_
                  refine WL_split (dd := some 80) rfl rfl rfl (r_move (v := .bool _) rfl) (fun hs10_14 => ?_) (fun hs10_14 => ?_)
                  ·
                    try with_reducible replace hs10_14 := of_decide_eq_true hs10_14
                    refine WL_call (dd := some 81) rfl rfl rfl (r_call0 tb_c19) (C_drawknifelaw08_knows _) (fun v10_15 W58 hE59 hP10_15 => ?_)
                    have hsz60 := (Below.size hB)
                    replace hB := below_ext hB hE59 (Nat.le_refl _)
                    replace hD := Dia.ext hE59 hD
                    replace hz := hE59.at hz
                    replace hP6_1 := hE59.ow hP6_1
                    clear hE59
                    clear hsz60
                    obtain rfl := hP10_15
                    refine WL_val (dd := some 82) rfl rfl rfl (r_pick_t rfl (v := .bool _) rfl) ?_
                    refine WL_val (dd := some 4) rfl rfl rfl (r_assign (v := .bool _) rfl) ?_
                    refine WL_nil ?_
                    refine hK57 _ _ ?_
                    clear hK57 K56
                    refine WC_ret ?_
                    repeat (first | refine thenQ_ret ?_ | refine blockQ_ret ?_)
                    try clear hK48 K47
                    refine ret_t (v := .bool _) rfl ?_
                    refine ⟨hB, ?_⟩
                    rfl
                  ·
                    try with_reducible replace hs10_14 := of_decide_eq_false hs10_14
                    have q1 := hP2 (decide_eq_false (by omega))
                    have q2 := hQ2 (decide_eq_false (by omega))
                    omega
                ·
                  try with_reducible replace hs10_10 := of_decide_eq_false hs10_10
                  have q1 := hP2 (decide_eq_false (by omega))
                  have q2 := hQ2 (decide_eq_false (by omega))
                  omega
              ·
                try with_reducible replace hs10_6 := of_decide_eq_false hs10_6
                have q1 := hP2 (decide_eq_false (by omega))
                have q2 := hQ2 (decide_eq_false (by omega))
                omega
            ·
              try with_reducible replace hs10_2 := of_decide_eq_false hs10_2
              have q1 := hP2 (decide_eq_false (by omega))
              have q2 := hQ2 (decide_eq_false (by omega))
              omega
          ·
            try with_reducible replace hc2 := of_decide_eq_false hc2
            refine WC_skip ?_
            refine hK48 _ _ ?_
            clear hK48 K47
            refine WC_seq (fun K61 hK62 => ?_)
            obtain ⟨j, rfl⟩ := Int.eq_ofNat_of_zero_le (show 0 ≤ j by omega)
            have hj : j < 24 := by omega
            obtain ⟨he7_3, hIw⟩ := hP1 (decide_eq_true (by omega))
            obtain ⟨he8_3, hIo⟩ := hQ1 (decide_eq_true (by omega))
            subst he7_3 he8_3
            rw [Int.toNat_natCast] at hIw hIo
            replace hIw := hIw.pre hpQ
            have hl1 := partI_len (ofI f) j true
            have hl2 := partI_len (ofI f) j false
            have hit := ofB_mem hof
            refine WC_region ?_
            refine WL_val (dd := some 15) rfl rfl rfl (r_assign (v := .int .i64 1) rfl) ?_
            refine WL_nil ?_
            refine hK62 _ _ ?_
            clear hK62 K61
            refine WC_seq (fun K63 hK64 => ?_)
            refine WC_seq (fun K65 hK66 => ?_)
            refine WC_region ?_
            refine WL_val (dd := some 16) rfl rfl rfl (r_assign (v := .int .i64 0) rfl) ?_
            refine WL_nil ?_
            refine hK66 _ _ ?_
            clear hK66 K65
            refine WC_block ?_
            refine WC_loop (σ := (Nat)) [15, 16, 83, 84, 85, 86, 87, 88, 89] (fun k => [(16, .int .i64 (k : Int)), (15, .int .i64 ((2 ^ k : Nat) : Int))]) (fun k W => (Below w.heap.size w W) ∧ (Dia 147 150 w.heap.size ba bm 20000 W ns8_3) ∧ (At W bz _ 100) ∧ (OwT encI 1 3 W w.heap.size v6_1 _) ∧ (k ≤ j) ∧ (True)) (fun k => j - k) (0) ⟨rfl, rfl, trivial⟩ ⟨hB, hD, hz, hP6_1, (Nat.zero_le _), trivial⟩ ?_
            clear hB hD hz hP6_1
            rintro k g68 W67 ⟨hB, hD, hz, hP6_1, hk, _⟩ J69 hJ70
            refine WC_seq (fun K71 hK72 => ?_)
            refine WC_seq (fun K73 hK74 => ?_)
            refine WC_region ?_
            refine WL_val (dd := some 83) rfl rfl rfl (r_move (v := .int .i64 _) rfl) ?_
            refine WL_val (dd := some 84) rfl rfl rfl (r_move (v := .int .i64 _) rfl) ?_
            refine WL_val (dd := some 85) rfl rfl rfl (r_lss rfl rfl) ?_
            refine WL_nil ?_
            refine hK74 _ _ ?_
            clear hK74 K73
            refine WC_cond (b := _) rfl (fun hc3 => ?_) (fun hc3 => ?_)
            ·
              try with_reducible replace hc3 := of_decide_eq_true hc3
              refine WC_skip ?_
              refine hK72 _ _ ?_
              clear hK72 K71
              refine WC_seq (fun K75 hK76 => ?_)
              refine WC_block ?_
              have hpl := pow_le24 (show k ≤ 24 by omega)
              have hp0 := Int.natCast_nonneg (2 ^ k)
              refine WC_region ?_
              refine WL_val (dd := some 88) rfl rfl rfl (r_move (v := .int .i64 _) rfl) ?_
              refine WL_val (dd := some 89) rfl rfl rfl (r_mulI rfl rfl (by omega) (by omega)) ?_
              refine WL_val (dd := some 15) rfl rfl rfl (r_assign (v := .int .i64 _) rfl) ?_
              refine WL_nil ?_
              refine hK76 _ _ ?_
              clear hK76 K75
              refine WC_region ?_
              refine WL_val (dd := some 86) rfl rfl rfl (r_move (v := .int .i64 _) rfl) ?_
              refine WL_val (dd := some 87) rfl rfl rfl (r_addI rfl rfl (by omega) (by omega)) ?_
              refine WL_val (dd := some 16) rfl rfl rfl (r_assign (v := .int .i64 _) rfl) ?_
              refine WL_nil ?_
              refine hJ70 _ _ (k + 1) ?_ ?_ ?_ ?_
              · repeat (first | exact agree.mask _ _ _ | refine agree.updo ?_ rfl _ | refine agree.updL ?_ _ rfl | refine agree.maskS rfl ?_)
              · exact ⟨rfl, congrArg (Value.int .i64) (pow_s2 k), trivial⟩
              · exact ⟨hB, hD, hz, hP6_1, (by omega), trivial⟩
              · first | omega | (dsimp only; omega)
            ·
              try with_reducible replace hc3 := of_decide_eq_false hc3
              refine WC_exit ?_
              refine hK64 _ _ ?_
              clear hK72 K71
              clear hJ70 J69
              clear hK64 K63
              refine WC_seq (fun K77 hK78 => ?_)
              obtain rfl : k = j := by omega
              refine WC_region ?_
              refine WL_val (dd := some 91) rfl rfl rfl (r_move (v := .pointer (some ⟨bz, 0, none⟩)) rfl) ?_
              refine WL_val (dd := some 92) rfl rfl rfl (r_move (v := .int .i64 _) rfl) ?_
              refine WL_step (dd := some 93) rfl rfl rfl (Y_lit1 (u := .int .i64 _) rfl tb_el22 tb_zs3 rfl (by decide) (by decide) (fun b16_2 W79 hb80 hE81 hm16_2 => ?_))
              have lo_b16_2 : w.heap.size ≤ b16_2 := hb80 ▸ (Below.size hB)
              have no_v6_1_b16_2 := OwT.neB (b := b16_2) hP6_1 (Nat.le_of_eq hb80.symm)
              clear hb80
              replace hB := below_ext hB hE81 (Nat.le_refl _)
              replace hD := Dia.ext hE81 hD
              replace hz := hE81.at hz
              replace hP6_1 := hE81.ow hP6_1
              clear hE81
              have ho82 := own_lit1 (enc := encI) (a := ((2 ^ k : Nat) : Int)) hm16_2 rfl rfl lo_b16_2
              clear hm16_2
              have hw16_3 := hD.wf
              refine WL_callG (dd := some 94) rfl rfl rfl (r_call2 tb_c32 (v0 := .pointer (some ⟨bz, 0, none⟩)) rfl (v1 := .slice (some ⟨b16_2, 0, none⟩) 1 1) rfl) (C___zdd_Zdd__Of _ _ _ _ _ _ _ [((2 ^ k : Nat) : Int)] _ (Below.size hB) hz hD ho82.sl (show 1 ≤ 1000000 by decide)) (fun v16_3 W83 hP16_3 => ?_)
              obtain ⟨ns16_3, id16_3, er16_3, rfl, hx16_3, hDn16_3, hg16_3⟩ := hP16_3
              replace hB := Below.dx hB (Nat.le_refl _) (Nat.le_refl _) hx16_3
              replace hz := At.dx hD hx16_3 hz (by decide) (by decide)
              replace hP6_1 := OwT.dx hD hx16_3 hP6_1 (by decide) (by decide)
              replace ho82 := OwT.dx hD hx16_3 ho82 (by decide) (by decide)
              replace hD := hDn16_3
              refine WL_val (dd := some 90) rfl rfl rfl (r_move (v := .tuple #[.int .i64 (id16_3 : Int), .int .i64 er16_3]) rfl) ?_
              refine WL_val (dd := some 95) rfl rfl rfl (r_ext2_0 (h := rfl)) ?_
              refine WL_val (dd := some 96) rfl rfl rfl (r_ext2_1 (h := rfl)) ?_
              refine WL_val (dd := some 17) rfl rfl rfl (r_assign (v := .int .i64 _) rfl) ?_
              refine WL_val (dd := some 18) rfl rfl rfl (r_assign (v := .int .i64 _) rfl) ?_
              refine WL_nil ?_
              refine hK78 _ _ ?_
              clear hK78 K77
              refine WC_seq (fun K85 hK86 => ?_)
              obtain ⟨he16_3, hI1, hp16_3, hl16_3⟩ := room_O (pe_ok hg16_3 (one_ok hj)) (one_ok hj) 1 (Nat.le_refl _) (by omega)
              subst he16_3
              replace hIa := hIa.pre hp16_3
              replace hIw := hIw.pre hp16_3
              replace hIo := hIo.pre hp16_3
              have hl3 : (ofI [((2 ^ k : Nat) : Int)]).length ≤ 1 := ofI_len _
              refine WC_region ?_
              refine WL_val (dd := some 98) rfl rfl rfl (r_move (v := .pointer (some ⟨bz, 0, none⟩)) rfl) ?_
              refine WL_val (dd := some 99) rfl rfl rfl (r_move (v := .int .i64 _) rfl) ?_
              refine WL_val (dd := some 100) rfl rfl rfl (r_move (v := .int .i64 _) rfl) ?_
              have hw17_3 := hD.wf
              refine WL_callG (dd := some 101) rfl rfl rfl (r_call3 tb_c23 (v0 := .pointer (some ⟨bz, 0, none⟩)) rfl (v1 := .int .i64 _) rfl (v2 := .int .i64 _) rfl) (C___zdd_Zdd__Join _ _ _ _ _ _ _ _ _ (Below.size hB) hz hD hIw.v hI1.v) (fun v17_3 W87 hP17_3 => ?_)
              obtain ⟨ns17_3, id17_3, er17_3, rfl, hx17_3, hDn17_3, hg17_3⟩ := hP17_3
              replace hB := Below.dx hB (Nat.le_refl _) (Nat.le_refl _) hx17_3
              replace hz := At.dx hD hx17_3 hz (by decide) (by decide)
              replace hP6_1 := OwT.dx hD hx17_3 hP6_1 (by decide) (by decide)
              replace ho82 := OwT.dx hD hx17_3 ho82 (by decide) (by decide)
              replace hD := hDn17_3
              refine WL_val (dd := some 97) rfl rfl rfl (r_move (v := .tuple #[.int .i64 (id17_3 : Int), .int .i64 er17_3]) rfl) ?_
              refine WL_val (dd := some 102) rfl rfl rfl (r_ext2_0 (h := rfl)) ?_
              refine WL_val (dd := some 103) rfl rfl rfl (r_ext2_1 (h := rfl)) ?_
              refine WL_val (dd := some 19) rfl rfl rfl (r_assign (v := .int .i64 _) rfl) ?_
              refine WL_val (dd := some 20) rfl rfl rfl (r_assign (v := .int .i64 _) rfl) ?_
              refine WL_nil ?_
              refine hK86 _ _ ?_
              clear hK86 K85
              refine WC_seq (fun K89 hK90 => ?_)
              obtain ⟨he17_3, hIb, hp17_3, hl17_3⟩ := room_J hg17_3 hw17_3 hIw hI1 40 1 (by omega) hl3 (by omega)
              subst he17_3
              replace hIa := hIa.pre hp17_3
              replace hIw := hIw.pre hp17_3
              replace hIo := hIo.pre hp17_3
              refine WC_region ?_
              refine WL_val (dd := some 105) rfl rfl rfl (r_move (v := .pointer (some ⟨bz, 0, none⟩)) rfl) ?_
              refine WL_val (dd := some 106) rfl rfl rfl (r_move (v := .int .i64 _) rfl) ?_
              refine WL_val (dd := some 107) rfl rfl rfl (r_move (v := .int .i64 _) rfl) ?_
              have hw18_3 := hD.wf
              refine WL_callG (dd := some 108) rfl rfl rfl (r_call3 tb_c33 (v0 := .pointer (some ⟨bz, 0, none⟩)) rfl (v1 := .int .i64 _) rfl (v2 := .int .i64 _) rfl) (C___zdd_Zdd__Union _ _ _ _ _ _ _ _ _ (Below.size hB) hz hD hIo.v hIb.v) (fun v18_3 W91 hP18_3 => ?_)
              obtain ⟨ns18_3, id18_3, er18_3, rfl, hx18_3, hDn18_3, hg18_3⟩ := hP18_3
              replace hB := Below.dx hB (Nat.le_refl _) (Nat.le_refl _) hx18_3
              replace hz := At.dx hD hx18_3 hz (by decide) (by decide)
              replace hP6_1 := OwT.dx hD hx18_3 hP6_1 (by decide) (by decide)
              replace ho82 := OwT.dx hD hx18_3 ho82 (by decide) (by decide)
              replace hD := hDn18_3
              refine WL_val (dd := some 104) rfl rfl rfl (r_move (v := .tuple #[.int .i64 (id18_3 : Int), .int .i64 er18_3]) rfl) ?_
              refine WL_val (dd := some 109) rfl rfl rfl (r_ext2_0 (h := rfl)) ?_
              refine WL_val (dd := some 110) rfl rfl rfl (r_ext2_1 (h := rfl)) ?_
              refine WL_val (dd := some 21) rfl rfl rfl (r_assign (v := .int .i64 _) rfl) ?_
              refine WL_val (dd := some 22) rfl rfl rfl (r_assign (v := .int .i64 _) rfl) ?_
              refine WL_nil ?_
              refine hK90 _ _ ?_
              clear hK90 K89
              refine WC_seq (fun K93 hK94 => ?_)
              obtain ⟨he18_3, hIx, hp18_3, hl18_3⟩ := room_U hg18_3 hw18_3 hIo hIb 40 (by omega) (by omega)
              subst he18_3
              replace hIa := hIa.pre hp18_3
              replace hIw := hIw.pre hp18_3
              replace hIo := hIo.pre hp18_3
              rw [part_back (inc_ofI f) (fun x hx => (hit x hx).1)] at hIx
              have hw19 := hD.wf
              refine WC_region ?_
              refine WL_val (dd := some 111) rfl rfl rfl (r_move (v := .pointer (some ⟨bz, 0, none⟩)) rfl) ?_
              refine WL_val (dd := some 112) rfl rfl rfl (r_move (v := .int .i64 _) rfl) ?_
              refine WL_val (dd := some 113) rfl rfl rfl (r_move (v := .int .i64 _) rfl) ?_
              refine WL_call (dd := some 114) rfl rfl rfl (r_call3 tb_c25 (v0 := .pointer (some ⟨bz, 0, none⟩)) rfl (v1 := .int .i64 _) rfl (v2 := .int .i64 _) rfl) (C_drawknifelaw08_list _ _ _ _ _ _ _ (partI (ofI f) k true) _ hz hD hIw (by omega)) (fun v19_3 W95 hE96 hP19_3 => ?_)
              have hlt97 := OwT.lt2 hP6_1
              have hlt98 := OwT.lt2 ho82
              have hsz99 := (Below.size hB)
              replace hB := below_ext hB hE96 (Nat.le_refl _)
              replace hD := Dia.ext hE96 hD
              replace hz := hE96.at hz
              replace hP6_1 := hE96.ow hP6_1
              replace ho82 := hE96.ow ho82
              clear hE96
              obtain ⟨hP19_3, hty19_3⟩ := hP19_3
              clear hsz99
              refine WL_val (dd := some 115) rfl rfl rfl (r_move (v := v6_1) rfl) ?_
              refine WL_val (dd := some 116) rfl rfl rfl (r_move (v := .int .i64 _) rfl) ?_
              refine WL_call (dd := some 117) rfl rfl rfl (r_call3 tb_c42 (v0 := v6_1) rfl (v1 := .int .i64 _) rfl (v2 := .bool true) rfl) (C_drawkniferef08_Part _ _ _ _ _ hP6_1.sl (by first | assumption | omega) (by first | assumption | omega) (by first | assumption | omega)) (fun v19_6 W100 hE101 hP19_6 => ?_)
              have hlt102 := OwT.lt2 hP6_1
              have hlt103 := OwT.lt2 ho82
              have hsz104 := (Below.size hB)
              replace hB := below_ext hB hE101 (Nat.le_refl _)
              replace hD := Dia.ext hE101 hD
              replace hz := hE101.at hz
              replace hP6_1 := hE101.ow hP6_1
              replace ho82 := hE101.ow ho82
              replace hP19_3 := hE101.slT hP19_3
              replace hty19_3 := TyS.ext hE101 hty19_3
              clear hE101
              have hap105 := Apart.new hlt102 hP19_6
              have hap106 := Apart.new hlt103 hP19_6
              replace hP19_6 := OwT.mono hP19_6 hsz104
              clear hsz104
              refine WL_call (dd := some 118) rfl rfl rfl (r_call2 tb_c24 (v0 := v19_3) rfl (v1 := v19_6) rfl) (C_drawkniferef08_Same _ _ _ _ _ hP19_3 hP19_6.sl (by first | assumption | omega) (by first | assumption | omega)) (fun v19_7 W107 hE108 hP19_7 => ?_)
              have hsz109 := (Below.size hB)
              replace hB := below_ext hB hE108 (Nat.le_refl _)
              replace hD := Dia.ext hE108 hD
              replace hz := hE108.at hz
              replace hP6_1 := hE108.ow hP6_1
              replace ho82 := hE108.ow ho82
              replace hP19_3 := hE108.slT hP19_3
              replace hty19_3 := TyS.ext hE108 hty19_3
              replace hP19_6 := hE108.ow hP19_6
              clear hE108
              clear hsz109
              obtain rfl := hP19_7
              refine WL_split (dd := some 119) rfl rfl rfl (r_move (v := .bool _) rfl) (fun hs19_8 => ?_) (fun hs19_8 => ?_)
              ·
                try with_reducible replace hs19_8 := of_decide_eq_true hs19_8
                refine WL_val (dd := some 120) rfl rfl rfl (r_move (v := .pointer (some ⟨bz, 0, none⟩)) rfl) ?_
                refine WL_val (dd := some 121) rfl rfl rfl (r_move (v := .int .i64 _) rfl) ?_
                refine WL_val (dd := some 122) rfl rfl rfl (r_move (v := .int .i64 _) rfl) ?_
                refine WL_call (dd := some 123) rfl rfl rfl (r_call3 tb_c25 (v0 := .pointer (some ⟨bz, 0, none⟩)) rfl (v1 := .int .i64 _) rfl (v2 := .int .i64 _) rfl) (C_drawknifelaw08_list _ _ _ _ _ _ _ (partI (ofI f) k false) _ hz hD hIo (by omega)) (fun v19_12 W110 hE111 hP19_12 => ?_)
                have hlt112 := OwT.lt2 hP6_1
                have hlt113 := OwT.lt2 ho82
                have hlt114 := OwT.lt2 hP19_6
                have hsz115 := (Below.size hB)
                replace hB := below_ext hB hE111 (Nat.le_refl _)
                replace hD := Dia.ext hE111 hD
                replace hz := hE111.at hz
                replace hP6_1 := hE111.ow hP6_1
                replace ho82 := hE111.ow ho82
                replace hP19_3 := hE111.slT hP19_3
                replace hty19_3 := TyS.ext hE111 hty19_3
                replace hP19_6 := hE111.ow hP19_6
                clear hE111
                obtain ⟨hP19_12, hty19_12⟩ := hP19_12
                clear hsz115
                refine WL_val (dd := some 124) rfl rfl rfl (r_move (v := v6_1) rfl) ?_
                refine WL_val (dd := some 125) rfl rfl rfl (r_move (v := .int .i64 _) rfl) ?_
                refine WL_call (dd := some 126) rfl rfl rfl (r_call3 tb_c42 (v0 := v6_1) rfl (v1 := .int .i64 _) rfl (v2 := .bool false) rfl) (C_drawkniferef08_Part _ _ _ _ _ hP6_1.sl (by first | assumption | omega) (by first | assumption | omega) (by first | assumption | omega)) (fun v19_15 W116 hE117 hP19_15 => ?_)
                have hlt118 := OwT.lt2 hP6_1
                have hlt119 := OwT.lt2 ho82
                have hlt120 := OwT.lt2 hP19_6
                have hsz121 := (Below.size hB)
                replace hB := below_ext hB hE117 (Nat.le_refl _)
                replace hD := Dia.ext hE117 hD
                replace hz := hE117.at hz
                replace hP6_1 := hE117.ow hP6_1
                replace ho82 := hE117.ow ho82
                replace hP19_3 := hE117.slT hP19_3
                replace hty19_3 := TyS.ext hE117 hty19_3
                replace hP19_6 := hE117.ow hP19_6
                replace hP19_12 := hE117.slT hP19_12
                replace hty19_12 := TyS.ext hE117 hty19_12
                clear hE117
                have hap122 := Apart.new hlt118 hP19_15
                have hap123 := Apart.new hlt119 hP19_15
                have hap124 := Apart.new hlt120 hP19_15
                replace hP19_15 := OwT.mono hP19_15 hsz121
                clear hsz121
                refine WL_call (dd := some 127) rfl rfl rfl (r_call2 tb_c24 (v0 := v19_12) rfl (v1 := v19_15) rfl) (C_drawkniferef08_Same _ _ _ _ _ hP19_12 hP19_15.sl (by first | assumption | omega) (by first | assumption | omega)) (fun v19_16 W125 hE126 hP19_16 => ?_)
                have hsz127 := (Below.size hB)
                replace hB := below_ext hB hE126 (Nat.le_refl _)
                replace hD := Dia.ext hE126 hD
                replace hz := hE126.at hz
                replace hP6_1 := hE126.ow hP6_1
                replace ho82 := hE126.ow ho82
                replace hP19_3 := hE126.slT hP19_3
                replace hty19_3 := TyS.ext hE126 hty19_3
                replace hP19_6 := hE126.ow hP19_6
                replace hP19_12 := hE126.slT hP19_12
                replace hty19_12 := TyS.ext hE126 hty19_12
                replace hP19_15 := hE126.ow hP19_15
                clear hE126
                clear hsz127
                obtain rfl := hP19_16
                refine WL_val (dd := some 128) rfl rfl rfl (r_pick_t rfl (v := .bool _) rfl) ?_
                refine WL_split (dd := some 129) rfl rfl rfl (r_move (v := .bool _) rfl) (fun hs19_18 => ?_) (fun hs19_18 => ?_)
                ·
                  try with_reducible replace hs19_18 := of_decide_eq_true hs19_18
                  refine WL_val (dd := some 130) rfl rfl rfl (r_move (v := .int .i64 _) rfl) ?_
                  refine WL_val (dd := some 131) rfl rfl rfl (r_move (v := .int .i64 _) rfl) ?_
                  refine WL_val (dd := some 132) rfl rfl rfl (r_eql rfl rfl) ?_
                  refine WL_val (dd := some 133) rfl rfl rfl (r_pick_t rfl (v := .bool _) rfl) ?_
                  refine WL_split (dd := some 134) rfl rfl rfl (r_move (v := .bool _) rfl) (fun hs19_23 => ?_) (fun hs19_23 => ?_)
                  ·
                    try with_reducible replace hs19_23 := of_decide_eq_true hs19_23
                    refine WL_val (dd := some 135) rfl rfl rfl (r_move (v := .int .i64 _) rfl) ?_
                    refine WL_val (dd := some 136) rfl rfl rfl (r_eql rfl rfl) ?_
                    refine WL_val (dd := some 137) rfl rfl rfl (r_pick_t rfl (v := .bool _) rfl) ?_
                    refine WL_split (dd := some 138) rfl rfl rfl (r_move (v := .bool _) rfl) (fun hs19_27 => ?_) (fun hs19_27 => ?_)
                    ·
                      try with_reducible replace hs19_27 := of_decide_eq_true hs19_27
                      refine WL_call (dd := some 139) rfl rfl rfl (r_call0 tb_c19) (C_drawknifelaw08_knows _) (fun v19_28 W128 hE129 hP19_28 => ?_)
                      have hsz130 := (Below.size hB)
                      replace hB := below_ext hB hE129 (Nat.le_refl _)
                      replace hD := Dia.ext hE129 hD
                      replace hz := hE129.at hz
                      replace hP6_1 := hE129.ow hP6_1
                      replace ho82 := hE129.ow ho82
                      replace hP19_3 := hE129.slT hP19_3
                      replace hty19_3 := TyS.ext hE129 hty19_3
                      replace hP19_6 := hE129.ow hP19_6
                      replace hP19_12 := hE129.slT hP19_12
                      replace hty19_12 := TyS.ext hE129 hty19_12
                      replace hP19_15 := hE129.ow hP19_15
                      clear hE129
                      clear hsz130
                      obtain rfl := hP19_28
                      refine WL_val (dd := some 140) rfl rfl rfl (r_pick_t rfl (v := .bool _) rfl) ?_
                      refine WL_val (dd := some 4) rfl rfl rfl (r_assign (v := .bool _) rfl) ?_
                      refine WL_nil ?_
                      refine hK94 _ _ ?_
                      clear hK94 K93
                      refine WC_ret ?_
                      repeat (first | refine thenQ_ret ?_ | refine blockQ_ret ?_)
                      refine ret_t (v := .bool _) rfl ?_
                      refine ⟨hB, ?_⟩
                      rfl
                    ·
                      try with_reducible replace hs19_27 := of_decide_eq_false hs19_27
                      exact absurd rfl hs19_27
                  ·
                    try with_reducible replace hs19_23 := of_decide_eq_false hs19_23
                    exact absurd (hIx.eq hIa hw19 rfl) hs19_23
                ·
                  try with_reducible replace hs19_18 := of_decide_eq_false hs19_18
                  exact absurd rfl hs19_18
              ·
                try with_reducible replace hs19_8 := of_decide_eq_false hs19_8
                exact absurd rfl hs19_8

end Go.Proofs.Ytpamgfbecgjjeaa
