/- The walks of package reduce. The walk of a column left out. What a deed with memory of its own leaves as it was. No program in it. -/
import Derived.Test.YteimkklmmanncaaGreatMx
namespace Go.Proofs.YteimkklmmanncaaGreat
set_option linter.unusedVariables false
set_option linter.unusedSimpArgs false
section
open Go Go.RowKit
theorem Ey : dC Tryz.prog 110 = true := by kernel_rfl
theorem KF : dC Tryz.prog 109 = true := by kernel_rfl
theorem wC : dC Tryz.prog 72 = true := by kernel_rfl
theorem tN : eL Tryz.prog 3 = some (.int .i64 0) := by kernel_rfl
theorem yE : dC Tryz.prog 108 = true := by kernel_rfl
theorem Ek : dC Tryz.prog 112 = true := by kernel_rfl
theorem Ev : dC Tryz.prog 111 = true := by kernel_rfl
theorem sc (xr : Value) (r : List Int) (c : Int) (w : World) (hr : dM d9 1 w xr r) (hrb : r.length ≤ 9223372036854775807) :
    Fn Tryz.prog 110 #[xr, .int .i64 c] w fun v w' => v = .bool (decide (c ∈ r)) := by
 refine dq (n := 17) Tryz.func110 rfl rfl (Nat.le_of_ble_eq_true rfl) ?_
 have hB : Below w.heap.size w w := Below.refl _ _
 refine Zr <| Zw (.bool false) rfl <| cT <| cY fun K3 b => Zr <| Zw xr rfl <| Zv (dA (v := xr) rfl (Below.slT hB hr) du) <| Zw (.int .i64 0) rfl <| cT <| c7 ?_
 refine dw (σ := (Nat)) [4, 6, 9, 10, 11, 12, 13, 14, 15, 16] (fun k => [(9, .int .i64 (k : Int))]) (fun k W => (Below w.heap.size w W) ∧ (k ≤ r.length) ∧ (∀ q, q < k → ¬ r.getD q 0 = c) ∧ (True)) (fun k => r.length - k) (0) ⟨rfl, trivial⟩ ⟨hB, (Nat.zero_le _), ff, trivial⟩ ?_
 clear hB
 rintro k g8 W7 ⟨hB, hk, hq, _⟩ J9 d
 refine Zr <| Zv (dL rfl rfl) <| cT <| cY fun h e => ZQ rfl (fun f => ?_) fun f => ?_
 refine c9 <| e _ _ <| cY fun i g => c7 <| Zr <| Zv (dJ (v := xr) rfl (Below.slT hB hr) rfl du Om Om) <| Zv (dk (v := .int .i64 _) rfl dB (dM.cell (Below.slT hB hr) eD 0 Om Om 0 rfl)) <| Zi rfl <| cT <| Zr <| Zi rfl <| Zi rfl <| Zv (eB rfl rfl) <| cT ?_
 refine ZQ rfl (fun a => ?_) fun a => ?_
 refine Zr <| Zw (.bool true) rfl <| cT <| Zt <| dE (v := .bool true) rfl ⟨hB, ?_⟩
 first | exact GY (k := k) (by omega) a | exact GN (by omega) hq
 refine c9 <| g _ _ <| cZ <| Zv (dp rfl rfl Om Om) <| Zi rfl <| cT ?_
 exact d _ _ (k + 1) Za ⟨rfl, trivial⟩ ⟨hB, Om, (ey hq a), trivial⟩ Zo
 refine dr <| b _ _ <| Zr <| Zw (.bool false) rfl <| cT <| Zt <| dE (v := .bool false) rfl ⟨hB, ?_⟩
 first | exact GY (k := k) (by omega) a | exact GN (by omega) hq
theorem oU (xa xb : Value) (a b : List Int) (w : World) (ha : dM d9 1 w xa a) (hb : dM d9 1 w xb b) (hal : a.length ≤ 9223372036854775807) (hbl : b.length ≤ 9223372036854775807) :
    Fn Tryz.prog 111 #[xa, xb] w fun v w' => v = .bool (zq a b) := by
 refine dq (n := 18) Tryz.func111 rfl rfl (Nat.le_of_ble_eq_true rfl) ?_
 have hB : Below w.heap.size w w := Below.refl _ _
 refine Zr <| Zw (.bool false) rfl <| cT <| cY fun K3 d => Zr <| Zw xa rfl <| Zv (dA (v := xa) rfl (Below.slT hB ha) du) <| Zw (.int .i64 0) rfl <| cT <| c7 ?_
 refine dw (σ := (Nat)) [4, 6, 9, 10, 11, 12, 13, 14, 15, 16, 17] (fun k => [(9, .int .i64 (k : Int))]) (fun k W => (Below w.heap.size w W) ∧ (k ≤ a.length) ∧ (∀ q, q < k → (!decide (a.getD q 0 ∈ b)) = false) ∧ (True)) (fun k => a.length - k) (0) ⟨rfl, trivial⟩ ⟨hB, (Nat.zero_le _), ff, trivial⟩ ?_
 clear hB
 rintro k g8 W7 ⟨hB, hk, hq, _⟩ J9 e
 refine Zr <| Zv (dL rfl rfl) <| cT <| cY fun l f => ZQ rfl (fun g => ?_) fun g => ?_
 refine c9 <| f _ _ <| cY fun m h => c7 <| Zr <| Zv (dJ (v := xa) rfl (Below.slT hB ha) rfl du Om Om) <| Zv (dk (v := .int .i64 _) rfl dB (dM.cell (Below.slT hB ha) eD 0 Om Om 0 rfl)) <| Zi rfl <| cT <| Zr <| Zw xb rfl <| Zi rfl <| ZC Ey (sc _ _ _ _ (Below.slT hB hb) (by first | assumption | omega)) rfl fun o p i j => ?_
 replace hB := Ze hB i
 obtain rfl := j
 refine Zv (fy rfl) <| cT <| ZQ rfl (fun c => ?_) fun c => ?_
 refine Zr <| Zw (.bool false) rfl <| cT <| Zt <| dE (v := .bool false) rfl ⟨hB, ?_⟩
 first | exact Md (k := k) (by omega) c | exact Mk (by omega) hq
 refine c9 <| h _ _ <| cZ <| Zv (dp rfl rfl Om Om) <| Zi rfl <| cT ?_
 exact e _ _ (k + 1) Za ⟨rfl, trivial⟩ ⟨hB, Om, (ey hq c), trivial⟩ Zo
 refine dr <| d _ _ <| Zr <| Zw (.bool true) rfl <| cT <| Zt <| dE (v := .bool true) rfl ⟨hB, ?_⟩
 first | exact Md (k := k) (by omega) c | exact Mk (by omega) hq
theorem t5 (k : Int) (xr : Value) (r : List Int) (c : Int) (bx : Nat) (w : World) (hx : At w bx #[.int .i64 c] 3) (hr : dM d9 1 w xr r) (hrb : r.length ≤ 1000000) :
    Fn Tryz.prog 109 #[.int .i64 k, xr, .pointer (some ⟨bx, 0, none⟩)] w fun v w' => v = .bool (!decide (c ∈ r)) := by
 refine dq (n := 10) Tryz.func109 rfl rfl (Nat.le_of_ble_eq_true rfl) ?_
 have hB : Below w.heap.size w w := Below.refl _ _
 refine Zr <| Zw (.bool false) rfl <| cT <| Zr <| Zw xr rfl <| Zl rfl dB (Below.atI hB hx) rfl <| ZC Ey (sc _ _ _ _ (Below.slT hB hr) (by first | assumption | omega)) rfl fun d W5 a b => ?_
 replace hB := Ze hB a
 obtain rfl := b
 refine Zv (fy rfl) <| Zb rfl <| cT <| Zt <| dE (v := .bool _) rfl ⟨hB, ?_⟩
 rfl
theorem oM (k : Int) (xr : Value) (i : Int) (bx : Nat) (w : World) (hx : At w bx #[.int .i64 i] 3) :
    Fn Tryz.prog 112 #[.int .i64 k, xr, .pointer (some ⟨bx, 0, none⟩)] w fun v w' => v = .bool (decide (¬ k = i)) := by
 refine dq (n := 9) Tryz.func112 rfl rfl (Nat.le_of_ble_eq_true rfl) ?_
 have hB : Below w.heap.size w w := Below.refl _ _
 refine Zr <| Zw (.bool false) rfl <| cT <| Zr <| Zi rfl <| Zl rfl dB (Below.atI hB hx) rfl <| Zv (f7 rfl rfl) <| Zb rfl <| cT <| Zt <| dE (v := .bool _) rfl ⟨hB, ?_⟩
 rfl
theorem nm (n : Int) (rv : Value) (vs : List Value) (L : ML) (q bx : Nat) (p : Nat → Bool) (w : World) (hrv : dh encV 1 80 w 0 rv vs) (hLO : LO 3 0 w vs L) (hLb : L.length ≤ 1000000) (hq : dC Tryz.prog q = true) (hdo : ∀ (k : Nat) (xr : Value) (W : World), k < L.length → Below w.heap.size w W → dM d9 1 W xr (L.getD k []) → Fn Tryz.prog q #[.int .i64 (k : Int), xr, .pointer (some ⟨bx, 0, none⟩)] W fun v w' => v = .bool (p k)) :
    Fn Tryz.prog 108 #[.agg #[.int .i64 n, rv], .func (.func q) #[] #[.pointer (some ⟨bx, 0, none⟩)]] w fun v w' => ∃ rv', v = .agg #[.int .i64 n, rv'] ∧ dh encV 1 80 w' w.heap.size rv' (rg undef p vs L.length) := by
 refine dq (n := 31) Tryz.func108 rfl rfl (Nat.le_of_ble_eq_true rfl) ?_
 have hB : Below w.heap.size w w := Below.refl _ _
 have hll := hLO.ll
 have hvl := hll.len
 refine Zr <| Zy (dU (c := #[_, _]) rfl rfl fun M W3 D N a => ?_)
 have aa := ZO D hB
 clear D
 replace hB := Ze hB N
 refine Zy (dt ia rfl fun O W6 y E d => ?_)
 have P := ZO y hB
 have Q := Zn y a.lt
 clear y
 replace hB := Ze hB E
 replace a := E.at a
 refine cT <| Zr <| Zf rfl iy <| Zl rfl dB a rfl <| Zv (kn (h0 := rfl) (k0 := rfl) (c0_0 := .int .i64 _)) <| Zy (dt ia rfl fun R ab l z f => ?_)
 have F := ZO l hB
 have G := Zn l a.lt
 have A := Zn l d.lt
 clear l
 replace hB := Ze hB z
 replace a := z.at a
 replace d := z.at d
 refine Zy (dg rfl rfl dH rfl f rfl rfl fun ac B S => ?_)
 replace hB := Zg hB B F
 replace a := At.grownNe a G B
 replace d := At.grownNe d A B
 replace f := S
 refine cT <| cY fun ad T => Zr <| Zf rfl eq <| ZL rv rfl fk a rfl <| Zv (dA (v := rv) rfl ((Below.ow hB hrv)).sl eb) <| Zw (.int .i64 0) rfl <| cT <| c7 ?_
 refine dw (σ := (Nat) × (Value)) [6, 7, 14, 15, 16, 17, 18, 19, 20, 21, 22, 23, 24, 25, 26, 27, 28, 29] (fun (k, v0) => [(14, .int .i64 (k : Int))]) (fun sg W => match sg with | (k, v0) => (Below w.heap.size w W) ∧ (At W M _ 77) ∧ (At W O _ 77) ∧ (At W R #[.int .i64 n, v0] 77) ∧ (dh encV 1 80 W w.heap.size v0 (rg undef p vs k)) ∧ (k ≤ L.length) ∧ (True)) (fun (k, v0) => L.length - k) ((0, .slice none 0 0)) ⟨rfl, trivial⟩ ⟨hB, a, d, f, dh.nil, (Nat.zero_le _), trivial⟩ ?_
 clear hB a d f
 rintro ⟨k, v0⟩ ae af ⟨hB, a, d, f, ho, hk, _⟩ ag H
 refine Zr <| Zv (dL rfl rfl) <| cT <| cY fun ah U => ZQ rfl (fun V => ?_) fun V => ?_
 refine c9 <| U _ _ <| cY fun ai I => c7 <| Zr <| Zi rfl <| Zv (dJ (v := rv) rfl ((Below.ow hB hrv)).sl rfl eb Om Om) <| Zv (dk (v := (vs.getD k undef)) rfl iO (dM.cell ((Below.ow hB hrv)).sl fW undef Om Om 0 rfl)) ?_
 have m : dM d9 1 w ((vs.getD k undef)) (L.getD k []) := hll.get k (by omega)
 refine Zi rfl <| Zw (vs.getD k undef) rfl <| cT ?_
 have hkl := zy undef p vs k
 refine Zr <| Zw (.func (.func q) #[] #[.pointer (some ⟨bx, 0, none⟩)]) rfl <| Zi rfl <| Zw (vs.getD k undef) rfl ?_
 refine qp (dd := some 22) rfl rfl rfl (jV (q := q) (first := #[]) (cap := #[.pointer (some ⟨bx, 0, none⟩)]) (vs := #[.int .i64 _, (vs.getD k undef), .pointer (some ⟨bx, 0, none⟩)]) rfl hq (by simp only [List.map_toArray, List.map_cons, List.map_nil, List.append_toArray, List.nil_append, List.cons_append]; rfl)) (hdo k _ _ Om hB (Below.slT hB m)) (fun aj ak h X => ?_)
 replace hB := Ze hB h
 replace a := h.at a
 replace d := h.at d
 replace f := h.at f
 replace ho := h.ow ho
 obtain rfl := X
 refine cT <| ZQ rfl (fun i => ?_) fun i => ?_
 refine cZ <| Zf rfl eq <| ZL v0 rfl fk f rfl <| Zw (vs.getD k undef) rfl <| Zy (fc (u := (vs.getD k undef)) rfl eb jb (by rw [dM.cells (Below.slT hB m)]; rfl) Dd Dd fun C al o j J => ?_)
 have ao := ZO o hB
 have ap := dh.neB (b := C) (Below.ow hB hrv) (Nat.le_of_eq o.symm)
 have aq := dh.neB (b := C) ho (Nat.le_of_eq o.symm)
 clear o
 replace hB := Ze hB j
 replace a := j.at a
 replace d := j.at d
 replace f := j.at f
 replace ho := j.ow ho
 rw [dM.cells (Below.slT hB m)] at J
 refine Zy (ez (v := v0) (v2 := .slice (some ⟨C, 0, none⟩) 1 1) rfl rfl eb jb Dd ho (fG J rfl) (by simp only [List.all_cons, List.all_nil, dM.one (Below.slT hB m), Bool.and_true]) (by have := Below.size hB; omega) (by first | omega | (simp; omega)) (by first | omega | (simp; omega)) fun K ar r g => ?_)
 replace g := dh.snoc (enc := encV) (x := (vs.getD k undef)) rfl rfl rfl rfl g
 replace hB := ZG hB r ho
 replace a := At.grownOw a ho r Dd
 replace d := At.grownOw d ho r Dd
 replace f := At.grownOw f ho r Dd
 clear ho
 refine Zf rfl eq <| Zy (eC (v := K) rfl rfl fk (dM.one g.sl) f (by simp) fun au s Y => ?_)
 replace hB := Zg hB s F
 replace a := At.grownNe a G s
 replace d := At.grownNe d A s
 replace g := dh.grownAt g f s Dd
 replace f := Y
 replace f : At _ _ #[_, _] _ := f
 refine cT <| I _ _ <| cZ <| Zv (dp rfl rfl Om Om) <| Zi rfl <| cT ?_
 exact H _ _ ((k + 1, K)) Za ⟨rfl, trivial⟩ ⟨hB, a, d, (by exact f), (by first | (rw [← EI i]; exact g) | (rw [← Fc i]; exact g)), Om, trivial⟩ (by show L.length - (k + 1) < L.length - k; omega)
 refine c9 <| I _ _ <| cZ <| Zv (dp rfl rfl Om Om) <| Zi rfl <| cT ?_
 exact H _ _ ((k + 1, v0)) Za ⟨rfl, trivial⟩ ⟨hB, a, d, (by exact f), (by first | (rw [← EI i]; exact ho) | (rw [← Fc i]; exact ho)), Om, trivial⟩ (by show L.length - (k + 1) < L.length - k; omega)
 refine dr <| T _ _ <| Zr <| Zv (db rfl dH rfl f) <| Zy (dg rfl rfl dH rfl d rfl (by exact ib (dh.one ho)) fun av t Z => ?_)
 replace hB := Zg hB t P
 replace a := At.grownNe a Q t
 replace f := At.grownNe f (Ne.symm A) t
 replace ho := dh.grownAt ho d t Dd
 replace d := Z
 refine cT <| Zt <| jD rfl dH d rfl ⟨hB, ?_⟩
 exact ⟨_, rfl, (by have e : k = L.length := Om; rw [e] at ho; exact ho)⟩
theorem wZ (n : Int) (rv : Value) (vs : List Value) (L : ML) (w : World) (hrv : dh encV 1 80 w 0 rv vs) (hLO : LO 3 0 w vs L) (hr : dX n L = true) (hLb : L.length ≤ 1000000) :
    Fn Tryz.prog 74 #[.agg #[.int .i64 n, rv]] w fun v w' => ∃ rv' vs' L' c b, v = .tuple #[.agg #[.int .i64 n, rv'], .int .i64 c, .bool b] ∧ dh encV 1 80 w' 0 rv' vs' ∧ LO 3 0 w' vs' L' ∧ Qj L L' c b := by
 refine dq (n := 31) Tryz.func74 rfl rfl (Nat.le_of_ble_eq_true rfl) ?_
 have hB : Below w.heap.size w w := Below.refl _ _
 have hll := hLO.ll
 have hvl := hll.len
 refine Zr <| Zy (dU (c := #[_, _]) rfl rfl fun E W3 y F d => ?_)
 have Y := ZO y hB
 clear y
 replace hB := Ze hB F
 refine Zy (dt ia rfl fun l W6 o z e => ?_)
 have A := ZO o hB
 have p := Zn o d.lt
 clear o
 replace hB := Ze hB z
 replace d := z.at d
 refine Zw (.int .i64 0) rfl <| Zw (.bool false) rfl <| cT <| cY fun K9 G => Zr <| Zv (db rfl dH rfl d) <| ZC (vs := [.agg #[_, _]]) wC (jE n _ _ L _ ((Below.ow hB hrv)).sl (LO.mono (LO.below hB hLO) (Nat.zero_le _)).ll hLb (fun i => Nat.le_trans (fJ hr i) Dd)) rfl fun Z aa q H => ?_
 replace hB := Ze hB q
 replace d := q.at d
 replace e := q.at e
 obtain rfl := H
 refine Zv (fy rfl) <| cT <| ZQ rfl (fun B => ?_) fun B => ?_
 exact absurd (jc B) (by rw [hr]; decide)
 refine c9 <| G _ _ <| cY fun ab I => Zr <| Zf rfl eq <| ZL rv rfl fk d rfl <| Zv (dA (v := rv) rfl ((Below.ow hB hrv)).sl eb) <| Zw (.int .i64 0) rfl <| cT <| c7 ?_
 refine dw (σ := (Nat)) [3, 4, 6, 7, 15, 16, 17, 18, 19, 20, 21, 22, 23, 24, 25, 26, 27, 28, 29] (fun k0 => [(15, .int .i64 (k0 : Int))]) (fun k0 W => (Below w.heap.size w W) ∧ (At W E _ 77) ∧ (At W l _ 77) ∧ (k0 ≤ L.length) ∧ (True)) (fun k0 => L.length - k0) (0) ⟨rfl, trivial⟩ ⟨hB, d, e, (Nat.zero_le _), trivial⟩ ?_
 clear hB d e
 rintro k0 ac ad ⟨hB, d, e, hk, _⟩ ae J
 refine Zr <| Zv (dL rfl rfl) <| cT <| cY fun af K => ZQ rfl (fun M => ?_) fun M => ?_
 refine c9 <| K _ _ <| cY fun ag N => c7 <| Zr <| Zv (dJ (v := rv) rfl ((Below.ow hB hrv)).sl rfl eb Om Om) <| Zv (dk (v := (vs.getD k0 undef)) rfl iO (dM.cell ((Below.ow hB hrv)).sl fW undef Om Om 0 rfl)) ?_
 have r : dM d9 1 w ((vs.getD k0 undef)) (L.getD k0 []) := hll.get k0 (by omega)
 refine Zw (vs.getD k0 undef) rfl <| cT <| Zr <| Zw (vs.getD k0 undef) rfl <| Zv (dA (v := (vs.getD k0 undef)) rfl (Below.slT hB r) du) <| Zv (eB rfl rfl) <| cT <| ZQ rfl (fun s => ?_) fun s => ?_
 refine Zr <| Zw (vs.getD k0 undef) rfl <| Zv (dJ (j := 0) (v := (vs.getD k0 undef)) rfl (Below.slT hB r) rfl du Om Om) <| Zv (dk (v := .int .i64 _) rfl dB (dM.cell (j := 0) (Below.slT hB r) eD 0 Om Om 0 rfl)) <| Zy (dt tN rfl fun t ah C u f => ?_)
 have O := ZO C hB
 clear C
 replace hB := Ze hB u
 replace d := u.at d
 replace e := u.at e
 refine Zy (eC (v := .int .i64 _) rfl rfl dB rfl f Dd fun ai x P => ?_)
 replace hB := Zg hB x O
 replace d := At.grownAt d f x Dd
 replace e := At.grownAt e f x Dd
 replace f := P
 replace f : At _ _ #[_] _ := f
 refine cT <| Zd (fun a b => a.grownBy b (some l)) fun Q m => ?_
 replace hB := Ze hB m
 replace d := m.at d
 replace e := m.at e
 replace f := m.at f
 have R := e
 have hS := World.grownBy.refl Q (some l)
 refine Tk 0 rfl (fun _ hq => db rfl dH rfl (At.grownNe d p hq)) hS <| Tk 1 rfl (fun _ _ => gV (vs := #[.pointer (some ⟨t, 0, none⟩)]) (by simp only [List.map_toArray, List.map_cons, List.map_nil]; rfl)) hS <| Tk 3 rfl (fun _ hq => dk (v := .int .i64 _) rfl dB (At.cell (At.grownAt f R hq Dd) rfl)) hS <| To 2 rfl (TC (vs := [.agg #[_, _], .func (.func 109) #[] #[.pointer (some ⟨t, 0, none⟩)]]) yE (nm n _ vs L 109 t (fun k => !decide (((L.getD k0 []).getD 0 0) ∈ L.getD k [])) _ (dh.mono (Below.ow hB hrv) (Nat.zero_le _)) (LO.mono (LO.below hB hLO) (Nat.zero_le _)) hLb KF (fun k2 xr W h2 hB2 S => t5 _ _ _ _ _ _ (Below.atI hB2 f) S (by have := fJ hr k2; omega))) rfl fun aj ak g T => ⟨.inl (dD hS (eo.grown g (some l))), ?_⟩)
 have U := (Below.size hB)
 replace hB := Ze hB g
 replace d := g.at d
 replace e := g.at e
 replace f := g.at f
 replace hS := dD hS (eo.grown g (some l))
 obtain ⟨rv8_2, rfl, hk8_2⟩ := T
 replace hk8_2 := dh.mono hk8_2 U
 refine To 4 rfl (dg rfl rfl dH rfl e rfl (by exact ib (dh.one hk8_2)) fun al h V => ⟨.inl (dD hS h), ?_⟩)
 replace hS := dD hS h
 replace hB := Zg hB h A
 replace d := At.grownNe d p h
 replace f := At.grownAt f e h Dd
 replace hk8_2 := dh.grownAt hk8_2 e h Dd
 replace e := V
 refine Ti 5 rfl rfl hS <| Tw 6 (.bool true) rfl rfl hS <| Td <| Zt <| EM rfl dH e rfl (v1 := .int .i64 _) rfl (v2 := .bool true) rfl ⟨hB, ?_⟩
 first | exact ⟨_, _, _, _, _, rfl, dh.mono hk8_2 (Nat.zero_le _), LO.below hB (LO.kp hLO (fun k => !decide (((L.getD k0 []).getD 0 0) ∈ L.getD k [])) _ (Nat.le_refl _)), PU (k := k0) (by omega) s rfl⟩ | exact ⟨_, _, _, _, _, rfl, Below.ow hB hrv, LO.below hB hLO, PH L⟩
 refine c9 <| N _ _ <| cZ <| Zv (dp rfl rfl Om Om) <| Zi rfl <| cT ?_
 exact J _ _ (k0 + 1) Za ⟨rfl, trivial⟩ ⟨hB, d, e, Om, trivial⟩ Zo
 refine dr <| I _ _ <| Zr <| Zv (db rfl dH rfl d) <| Zy (dg rfl rfl dH rfl e rfl (by exact ib (dh.one hrv)) fun ao D X => ?_)
 replace hB := Zg hB D A
 replace d := At.grownNe d p D
 replace e := X
 refine Zw (.int .i64 0) rfl <| Zw (.bool false) rfl <| cT <| Zt <| EM rfl dH e rfl (v1 := .int .i64 0) rfl (v2 := .bool false) rfl ⟨hB, ?_⟩
 first | exact ⟨_, _, _, _, _, rfl, dh.mono hk8_2 (Nat.zero_le _), LO.below hB (LO.kp hLO (fun k => !decide (((L.getD k0 []).getD 0 0) ∈ L.getD k [])) _ (Nat.le_refl _)), PU (k := k0) (by omega) s rfl⟩ | exact ⟨_, _, _, _, _, rfl, Below.ow hB hrv, LO.below hB hLO, PH L⟩
theorem xg (n : Int) (rv : Value) (vs : List Value) (L : ML) (w : World) (hrv : dh encV 1 80 w 0 rv vs) (hLO : LO 3 0 w vs L) (hr : dX n L = true) (hLb : L.length ≤ 1000000) :
    Fn Tryz.prog 76 #[.agg #[.int .i64 n, rv]] w fun v w' => ∃ rv' vs' L' b, v = .tuple #[.agg #[.int .i64 n, rv'], .bool b] ∧ dh encV 1 80 w' 0 rv' vs' ∧ LO 3 0 w' vs' L' ∧ O8 L L' b := by
 refine dq (n := 54) Tryz.func76 rfl rfl (Nat.le_of_ble_eq_true rfl) ?_
 have hB : Below w.heap.size w w := Below.refl _ _
 have hll := hLO.ll
 have hvl := hll.len
 refine Zr <| Zy (dU (c := #[_, _]) rfl rfl fun B W3 C K a => ?_)
 have ai := ZO C hB
 clear C
 replace hB := Ze hB K
 refine Zy (dt ia rfl fun D W6 q E d => ?_)
 have r := ZO q hB
 have s := Zn q a.lt
 clear q
 replace hB := Ze hB E
 replace a := E.at a
 refine Zw (.bool false) rfl <| cT <| cY fun K9 M => Zr <| Zv (db rfl dH rfl a) <| ZC (vs := [.agg #[_, _]]) wC (jE n _ _ L _ ((Below.ow hB hrv)).sl (LO.mono (LO.below hB hLO) (Nat.zero_le _)).ll hLb (fun i => Nat.le_trans (fJ hr i) Dd)) rfl fun aj ak t N => ?_
 replace hB := Ze hB t
 replace a := t.at a
 replace d := t.at d
 obtain rfl := N
 refine Zv (fy rfl) <| cT <| ZQ rfl (fun F => ?_) fun F => ?_
 exact absurd (jc F) (by rw [hr]; decide)
 refine c9 <| M _ _ <| cY fun al O => Zr <| Zf rfl eq <| ZL rv rfl fk a rfl <| Zv (dA (v := rv) rfl ((Below.ow hB hrv)).sl eb) <| Zw (.int .i64 0) rfl <| cT <| c7 ?_
 refine dw (σ := (Nat)) [3, 4, 5, 6, 7, 15, 16, 17, 18, 19, 20, 21, 22, 23, 24, 25, 26, 27, 28, 29, 30, 31, 32, 33, 34, 35, 36, 37, 38, 39, 40, 41, 42, 43, 44, 45, 46, 47, 48, 49, 50, 51, 52] (fun i => [(15, .int .i64 (i : Int))]) (fun i W => (Below w.heap.size w W) ∧ (At W B _ 77) ∧ (At W D _ 77) ∧ (i ≤ L.length) ∧ (True)) (fun i => L.length - i) (0) ⟨rfl, trivial⟩ ⟨hB, a, d, (Nat.zero_le _), trivial⟩ ?_
 clear hB a d
 rintro i ao ap ⟨hB, a, d, hi, _⟩ aq P
 refine Zr <| Zv (dL rfl rfl) <| cT <| cY fun ar Q => ZQ rfl (fun R => ?_) fun R => ?_
 refine c9 <| Q _ _ <| cY fun au S => c7 <| Zr <| Zi rfl <| Zv (dJ (v := rv) rfl ((Below.ow hB hrv)).sl rfl eb Om Om) <| Zv (dk (v := (vs.getD i undef)) rfl iO (dM.cell ((Below.ow hB hrv)).sl fW undef Om Om 0 rfl)) ?_
 have G : dM d9 1 w ((vs.getD i undef)) (L.getD i []) := hll.get i (by omega)
 refine Zy (dt tN rfl fun f av H u e => ?_)
 have T := ZO H hB
 clear H
 replace hB := Ze hB u
 replace a := u.at a
 replace d := u.at d
 refine Zy (eC (v := .int .i64 _) rfl rfl dB rfl e Dd fun aw x U => ?_)
 replace hB := Zg hB x T
 replace a := At.grownAt a e x Dd
 replace d := At.grownAt d e x Dd
 replace e := U
 replace e : At _ _ #[_] _ := e
 refine Zw (vs.getD i undef) rfl <| cT <| Zr <| Zf rfl eq <| ZL rv rfl fk a rfl <| Zv (dA (v := rv) rfl ((Below.ow hB hrv)).sl eb) <| Zw (.int .i64 0) rfl <| cT <| c7 ?_
 refine dw (σ := (Nat)) [3, 6, 7, 23, 24, 25, 26, 27, 28, 29, 30, 31, 32, 33, 34, 35, 36, 37, 38, 39, 40, 41, 42, 43, 44, 45, 46, 47, 48, 49, 50, 51] (fun k => [(23, .int .i64 (k : Int))]) (fun k W => (Below w.heap.size w W) ∧ (At W B _ 77) ∧ (At W D _ 77) ∧ (At W f _ 3) ∧ (k ≤ L.length) ∧ (True)) (fun k => L.length - k) (0) ⟨rfl, trivial⟩ ⟨hB, a, d, e, (Nat.zero_le _), trivial⟩ ?_
 clear hB a d e
 rintro k ax ay ⟨hB, a, d, e, hk, _⟩ az y
 refine Zr <| Zv (dL rfl rfl) <| cT <| cY fun aA V => ZQ rfl (fun X => ?_) fun X => ?_
 refine c9 <| V _ _ <| cY fun aB z => c7 <| Zr <| Zi rfl <| Zv (dJ (v := rv) rfl ((Below.ow hB hrv)).sl rfl eb Om Om) <| Zv (dk (v := (vs.getD k undef)) rfl iO (dM.cell ((Below.ow hB hrv)).sl fW undef Om Om 0 rfl)) ?_
 have I : dM d9 1 w ((vs.getD k undef)) (L.getD k []) := hll.get k (by omega)
 refine Zi rfl <| Zw (vs.getD k undef) rfl <| cT <| Zr <| Zi rfl <| Zl rfl dB e rfl <| Zv (f7 rfl rfl) <| ZX rfl (fun g => ?_) fun g => ?_
 refine Zw (vs.getD k undef) rfl <| Zw (vs.getD i undef) rfl <| ZC Ev (oU _ _ _ _ _ (Below.slT hB I) (Below.slT hB G) (by have := fJ hr k; omega) (by have := fJ hr i; omega)) rfl fun aC aD h Y => ?_
 replace hB := Ze hB h
 replace a := h.at a
 replace d := h.at d
 replace e := h.at e
 obtain rfl := Y
 refine Zb rfl <| ZX rfl (fun j => ?_) fun j => ?_
 refine Zw (vs.getD k undef) rfl <| Zv (dA (v := (vs.getD k undef)) rfl (Below.slT hB I) du) <| Zw (vs.getD i undef) rfl <| Zv (dA (v := (vs.getD i undef)) rfl (Below.slT hB G) du) <| Zv (dL rfl rfl) <| ZX rfl (fun Z => ?_) fun Z => ?_
 refine Zs <| Zs <| Zs <| Zw (.bool true) rfl <| Zw (.bool true) rfl <| cT <| dz rfl <| Zr <| Zv (db rfl dH rfl a) <| Zv (gV (vs := #[.pointer (some ⟨f, 0, none⟩)]) (by simp only [List.map_toArray, List.map_cons, List.map_nil]; rfl)) <| ZC (vs := [.agg #[_, _], .func (.func 112) #[] #[.pointer (some ⟨f, 0, none⟩)]]) yE (nm n _ vs L 112 f (fun k => decide (¬ (k : Int) = (i : Int))) _ (dh.mono (Below.ow hB hrv) (Nat.zero_le _)) (LO.mono (LO.below hB hLO) (Nat.zero_le _)) hLb Ek (fun k2 xr W h2 hB2 aa => oM _ _ _ _ _ (Below.atI hB2 e) )) rfl fun ab aE l A => ?_
 have ac := (Below.size hB)
 replace hB := Ze hB l
 replace a := l.at a
 replace d := l.at d
 replace e := l.at e
 obtain ⟨rv10_2, rfl, hk10_2⟩ := A
 replace hk10_2 := dh.mono hk10_2 ac
 refine Zy (dg rfl rfl dH rfl d rfl (by exact ib (dh.one hk10_2)) fun aF m ad => ?_)
 replace hB := Zg hB m r
 replace a := At.grownNe a s m
 replace e := At.grownAt e d m Dd
 replace hk10_2 := dh.grownAt hk10_2 d m Dd
 replace d := ad
 refine Zw (.bool true) rfl <| cT <| Zt <| fw rfl dH d rfl (v1 := .bool true) rfl ⟨hB, ?_⟩
 first | exact ⟨_, _, _, _, rfl, dh.mono hk10_2 (Nat.zero_le _), LO.below hB (LO.kp hLO (fun k => decide (¬ (k : Int) = (i : Int))) _ (Nat.le_refl _)), zA (i := i) (k := k) (by omega) (by omega) g j⟩ | exact ⟨_, _, _, _, rfl, Below.ow hB hrv, LO.below hB hLO, Iv L⟩
 refine Zi rfl <| Zl rfl dB e rfl <| Zv (dL rfl rfl) <| Zb rfl <| Zb rfl <| cT <| ZQ rfl (fun ae => ?_) fun ae => ?_
 refine Zr <| Zv (db rfl dH rfl a) <| Zv (gV (vs := #[.pointer (some ⟨f, 0, none⟩)]) (by simp only [List.map_toArray, List.map_cons, List.map_nil]; rfl)) <| ZC (vs := [.agg #[_, _], .func (.func 112) #[] #[.pointer (some ⟨f, 0, none⟩)]]) yE (nm n _ vs L 112 f (fun k => decide (¬ (k : Int) = (i : Int))) _ (dh.mono (Below.ow hB hrv) (Nat.zero_le _)) (LO.mono (LO.below hB hLO) (Nat.zero_le _)) hLb Ek (fun k2 xr W h2 hB2 aa => oM _ _ _ _ _ (Below.atI hB2 e) )) rfl fun ab aG o A => ?_
 have af := (Below.size hB)
 replace hB := Ze hB o
 replace a := o.at a
 replace d := o.at d
 replace e := o.at e
 obtain ⟨rv10_2, rfl, hk10_2⟩ := A
 replace hk10_2 := dh.mono hk10_2 af
 refine Zy (dg rfl rfl dH rfl d rfl (by exact ib (dh.one hk10_2)) fun aH p ag => ?_)
 replace hB := Zg hB p r
 replace a := At.grownNe a s p
 replace e := At.grownAt e d p Dd
 replace hk10_2 := dh.grownAt hk10_2 d p Dd
 replace d := ag
 refine Zw (.bool true) rfl <| cT <| Zt <| fw rfl dH d rfl (v1 := .bool true) rfl ⟨hB, ?_⟩
 first | exact ⟨_, _, _, _, rfl, dh.mono hk10_2 (Nat.zero_le _), LO.below hB (LO.kp hLO (fun k => decide (¬ (k : Int) = (i : Int))) _ (Nat.le_refl _)), zA (i := i) (k := k) (by omega) (by omega) g j⟩ | exact ⟨_, _, _, _, rfl, Below.ow hB hrv, LO.below hB hLO, Iv L⟩
 refine c9 <| z _ _ <| cZ <| Zv (dp rfl rfl Om Om) <| Zi rfl <| cT ?_
 exact y _ _ (k + 1) Za ⟨rfl, trivial⟩ ⟨hB, a, d, e, Om, trivial⟩ Zo
 refine Zs <| Zs <| Zs <| Zs <| Zs <| Zs <| Zs <| Zs <| Zs <| Zs <| Zw (.bool false) rfl <| cT <| d4 rfl <| c9 ?_
 refine z _ _ <| cZ <| Zv (dp rfl rfl Om Om) <| Zi rfl <| cT ?_
 exact y _ _ (k + 1) Za ⟨rfl, trivial⟩ ⟨hB, a, d, e, Om, trivial⟩ Zo
 refine Zs <| Zs <| Zs <| Zw (.bool false) rfl <| Zw (.bool false) rfl <| Zs <| Zs <| Zs <| Zs <| Zs <| Zs <| Zs <| Zs <| Zs ?_
 refine Zs <| Zw (.bool false) rfl <| cT <| d4 rfl <| c9 <| z _ _ <| cZ <| Zv (dp rfl rfl Om Om) <| Zi rfl <| cT ?_
 exact y _ _ (k + 1) Za ⟨rfl, trivial⟩ ⟨hB, a, d, e, Om, trivial⟩ Zo
 refine dr <| S _ _ <| cZ <| Zv (dp rfl rfl Om Om) <| Zi rfl <| cT ?_
 exact P _ _ (i + 1) Za ⟨rfl, trivial⟩ ⟨hB, a, d, Om, trivial⟩ Zo
 refine dr <| O _ _ <| Zr <| Zv (db rfl dH rfl a) <| Zy (dg rfl rfl dH rfl d rfl (by exact ib (dh.one hrv)) fun aI J ah => ?_)
 replace hB := Zg hB J r
 replace a := At.grownNe a s J
 replace d := ah
 refine Zw (.bool false) rfl <| cT <| Zt <| fw rfl dH d rfl (v1 := .bool false) rfl ⟨hB, ?_⟩
 first | exact ⟨_, _, _, _, rfl, dh.mono hk10_2 (Nat.zero_le _), LO.below hB (LO.kp hLO (fun k => decide (¬ (k : Int) = (i : Int))) _ (Nat.le_refl _)), zA (i := i) (k := k) (by omega) (by omega) g j⟩ | exact ⟨_, _, _, _, rfl, Below.ow hB hrv, LO.below hB hLO, Iv L⟩
end
section
open Go Go.RowKit
theorem lu : lK Tryz.prog 154 = some (3, 80) := by kernel_rfl
theorem gI : oS Tryz.prog 3 (fun v => ∃ a : Int, v = eK a) := by
  refine nG Tryz.underlying3 ?_ ?_ ?_ ?_
  · rintro w _ _ ⟨a, rfl⟩ ⟨c, rfl⟩
    refine ⟨a == c, ?_, by simp [eK]⟩
    simp [Op.equal, eK]
    exact run_equalIn_int w 9999 3 .i64 .i64 a c Tryz.underlying3
  · rintro _ _ ⟨a, rfl⟩ ⟨c, rfl⟩
    exact .inr ⟨a == c, by simp [Instr.sameNow, eK], by simp [eK]⟩
  · rintro w em _ ⟨a, rfl⟩
    have h2 : ∀ k, (Instr.checkKey em (k + 1) 3 (eK a)).run Tryz.prog w = .ok () w := fun k => by
      simp [eK, Instr.checkKey, run_underlying Tryz.underlying3]
    exact h2 9999
  · rintro _ ⟨a, rfl⟩
    simp [eK, Instr.sameBits]
theorem qY : eL Tryz.prog 80 = some (.slice none 0 0) := by kernel_rfl
set_option maxHeartbeats 2000000 in
theorem s5 (n : Int) (rv : Value) (vs : List Value) (L : ML) (w : World) (hrv : dh encV 1 80 w 0 rv vs) (hLO : LO 3 0 w vs L) (hr : dX n L = true) (hLb : L.length ≤ 1000000) :
    Fn Tryz.prog 78 #[.agg #[.int .i64 n, rv]] w fun v w' => ∃ rv' vs' L' b, v = .tuple #[.agg #[.int .i64 n, rv'], .bool b] ∧ dh encV 1 80 w' 0 rv' vs' ∧ LO 3 0 w' vs' L' ∧ O8 L L' b := by
 refine dq (n := 135) Tryz.func78 rfl rfl (Nat.le_of_ble_eq_true rfl) ?_
 have hB : Below w.heap.size w w := Below.refl _ _
 have hll := hLO.ll
 have hvl := hll.len
 refine Zr <| Zy (dU (c := #[_, _]) rfl rfl fun s W3 ah aG d => ?_)
 have bq := ZO ah hB
 clear ah
 replace hB := Ze hB aG
 refine Zy (dt ia rfl fun t W6 Q ai f => ?_)
 have aj := ZO Q hB
 have ak := Zn Q d.lt
 clear Q
 replace hB := Ze hB ai
 replace d := ai.at d
 refine Zw (.bool false) rfl <| cT <| cY fun K9 aH => Zr <| Zv (db rfl dH rfl d) <| ZC (vs := [.agg #[_, _]]) wC (jE n _ _ L _ ((Below.ow hB hrv)).sl (LO.mono (LO.below hB hLO) (Nat.zero_le _)).ll hLb (fun i => Nat.le_trans (fJ hr i) Dd)) rfl fun br bs R aI => ?_
 replace hB := Ze hB R
 replace d := R.at d
 replace f := R.at f
 obtain rfl := aI
 refine Zv (fy rfl) <| cT <| ZQ rfl (fun al => ?_) fun al => ?_
 exact absurd (jc al) (by rw [hr]; decide)
 refine c9 <| aH _ _ <| Zr <| Zy (gE (enc := eK) (encV := id) fun m bt ao S ap => ?_)
 have aJ := ZO ao hB
 clear ao
 replace hB := Ze hB S
 replace d := S.at d
 replace f := S.at f
 refine Zw (.map (some m)) rfl <| cT <| cY fun bu aK => Zr <| Zf rfl eq <| ZL rv rfl fk d rfl <| Zv (dA (v := rv) rfl ((Below.ow hB hrv)).sl eb) <| Zw (.int .i64 0) rfl <| cT <| c7 ?_
 refine dw (σ := (Nat) × (List (Int × Value))) [5, 6, 8, 26, 27, 28, 29, 30, 31, 32, 33, 34, 35, 36, 37, 38, 39, 40, 41, 42, 43, 44, 45, 46] (fun (i, l) => [(26, .int .i64 (i : Int))]) (fun sg W => match sg with | (i, l) => (Below w.heap.size w W) ∧ (At W s _ 77) ∧ (At W t _ 77) ∧ (dR eK id W m l) ∧ (MO 3 w.heap.size W l (nO L i)) ∧ (i ≤ L.length) ∧ (True)) (fun (i, l) => L.length - i) ((0, [])) ⟨rfl, trivial⟩ ⟨hB, d, f, ap, MO.nil, (Nat.zero_le _), trivial⟩ ?_
 clear hB d f ap
 rintro ⟨i, l⟩ bv bw ⟨hB, d, f, hmw, hmo, hi, _⟩ bx aL
 refine Zr <| Zv (dL rfl rfl) <| cT <| cY fun bz aM => ZQ rfl (fun aN => ?_) fun aN => ?_
 refine c9 <| aM _ _ <| cY fun bA aO => c7 <| Zr <| Zi rfl <| Zv (dJ (v := rv) rfl ((Below.ow hB hrv)).sl rfl eb Om Om) <| Zv (dk (v := (vs.getD i undef)) rfl iO (dM.cell ((Below.ow hB hrv)).sl fW undef Om Om 0 rfl)) ?_
 have T : dM d9 1 w ((vs.getD i undef)) (L.getD i []) := hll.get i (by omega)
 refine Zi rfl <| Zw (vs.getD i undef) rfl <| cT <| Zr <| Zw (vs.getD i undef) rfl <| Zv (dA (v := (vs.getD i undef)) rfl (Below.slT hB T) du) <| Zw (.int .i64 0) rfl <| cT <| c7 ?_
 refine dw (σ := (Nat) × (List (Int × Value))) [8, 33, 34, 35, 36, 37, 38, 39, 40, 41, 42, 43, 44, 45] (fun (j, l2) => [(33, .int .i64 (j : Int))]) (fun sg W => match sg with | (j, l2) => (Below w.heap.size w W) ∧ (At W s _ 77) ∧ (At W t _ 77) ∧ (dR eK id W m l2) ∧ (MO 3 w.heap.size W l2 (Mh (L.getD i []) i (nO L i) j)) ∧ (j ≤ (L.getD i []).length) ∧ (True)) (fun (j, l2) => (L.getD i []).length - j) ((0, l)) ⟨rfl, trivial⟩ ⟨hB, d, f, hmw, hmo, (Nat.zero_le _), trivial⟩ ?_
 clear hB d f hmw hmo
 rintro ⟨j, l2⟩ bB bC ⟨hB, d, f, hmw2, hmo2, hj, _⟩ bD aP
 refine Zr <| Zv (dL rfl rfl) <| cT <| cY fun bE aQ => ZQ rfl (fun aR => ?_) fun aR => ?_
 refine c9 <| aQ _ _ <| cY fun bF aS => c7 <| Zr <| Zv (dJ (v := (vs.getD i undef)) rfl (Below.slT hB T) rfl du Om Om) <| Zv (dk (v := .int .i64 _) rfl dB (dM.cell (Below.slT hB T) eD 0 Om Om 0 rfl)) <| Zi rfl <| cT ?_
 have hov := MO.get hmo2 ((L.getD i []).getD j 0)
 have hwl1 := zk (r := L.getD i []) (i := i) (g := nO L i) (c := ((L.getD i []).getD j 0)) j
 have hwl2 := uk (c := ((L.getD i []).getD j 0)) (fJ hr) i
 have hwl3 := fJ hr i
 refine cZ <| Zw (.map (some m)) rfl <| Zi rfl <| Zw (.map (some m)) rfl <| Zi rfl <| Zv (fR (enc := eK) (encV := id) (v0 := .slice none 0 0) (k := ((L.getD i []).getD j 0)) rfl rfl lu gI (fun a => ⟨a, rfl⟩) fS qY rfl hmw2) <| Zi rfl <| Zy (fc (u := .int .i64 _) rfl du fv rfl Dd Dd fun aq bG U y aT => ?_)
 have bH := ZO U hB
 have bI := dh.neB (b := aq) hov (Nat.le_of_eq U.symm)
 clear U
 replace hB := Ze hB y
 replace d := y.at d
 replace f := y.at f
 replace hmw2 := y.mapT hmw2
 replace hmo2 := MO.ext y hmo2
 replace hov := y.ow hov
 refine Zy (jr (v := (Gl l2 ((L.getD i []).getD j 0))) (v2 := .slice (some ⟨aq, 0, none⟩) 1 1) rfl rfl du fv Dd hov (fG aT rfl) rfl (by have := Below.size hB; omega) (by first | omega | (simp; omega)) (by first | omega | (simp; omega)) fun ar bJ E F aU => ?_)
 replace F := dh.snoc (enc := d9) (x := (i : Int)) rfl rfl rfl rfl F
 replace hB := ZG hB E hov
 replace d := At.grownOw d hov E Dd
 replace f := At.grownOw f hov E Dd
 replace hmw2 := dR.grownOw hmw2 hov E
 replace hmo2 := MO.app hmo2 E aU F
 clear hov
 refine gS (dd := none) rfl rfl rfl (fI (enc := eK) (encV := id) (k := ((L.getD i []).getD j 0)) (v := ar) rfl rfl rfl lu gI (fun a => ⟨a, rfl⟩) fS hmw2 (fun bK z aV => ?_))
 replace hB := Zg hB z aJ
 replace d := At.grownMap d hmw2 z
 replace f := At.grownMap f hmw2 z
 replace hmo2 := MO.grownMap hmo2 hmw2 z
 replace F := dh.grownMap F hmw2 z
 clear z hmw2
 replace hmw2 := aV
 refine cT <| aS _ _ <| cZ <| Zv (dp rfl rfl Om Om) <| Zi rfl <| cT ?_
 exact aP _ _ ((j + 1, g7 l2 ((L.getD i []).getD j 0) ar)) Za ⟨rfl, trivial⟩ ⟨hB, d, f, (by exact hmw2), hmo2, Om, trivial⟩ (by show (L.getD i []).length - (j + 1) < (L.getD i []).length - j; omega)
 refine dr <| aO _ _ <| cZ <| Zv (dp rfl rfl Om Om) <| Zi rfl <| cT ?_
 obtain rfl : j = (L.getD i []).length := by omega
 exact aL _ _ ((i + 1, l2)) Za ⟨rfl, trivial⟩ ⟨hB, d, f, (by exact hmw2), hmo2, Om, trivial⟩ (by show L.length - (i + 1) < L.length - i; omega)
 refine dr <| aK _ _ <| cY fun bL aW => ?_
 obtain rfl : i = L.length := by omega
 have hn0 := (fl.1 hr).1
 have hn4 := (fl.1 hr).2.1
 refine Zr <| Zf rfl iy <| Zl rfl dB d rfl <| Zw (.int .i64 0) rfl <| cT <| c7 ?_
 refine dw (σ := (Nat)) [3, 9, 11, 12, 14, 15, 17, 49, 50, 51, 52, 53, 54, 55, 56, 57, 58, 59, 60, 61, 62, 63, 64, 65, 66, 67, 68, 69, 70, 71, 72, 73, 74, 75, 76, 77, 78, 79, 80, 81, 82, 83, 84, 85, 86, 87, 88, 89, 90, 91, 92, 93, 94, 95, 96, 97, 98, 99, 100, 101, 102, 103, 104, 105, 106, 107, 108, 109, 110, 111, 112, 113, 114, 115, 116, 117, 118, 119, 120, 121, 122, 123, 124, 125, 126, 127, 128, 129, 130, 131, 132, 133] (fun cc => [(49, .int .i64 (cc : Int))]) (fun cc W => (Below w.heap.size w W) ∧ (At W s _ 77) ∧ (At W t _ 77) ∧ (dR eK id W m _) ∧ (MO 3 w.heap.size W l (nO L L.length)) ∧ ((cc : Int) ≤ n) ∧ (True)) (fun cc => n.toNat - cc) (0) ⟨rfl, trivial⟩ ⟨hB, d, f, hmw, hmo, Om, trivial⟩ ?_
 clear hB d f hmw hmo
 rintro cc bM bN ⟨hB, d, f, hmw, hmo, hcc, _⟩ bO au
 refine Zr <| Zv (dL rfl rfl) <| cT <| cY fun bP aX => ZQ rfl (fun aY => ?_) fun aY => ?_
 refine c9 <| aX _ _ <| cY fun bQ av => c7 <| Zr <| Zi rfl <| Zi rfl <| cT <| cY fun bR aZ => ?_
 have hw16 := MO.get hmo (cc : Int)
 refine Zr <| Zw (.map (some m)) rfl <| Zi rfl <| Zv (fR (enc := eK) (encV := id) (v0 := .slice none 0 0) (k := (cc : Int)) rfl rfl lu gI (fun a => ⟨a, rfl⟩) fS qY rfl hmw) <| Zv (dA (v := (Gl l (cc : Int))) rfl hw16.sl du) <| Zv (eB rfl rfl) <| cT <| ZQ rfl (fun V => ?_) fun V => ?_
 refine dr <| av _ _ <| cZ <| Zv (dp rfl rfl Om Om) <| Zi rfl <| cT ?_
 exact au _ _ (cc + 1) Za ⟨rfl, trivial⟩ ⟨hB, d, f, hmw, hmo, Om, trivial⟩ Zo
 refine c9 <| aZ _ _ ?_
 have hlim : 0 ≤ (nO L L.length (cc : Int)).getD (0 : Int).toNat 0 ∧ (nO L L.length (cc : Int)).getD (0 : Int).toNat 0 < L.length ∧ (cc : Int) ∈ L.getD ((nO L L.length (cc : Int)).getD (0 : Int).toNat 0).toNat [] := Ex (q := 0) (by omega)
 have hl0 := fJ hr ((nO L L.length (cc : Int)).getD (0 : Int).toNat 0).toNat
 refine Zd eo fun a0 A => ?_
 replace hB := Ze hB A
 replace d := A.at d
 replace f := A.at f
 replace hmw := A.mapT hmw
 replace hmo := MO.ext A hmo
 replace hw16 := A.ow hw16
 have hS := eo.refl a0
 refine Tf 0 rfl rfl eq hS <| Tk 1 rfl (fun _ hq => dk (v := rv) rfl fk (At.cell (hq.at d) rfl)) hS <| Tw 2 (.map (some m)) rfl rfl hS <| Ti 3 rfl rfl hS <| Tk 4 rfl (fun _ hq => fR (enc := eK) (encV := id) (v0 := .slice none 0 0) (k := (cc : Int)) rfl rfl lu gI (fun a => ⟨a, rfl⟩) fS qY rfl (hq.mapT hmw)) hS <| Tk 5 rfl (fun _ hq => dJ (j := 0) (v := (Gl l (cc : Int))) rfl ((hq.ow hw16)).sl rfl du Om Om) hS <| Tk 6 rfl (fun _ hq => dk (v := .int .i64 _) rfl dB (dM.cell (j := 0) ((hq.ow hw16)).sl eD 0 Om Om 0 rfl)) hS <| Tk 7 rfl (fun _ hq => dJ (v := rv) rfl ((hq.ow (Below.ow hB hrv))).sl rfl eb Om Om) hS <| Tk 8 rfl (fun _ hq => dk (v := (vs.getD ((nO L L.length (cc : Int)).getD (0 : Int).toNat 0).toNat undef)) rfl iO (dM.cell ((hq.ow (Below.ow hB hrv))).sl fW undef Om Om 0 rfl)) hS ?_
 have J : dM d9 1 w ((vs.getD ((nO L L.length (cc : Int)).getD (0 : Int).toNat 0).toNat undef)) (L.getD ((nO L L.length (cc : Int)).getD (0 : Int).toNat 0).toNat []) := hll.get _ (by omega)
 refine Tk 9 rfl (fun _ hq => dA (v := (vs.getD ((nO L L.length (cc : Int)).getD (0 : Int).toNat 0).toNat undef)) rfl (hq.slT (Below.slT hB J)) du) hS <| Tw 10 (.int .i64 0) rfl rfl hS <| Td <| c7 ?_
 refine dw (σ := (Nat)) [3, 11, 12, 14, 15, 17, 67, 68, 69, 70, 71, 72, 73, 74, 75, 76, 77, 78, 79, 80, 81, 82, 83, 84, 85, 86, 87, 88, 89, 90, 91, 92, 93, 94, 95, 96, 97, 98, 99, 100, 101, 102, 103, 104, 105, 106, 107, 108, 109, 110, 111, 112, 113, 114, 115, 116, 117, 118, 119, 120, 121, 122, 123, 124, 125, 126, 127, 128, 129, 130, 131, 132] (fun q => [(67, .int .i64 (q : Int))]) (fun q W => (Below w.heap.size w W) ∧ (At W s _ 77) ∧ (At W t _ 77) ∧ (dR eK id W m _) ∧ (MO 3 w.heap.size W l (nO L L.length)) ∧ (dh d9 1 3 W w.heap.size (Gl l (cc : Int)) _) ∧ (q ≤ (L.getD ((nO L L.length (cc : Int)).getD (0 : Int).toNat 0).toNat []).length) ∧ (True)) (fun q => (L.getD ((nO L L.length (cc : Int)).getD (0 : Int).toNat 0).toNat []).length - q) (0) ⟨rfl, trivial⟩ ⟨hB, d, f, hmw, hmo, hw16, (Nat.zero_le _), trivial⟩ ?_
 clear hB d f hmw hmo hw16
 rintro q bS bT ⟨hB, d, f, hmw, hmo, hw16, hq, _⟩ bU X
 refine Zr <| Zv (dL rfl rfl) <| cT <| cY fun bV a1 => ZQ rfl (fun a2 => ?_) fun a2 => ?_
 refine c9 <| a1 _ _ <| cY fun bW Y => c7 <| Zr <| Zv (dJ (v := (vs.getD ((nO L L.length (cc : Int)).getD (0 : Int).toNat 0).toNat undef)) rfl (Below.slT hB J) rfl du Om Om) <| Zv (dk (v := .int .i64 _) rfl dB (dM.cell (Below.slT hB J) eD 0 Om Om 0 rfl)) <| Zi rfl <| cT ?_
 refine LV (σ := (Unit)) [71, 72, 73, 74, 75, 76, 77, 78, 79, 80, 81, 82, 83, 84, 85, 86, 87, 88, 89, 90, 91, 92, 93, 94, 95, 96, 97, 98, 99] (fun u_ => []) (fun W => (Below w.heap.size w W) ∧ (At W s _ 77) ∧ (At W t _ 77) ∧ (True)) ⟨hB, d, f, trivial⟩ (fun u_ W => (¬ ((L.getD ((nO L L.length (cc : Int)).getD (0 : Int).toNat 0).toNat []).getD q 0) = (cc : Int)) ∧ (zq (nO L L.length (cc : Int)) (nO L L.length ((L.getD ((nO L L.length (cc : Int)).getD (0 : Int).toNat 0).toNat []).getD q 0)) = true) ∧ (True)) (fun bX aw => ?_) ?_
 have hw20 := MO.get hmo ((L.getD ((nO L L.length (cc : Int)).getD (0 : Int).toNat 0).toNat []).getD q 0)
 refine Zr <| Zi rfl <| Zi rfl <| Zv (eB rfl rfl) <| ZX rfl (fun Z => ?_) fun Z => ?_
 refine Zs <| Zs <| Zs <| Zs <| Zs <| Zs <| Zs <| Zs <| Zw (.bool true) rfl <| Zw (.bool true) rfl <| Zs <| Zs <| Zs <| Zs ?_
 refine Zs <| Zs <| Zs <| Zs <| Zs <| Zs <| Zs <| Zs <| Zs <| Zs <| Zw (.bool true) rfl <| cT <| dz rfl <| dr ?_
 refine Y _ _ <| cZ <| Zv (dp rfl rfl Om Om) <| Zi rfl <| cT ?_
 exact X _ _ (q + 1) Za ⟨rfl, trivial⟩ ⟨hB, d, f, hmw, hmo, hw16, Om, trivial⟩ Zo
 refine Zw (.map (some m)) rfl <| Zi rfl <| Zv (fR (enc := eK) (encV := id) (v0 := .slice none 0 0) (k := (cc : Int)) rfl rfl lu gI (fun a => ⟨a, rfl⟩) fS qY rfl hmw) <| Zw (.map (some m)) rfl <| Zi rfl <| Zv (fR (enc := eK) (encV := id) (v0 := .slice none 0 0) (k := ((L.getD ((nO L L.length (cc : Int)).getD (0 : Int).toNat 0).toNat []).getD q 0)) rfl rfl lu gI (fun a => ⟨a, rfl⟩) fS qY rfl hmw) <| ZC Ev (oU _ _ _ _ _ hw16.sl hw20.sl (by have := uk (c := (cc : Int)) (fJ hr) L.length; omega) (by have := uk (c := ((L.getD ((nO L L.length (cc : Int)).getD (0 : Int).toNat 0).toNat []).getD q 0)) (fJ hr) L.length; omega)) rfl fun bY bZ o a3 => ?_
 replace hB := Ze hB o
 replace d := o.at d
 replace f := o.at f
 replace hmw := o.mapT hmw
 replace hmo := MO.ext o hmo
 replace hw16 := o.ow hw16
 replace hw20 := o.ow hw20
 obtain rfl := a3
 refine Zv (fy rfl) <| Zb rfl <| ZX rfl (fun aa => ?_) fun aa => ?_
 refine Zs <| Zs <| Zs <| Zs <| Zs <| Zs <| Zs <| Zs <| Zs <| Zs <| Zs <| Zs <| Zs <| Zs ?_
 refine Zw (.bool true) rfl <| cT <| dz rfl <| dr <| Y _ _ <| cZ <| Zv (dp rfl rfl Om Om) <| Zi rfl <| cT ?_
 exact X _ _ (q + 1) Za ⟨rfl, trivial⟩ ⟨hB, d, f, hmw, hmo, hw16, Om, trivial⟩ Zo
 refine Zw (.map (some m)) rfl <| Zi rfl <| Zv (fR (enc := eK) (encV := id) (v0 := .slice none 0 0) (k := ((L.getD ((nO L L.length (cc : Int)).getD (0 : Int).toNat 0).toNat []).getD q 0)) rfl rfl lu gI (fun a => ⟨a, rfl⟩) fS qY rfl hmw) <| Zv (dA (v := (Gl l ((L.getD ((nO L L.length (cc : Int)).getD (0 : Int).toNat 0).toNat []).getD q 0))) rfl hw20.sl du) <| Zw (.map (some m)) rfl <| Zi rfl <| Zv (fR (enc := eK) (encV := id) (v0 := .slice none 0 0) (k := (cc : Int)) rfl rfl lu gI (fun a => ⟨a, rfl⟩) fS qY rfl hmw) <| Zv (dA (v := (Gl l (cc : Int))) rfl hw16.sl du) <| Zv (eB rfl rfl) <| ZX rfl (fun a4 => ?_) fun a4 => ?_
 refine Zi rfl <| Zi rfl <| Zv (iQ rfl rfl) <| Zb rfl <| Zb rfl <| cT <| ZQ rfl (fun a5 => ?_) fun a5 => ?_
 refine dr <| Y _ _ <| cZ <| Zv (dp rfl rfl Om Om) <| Zi rfl <| cT ?_
 exact X _ _ (q + 1) Za ⟨rfl, trivial⟩ ⟨hB, d, f, hmw, hmo, hw16, Om, trivial⟩ Zo
 refine c9 ?_
 refine aw _ _ (()) ?_ ?_ ?_ ?_
 · repeat (first | exact fz.mask _ _ _ | exact fz.refl _ _ | refine fz.updo ?_ rfl _ | refine fz.updL ?_ _ rfl | refine fz.maskS rfl ?_)
 · exact trivial
 · exact ⟨hB, d, f, trivial⟩
 · exact ⟨Z, (ie aa), trivial⟩
 refine Zs <| Zs <| Zs <| Zw (.bool false) rfl <| Zw (.bool false) rfl <| cT <| d4 rfl <| c9 ?_
 refine aw _ _ (()) ?_ ?_ ?_ ?_
 · repeat (first | exact fz.mask _ _ _ | exact fz.refl _ _ | refine fz.updo ?_ rfl _ | refine fz.updL ?_ _ rfl | refine fz.maskS rfl ?_)
 · exact trivial
 · exact ⟨hB, d, f, trivial⟩
 · exact ⟨Z, (ie aa), trivial⟩
 clear hB d f hmw hmo hw16
 rintro u_ b0 b1 ⟨hB, d, f, _⟩ ⟨hdc, hwt, _⟩
 refine Zr <| Zf rfl iy <| Zl rfl dB d rfl <| Zv (kn (h0 := rfl) (k0 := rfl) (c0_0 := .int .i64 _)) <| Zy (dt ia rfl fun a6 b2 K ab h => ?_)
 have ax := ZO K hB
 have ay := Zn K d.lt
 have ac := Zn K f.lt
 clear K
 replace hB := Ze hB ab
 replace d := ab.at d
 replace f := ab.at f
 refine Zy (dg rfl rfl dH rfl h rfl rfl fun b3 ad a7 => ?_)
 replace hB := Zg hB ad ax
 replace d := At.grownNe d ay ad
 replace f := At.grownNe f ac ad
 replace h := a7
 refine cT <| cY fun b4 a8 => Zr <| Zf rfl eq <| ZL rv rfl fk d rfl <| Zv (dA (v := rv) rfl ((Below.ow hB hrv)).sl eb) <| Zw (.int .i64 0) rfl <| cT <| c7 ?_
 refine dw (σ := (Nat) × (Value) × (List Value)) [14, 15, 17, 106, 107, 108, 109, 110, 111, 112, 113, 114, 115, 116, 117, 118, 119, 120, 121, 122, 123, 124, 125, 126, 127, 128, 129, 130] (fun (k, v0, vn) => [(106, .int .i64 (k : Int))]) (fun sg W => match sg with | (k, v0, vn) => (Below w.heap.size w W) ∧ (At W s _ 77) ∧ (At W t _ 77) ∧ (At W a6 #[.int .i64 n, v0] 77) ∧ (dh encV 1 80 W w.heap.size v0 (vn)) ∧ (LO 3 w.heap.size W vn (oa (L.take k) (cc : Int))) ∧ (k ≤ L.length) ∧ (True)) (fun (k, v0, vn) => L.length - k) ((0, .slice none 0 0, [])) ⟨rfl, trivial⟩ ⟨hB, d, f, h, dh.nil, LO.nil, (Nat.zero_le _), trivial⟩ ?_
 clear hB d f h
 rintro ⟨k, v0, vn⟩ b5 G ⟨hB, d, f, h, ho, hlo, hk, _⟩ b6 a9
 refine Zr <| Zv (dL rfl rfl) <| cT <| cY fun b7 ba => ZQ rfl (fun bb => ?_) fun bb => ?_
 refine c9 <| ba _ _ <| cY fun b8 bc => c7 <| Zr <| Zv (dJ (v := rv) rfl ((Below.ow hB hrv)).sl rfl eb Om Om) <| Zv (dk (v := (vs.getD k undef)) rfl iO (dM.cell ((Below.ow hB hrv)).sl fW undef Om Om 0 rfl)) ?_
 have bd : dM d9 1 w ((vs.getD k undef)) (L.getD k []) := hll.get k (by omega)
 refine Zw (vs.getD k undef) rfl <| cT ?_
 have bf := Below.ow hB hrv
 have bg := LO.below hB hLO
 have bh := Below.slT hB J
 have M := Below.slT hB bd
 have ae := hB
 replace hB := Below.refl G.heap.size G
 refine Zr <| Zw (.slice none 0 0) rfl <| cT <| cY fun b9 bi => Zr <| Zw (vs.getD k undef) rfl <| Zv (dA (v := (vs.getD k undef)) rfl (Below.slT hB M) du) <| Zw (.int .i64 0) rfl <| cT <| c7 ?_
 refine dw (σ := (Nat) × (Value)) [15, 17, 112, 113, 114, 115, 116, 117, 118, 119, 120, 121, 122, 123] (fun (j, v1) => [(112, .int .i64 (j : Int)), (15, v1)]) (fun sg W => match sg with | (j, v1) => (Below G.heap.size G W) ∧ (dh d9 1 3 W G.heap.size v1 (yn ((L.getD k []).take j) (cc : Int))) ∧ (j ≤ (L.getD k []).length) ∧ (True)) (fun (j, v1) => (L.getD k []).length - j) ((0, .slice none 0 0)) ⟨rfl, rfl, trivial⟩ ⟨hB, dh.nil, (Nat.zero_le _), trivial⟩ ?_
 clear hB
 rintro ⟨j, v1⟩ ca cb ⟨hB, hrst, hj, _⟩ cd az
 refine Zr <| Zv (dL rfl rfl) <| cT <| cY fun ce bj => ZQ rfl (fun bk => ?_) fun bk => ?_
 refine c9 <| bj _ _ <| cY fun cf aA => c7 ?_
 have hrl := DJ (L.getD k []) (cc : Int) j
 have hr4 := fJ hr k
 refine Zr <| Zv (dJ (v := (vs.getD k undef)) rfl (Below.slT hB M) rfl du Om Om) <| Zv (dk (v := .int .i64 _) rfl dB (dM.cell (Below.slT hB M) eD 0 Om Om 0 rfl)) <| Zi rfl <| cT <| Zr <| Zi rfl <| Zi rfl <| Zv (f7 rfl rfl) <| cT <| ZQ rfl (fun H => ?_) fun H => ?_
 refine cZ <| Zw v1 rfl <| Zi rfl <| Zy (fc (u := .int .i64 _) rfl du fv rfl Dd Dd fun aB cg af aC bl => ?_)
 have ch := ZO af hB
 have ci := dh.neB (b := aB) hrst (Nat.le_of_eq af.symm)
 clear af
 replace hB := Ze hB aC
 replace hrst := aC.ow hrst
 refine Zy (ez (v := v1) (v2 := .slice (some ⟨aB, 0, none⟩) 1 1) rfl rfl du fv Dd hrst (fG bl rfl) rfl (by have := Below.size hB; omega) (by first | omega | (simp; omega)) (by first | omega | (simp; omega)) fun aD cj bm N => ?_)
 replace N := dh.snoc (enc := d9) (x := _) rfl rfl rfl rfl N
 replace hB := ZG hB bm hrst
 clear hrst
 refine Zw aD rfl <| cT <| aA _ _ <| cZ <| Zv (dp rfl rfl Om Om) <| Zi rfl <| cT ?_
 exact az _ _ ((j + 1, aD)) Za ⟨rfl, rfl, trivial⟩ ⟨hB, (by first | (rw [← E2 (k := j) Om H]; exact N) | (rw [← Eu (k := j) Om (Decidable.of_not_not H)]; exact N)), Om, trivial⟩ (by show (L.getD k []).length - (j + 1) < (L.getD k []).length - j; omega)
 refine c9 <| aA _ _ <| cZ <| Zv (dp rfl rfl Om Om) <| Zi rfl <| cT ?_
 exact az _ _ ((j + 1, v1)) Za ⟨rfl, rfl, trivial⟩ ⟨hB, (by first | (rw [← E2 (k := j) Om H]; exact hrst) | (rw [← Eu (k := j) Om (Decidable.of_not_not H)]; exact hrst)), Om, trivial⟩ (by show (L.getD k []).length - (j + 1) < (L.getD k []).length - j; omega)
 refine dr <| bi _ _ ?_
 try clear bf
 try clear bg
 try clear bh
 replace d := Below.atI hB d
 replace f := Below.atI hB f
 replace h := Below.atI hB h
 replace ho := Below.ow hB ho
 replace hlo := LO.below hB hlo
 try clear M
 have hzs := Nat.le_trans (Nat.le_refl _) (Below.size ae)
 replace hrst := dh.mono hrst hzs
 replace hB := Below.trans ae (Below.mono hB hzs)
 clear ae hzs
 obtain rfl : j = (L.getD k []).length := by omega
 rw [List.take_length] at hrst
 have hcl := EF L (cc : Int) k
 have hvn := hlo.len
 refine cZ <| Zf rfl eq <| ZL v0 rfl fk h rfl <| Zw v1 rfl <| Zy (fc (u := v1) rfl eb jb (by rw [dM.cells hrst.sl]; rfl) Dd Dd fun ag ck O p aE => ?_)
 have cl := ZO O hB
 have cm := dh.neB (b := ag) (Below.ow hB hrv) (Nat.le_of_eq O.symm)
 have cn := dh.neB (b := ag) ho (Nat.le_of_eq O.symm)
 clear O
 replace d := p.at d
 replace f := p.at f
 replace h := p.at h
 replace ho := p.ow ho
 replace hlo := LO.ext p hlo
 replace hB := Ze hB p
 replace hrst := p.ow hrst
 rw [dM.cells hrst.sl] at aE
 refine Zy (ez (v := v0) (v2 := .slice (some ⟨ag, 0, none⟩) 1 1) rfl rfl eb jb Dd ho (fG aE rfl) (by first | exact DY (dh.one hrst) | (rw [dM.cells hrst.sl]; exact DY (dh.one hrst))) (by have := Below.size hB; omega) (by first | omega | (simp; omega)) (by first | omega | (simp; omega)) fun aF co B C => ?_)
 replace C := dh.snoc (enc := encV) (x := v1) rfl rfl rfl rfl C
 replace d := At.grownOw d ho B Dd
 replace f := At.grownOw f ho B Dd
 replace h := At.grownOw h ho B Dd
 replace hlo := LO.grownOw hlo ho B Dd
 replace hB := ZG hB B ho
 replace hrst := dh.grownOw hrst ho B Dd
 clear ho
 refine Zf rfl eq <| Zy (eC (v := aF) rfl rfl fk (dM.one C.sl) h (by simp) fun cp D bn => ?_)
 replace d := At.grownNe d ay D
 replace f := At.grownNe f ac D
 replace hlo := LO.grownAt hlo h D Dd
 replace hB := Zg hB D ax
 replace hrst := dh.grownAt hrst h D Dd
 replace C := dh.grownAt C h D Dd
 replace h := bn
 replace h : At _ _ #[_, _] _ := h
 refine cT <| bc _ _ <| cZ <| Zv (dp rfl rfl Om Om) <| Zi rfl <| cT ?_
 exact a9 _ _ ((k + 1, aF, vn ++ [v1])) Za ⟨rfl, trivial⟩ ⟨hB, d, f, (by exact h), (by exact C), (by rw [← Bt Om]; exact LO.snoc hlo hrst), Om, trivial⟩ (by show L.length - (k + 1) < L.length - k; omega)
 refine dr <| a8 _ _ <| Zr <| Zv (db rfl dH rfl h) <| Zy (dg rfl rfl dH rfl f rfl (by exact ib (dh.one ho)) fun cq I bo => ?_)
 replace hB := Zg hB I aj
 replace d := At.grownNe d ak I
 replace h := At.grownNe h (Ne.symm ac) I
 replace ho := dh.grownAt ho f I Dd
 replace hlo := LO.grownAt hlo f I Dd
 replace f := bo
 refine Zw (.bool true) rfl <| cT <| Zt <| fw rfl dH f rfl (v1 := .bool true) rfl ⟨hB, ?_⟩
 first | exact ⟨_, _, _, _, rfl, Below.ow hB hrv, LO.below hB hLO, Iv L⟩ | exact ⟨_, _, _, _, rfl, dh.mono ho (Nat.zero_le _), LO.mono hlo (Nat.zero_le _), (by rw [zf (by omega)]; exact D8 (i := 0) (fun e => V (by rw [e]; rfl)) hdc hwt)⟩
 refine dr <| av _ _ <| cZ <| Zv (dp rfl rfl Om Om) <| Zi rfl <| cT ?_
 exact au _ _ (cc + 1) Za ⟨rfl, trivial⟩ ⟨hB, d, f, hmw, hmo, Om, trivial⟩ Zo
 refine dr <| aW _ _ <| Zr <| Zv (db rfl dH rfl d) <| Zy (dg rfl rfl dH rfl f rfl (by exact ib (dh.one hrv)) fun cr P bp => ?_)
 replace hB := Zg hB P aj
 replace d := At.grownNe d ak P
 replace hmw := dR.grownAt hmw f P
 replace hmo := MO.grownAt hmo f P Dd
 replace f := bp
 refine Zw (.bool false) rfl <| cT <| Zt <| fw rfl dH f rfl (v1 := .bool false) rfl ⟨hB, ?_⟩
 first | exact ⟨_, _, _, _, rfl, Below.ow hB hrv, LO.below hB hLO, Iv L⟩ | exact ⟨_, _, _, _, rfl, dh.mono ho (Nat.zero_le _), LO.mono hlo (Nat.zero_le _), (by rw [zf (by omega)]; exact D8 (i := 0) (fun e => V (by rw [e]; rfl)) hdc hwt)⟩
end
section
open Go Go.RowKit
structure Dx (Tn : TypeId) (N : Nat) (xs : List Nat) (w w' : World) : Prop where
 os : w'.os = w.os
 tape : w'.tape = w.tape
 output : w'.output = w.output
 size : w.heap.size ≤ w'.heap.size
 block : ∀ k, k < w.heap.size → (k < N ∨ (k ∉ xs ∧ ∀ c fr, w.heap[k]? ≠ some (.cells c Tn fr))) → w'.heap[k]? = w.heap[k]?
section
variable {Tn T : TypeId} {N : Nat} {xs : List Nat} {w w' w'' : World}
theorem Dx.refl : Dx Tn N xs w w := ⟨rfl, rfl, rfl, Nat.le_refl _, fun _ _ _ => rfl⟩
theorem Dx.trans (h : Dx Tn N xs w w') (k : Dx Tn N xs w' w'') : Dx Tn N xs w w'' := by
 refine ⟨k.os.trans h.os, k.tape.trans h.tape, k.output.trans h.output, Nat.le_trans h.size k.size, fun j hj hc => ?_⟩
 have e := h.block j hj hc
 rw [k.block j (Nat.lt_of_lt_of_le hj h.size) (hc.imp id fun ⟨a, b⟩ => ⟨a, fun c fr => by rw [e]; exact b c fr⟩), e]
theorem Dx.ext (h : eo w w') : Dx Tn N xs w w' := ⟨Below.os h, Below.tape h, Below.output h, Below.size h, fun k hk _ => Below.block h k hk⟩
theorem Dx.grown {b : Nat} (h : w.grownBy w' (some b)) (hb : b ∈ xs) (hN : N ≤ b) : Dx Tn N xs w w' := by
 refine ⟨h.os, h.tape, h.output, h.size, fun k hk hc => h.block k hk fun e => ?_⟩
 cases e
 rcases hc with hc | ⟨hc, _⟩
 ·omega
 ·exact hc hb
theorem Dx.row {α : Type} {enc : α → List Value} {sz : Nat} {v : Value} {l : List α} (k : dh enc sz Tn w N v l) (h : w.grownBy w' v.ownBlock) : Dx Tn N xs w w' := by
 refine ⟨h.os, h.tape, h.output, h.size, fun j hj hc => h.block j hj fun e => ?_⟩
 obtain ⟨_, h2 | ⟨g, cap, cur, h3, hg, hh, _⟩⟩ := k
 ·rw [h2.1] at e; cases e
 ·rw [h3] at e
  obtain rfl : j = g := Option.some.inj e
  rcases hc with hc | ⟨_, hc⟩
  ·omega
  ·exact hc _ _ hh
theorem Dx.mono {ys : List Nat} (h : Dx Tn N xs w w') (hs : ∀ x, x ∈ xs → x ∈ ys) : Dx Tn N ys w w' := ⟨h.os, h.tape, h.output, h.size, fun k hk hc => h.block k hk (hc.imp id fun ⟨a, b⟩ => ⟨fun q => a (hs k q), b⟩)⟩
theorem Dx.new {b : Nat} (h : Dx Tn N xs w w') (hb : w.heap.size ≤ b) (k : Dx Tn N (b :: xs) w' w'') : Dx Tn N xs w w'' := by
 refine ⟨k.os.trans h.os, k.tape.trans h.tape, k.output.trans h.output, Nat.le_trans h.size k.size, fun j hj hc => ?_⟩
 have e := h.block j hj hc
 rw [k.block j (Nat.lt_of_lt_of_le hj h.size) (hc.imp id fun ⟨a, q⟩ => ⟨fun m => (List.mem_cons.1 m).elim (fun e => by omega) a, fun c fr => by rw [e]; exact q c fr⟩), e]
theorem Below.dx {B : Nat} {w0 : World} (hB : Go.RowKit.Below B w0 w) (hN : B ≤ N) (hs : B ≤ w0.heap.size) (h : Dx Tn N xs w w') : Go.RowKit.Below B w0 w' :=
 ⟨h.os.trans hB.os, h.tape.trans hB.tape, h.output.trans hB.output, Nat.le_trans hB.size h.size, fun k hk => (h.block k (by have := hB.size; omega) (.inl (by omega))).trans (hB.block k hk)⟩
end
section
variable {Tn T : TypeId} {N : Nat} {xs : List Nat} {w w' w'' : World}
theorem Dx.below (h : Go.RowKit.Below w.heap.size w w') : Dx Tn N xs w w' := ⟨h.os, h.tape, h.output, h.size, fun k hk _ => h.block k hk⟩
end
end
end Go.Proofs.YteimkklmmanncaaGreat
