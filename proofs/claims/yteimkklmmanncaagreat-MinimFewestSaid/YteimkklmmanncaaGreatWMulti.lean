/- The walks of package prime, but for the function All. The walk of prime.All. The walks of specs, of package multi, and of the document's rows. -/
import Derived.Test.YteimkklmmanncaaGreatWCube
import Derived.Test.YteimkklmmanncaaGreatLift2
namespace Go.Proofs.YteimkklmmanncaaGreat
set_option linter.unusedVariables false
set_option linter.unusedSimpArgs false
section
open Go Go.RowKit
theorem Ai : dD Tryz.prog 67 = true := by kernel_rfl
theorem qt : dD Tryz.prog 41 = true := by kernel_rfl
theorem Dv : dD Tryz.prog 61 = true := by kernel_rfl
theorem t3 {f : Nat → Value} {w : World} {d : Option Nat} {ty : TypeId} {ps : String} {af : Array Edge} {g : Option (Nat × Bool)}    :
    (execOp (dQ f) ⟨d, .build 40 #[], ty, ps, af, g⟩).run Tryz.prog w = .ok (.value (.agg #[.int .u8 0, .int .u8 0])) w := by
  obtain ⟨i0, hi0, hz0⟩ := Option.bind_eq_some_iff.1 (show (Tryz.prog.info? 40).bind (·.zero) = _ from jj)
  obtain ⟨j5, hj5, hs5⟩ := Option.map_eq_some_iff.1 s8
  simp [execOp, Instr.build, zeroValue, typeInfo, sizeOf, hi0, hz0, run_underlying Tryz.underlying40, Instr.fill, ff, hj5, hs5]
theorem zL : dD Tryz.prog 59 = true := by kernel_rfl
theorem fi : fW Tryz.prog 66 = some (40, 2, 2) := by kernel_rfl
theorem OW : dD Tryz.prog 96 = true := by kernel_rfl
theorem jo : (eQ Tryz.prog 40).map (fun z => z.cells.size) = some 2 := by kernel_rfl
theorem mJ (m u s : Nat) (n : Int) (w : World) (hm : m < 256) (hv : u < 256) :
    Fn Tryz.prog 61 #[.agg #[.int .u8 (m : Int), .int .u8 (u : Int)], eP s, .int .i64 n] w fun v w' => v = .bool (nh m u s n) := by
 refine dr (n := 22) Tryz.func61 rfl rfl (Nat.le_of_ble_eq_true rfl) ?_
 have hB : Below w.heap.size w w := Below.refl _ _
 refine Zr <| Zy (dW (c := #[_, _]) rfl rfl fun B W3 k p a => ?_)
 have C := ZO k hB
 clear k
 replace hB := Ze hB p
 refine Zy (dW (c := #[_, _, _, _]) rfl rfl fun D W6 l o b => ?_)
 have E := ZO l hB
 clear l
 replace hB := Ze hB o
 replace a := o.at a
 refine Zw (.bool false) rfl <| cT <| Zr <| Zv (db rfl dP rfl a) <| Zi rfl <| ZC (vs := [.agg #[_, _], .int .i64 _]) Ai (lu _ _ _ _ (by first | assumption | omega) (by first | assumption | omega)) rfl fun F G g q => ?_
 replace hB := Ze hB g
 replace a := g.at a
 replace b := g.at b
 obtain ⟨sa, er, rfl, hhP1_2⟩ := tK q
 refine Zw (.tuple #[.agg #[_, _, _, _], .int .i64 _]) rfl <| Zv (dK rfl) <| Zv (dM rfl) <| Zy (dw eR rfl fun r t h i d => ?_)
 have x := ZO h hB
 have y := Zn h b.lt
 clear h
 replace hB := Ze hB i
 replace a := i.at a
 replace b := i.at b
 replace d : At t r #[wv 0 0, wv 0 1, wv 0 2, wv 0 3] 49 := d
 refine Zy (dg rfl rfl df rfl d rfl rfl fun H j z => ?_)
 replace hB := Zg hB j x
 replace a := At.grownAt a d j Dd
 replace b := At.grownNe b y j
 replace d := z
 refine Zi rfl <| cT <| Zr <| Zi rfl <| Zv (eD rfl rfl) <| ZX rfl (fun e => ?_) fun e => ?_
 refine Zv (db rfl df rfl d) <| Zv (db rfl df rfl b) <| ZC (vs := [.agg #[_, _, _, _], .agg #[_, _, _, _]]) qt (il _ _ _) rfl fun I J f A => ?_
 replace hB := Ze hB f
 replace a := f.at a
 replace b := f.at b
 replace d := f.at d
 obtain rfl := A
 refine Zb rfl <| Zb rfl <| cT <| Zt <| dE (v := .bool _) rfl ⟨hB, ?_⟩
 first | exact congrArg Value.bool (Iw hhP1_2 e) | exact congrArg Value.bool (FG hhP1_2 e)
 refine Zs <| Zs <| Zs <| Zw (.bool false) rfl <| Zw (.bool false) rfl <| cT <| Zt <| dE (v := .bool false) rfl ⟨hB, ?_⟩
 first | exact congrArg Value.bool (Iw hhP1_2 e) | exact congrArg Value.bool (FG hhP1_2 e)
theorem z6 (c : Cb) (s : Nat) (n : Int) (w : World) (hm : c.m < 256 ∧ c.v < 256) :
    Fn Tryz.prog 87 #[.agg #[.int .u8 (c.m : Int), .int .u8 (c.v : Int)], eP s, .int .i64 n] w fun v w' => v = if nh c.m c.v s n = true then .tuple #[.agg #[.int .u8 ((jM s n c).m : Int), .int .u8 ((jM s n c).v : Int)], .int .i64 0] else .tuple #[.agg #[.int .u8 0, .int .u8 0], .int .i64 1] := by
 refine dr (n := 30) Tryz.func87 rfl rfl (Nat.le_of_ble_eq_true rfl) ?_
 have hB : Below w.heap.size w w := Below.refl _ _
 refine Zr <| Zy (dW (c := #[_, _]) rfl rfl fun G W3 z H a => ?_)
 have I := ZO z hB
 clear z
 replace hB := Ze hB H
 refine Zy (dW (c := #[_, _, _, _]) rfl rfl fun J W6 A B d => ?_)
 have Z := ZO A hB
 clear A
 replace hB := Ze hB B
 replace a := B.at a
 refine Zy (dw jj rfl fun K W9 q r b => ?_)
 have C := ZO q hB
 have t := Zn q a.lt
 clear q
 replace hB := Ze hB r
 replace a := r.at a
 replace d := r.at d
 refine Zw (.int .i64 0) rfl <| cT <| cZ fun aa L => Zr <| Zv (db rfl dP rfl a) <| Zv (db rfl df rfl d) <| Zi rfl <| ZC (vs := [.agg #[_, _], .agg #[_, _, _, _], .int .i64 _]) Dv (mJ _ _ _ _ _ (by first | assumption | omega) (by first | assumption | omega)) rfl fun ab ac h M => ?_
 replace hB := Ze hB h
 replace a := h.at a
 replace d := h.at d
 replace b := h.at b
 obtain rfl := M
 refine Zv (fG rfl) <| cT <| ZQ rfl (fun u => ?_) fun u => ?_
 refine Zr <| Zv (t3 ) <| Zy (dg rfl rfl dP rfl b rfl rfl fun ad x N => ?_)
 replace hB := Zg hB x C
 replace a := At.grownNe a t x
 replace d := At.grownAt d b x Dd
 replace b := N
 refine Zw (.int .i64 1) rfl <| cT <| Zt <| fx rfl dP b rfl (v1 := .int .i64 1) rfl ⟨hB, ?_⟩
 rw [if_neg (by simpa using u)]
 refine c9 <| L _ _ <| cZ fun ae O => ?_
 have hw : nh c.m c.v s n = true := by simpa using u
 obtain ⟨hn0, hn8, _, _⟩ := dV.1 (tq hw)
 refine Zr <| Zi rfl <| Zw (.int .i64 0) rfl <| cT <| c7 ?_
 refine dz (σ := (Nat)) [8, 9, 17, 18, 19, 20, 21, 22, 23, 24, 25, 26, 27, 28] (fun i => [(17, .int .i64 (i : Int))]) (fun i W => (Below w.heap.size w W) ∧ (At W J _ 49) ∧ (At W K _ 40) ∧ (At W G #[.int .u8 ((e7 s n c i).m : Int), .int .u8 ((e7 s n c i).v : Int)] 40) ∧ (i ≤ n.toNat) ∧ (True)) (fun i => n.toNat - i) (0) ⟨rfl, trivial⟩ ⟨hB, d, b, a, (Nat.zero_le _), trivial⟩ ?_
 clear hB a d b
 rintro i af ag ⟨hB, d, b, a, hi, _⟩ ah D
 refine Zr <| Zv (dN rfl rfl) <| cT <| cZ fun ai P => ZQ rfl (fun Q => ?_) fun Q => ?_
 refine c9 <| P _ _ <| cZ fun aj E => c7 <| Zr <| Zi rfl <| Zi rfl <| cT ?_
 have hg := yf (s := s) (n := n) hm i
 have hle := vB (e7 s n c i).m (i : Int)
 have hle2 : (e7 s n c i).v &&& jr (e7 s n c i).m (i : Int) ≤ (e7 s n c i).v := Nat.and_le_left
 refine Zr <| Zv (db rfl dP rfl a) <| Zi rfl <| ZC (vs := [.agg #[_, _], .int .i64 _]) zL (kR _ _ _ _ (by first | assumption | omega) (by first | assumption | omega)) rfl fun ak al j R => ?_
 replace hB := Ze hB j
 replace d := j.at d
 replace b := j.at b
 replace a := j.at a
 obtain rfl := R
 refine Zy (dw jj rfl fun ao ap k l e => ?_)
 have S := ZO k hB
 have T := Zn k b.lt
 have F := Zn k a.lt
 clear k
 replace hB := Ze hB l
 replace d := l.at d
 replace b := l.at b
 replace a := l.at a
 refine Zy (dg rfl rfl dP rfl e rfl rfl fun aq o U => ?_)
 replace hB := Zg hB o S
 replace d := At.grownAt d e o Dd
 replace b := At.grownNe b T o
 replace a := At.grownNe a F o
 replace e := U
 refine cT <| Zr <| Zv (db rfl dP rfl e) <| Zv (db rfl df rfl d) <| Zi rfl <| ZC (vs := [.agg #[_, _], .agg #[_, _, _, _], .int .i64 _]) Dv (mJ _ _ _ _ _ (by first | assumption | omega) (by first | assumption | omega)) rfl fun ar au f V => ?_
 replace hB := Ze hB f
 replace d := f.at d
 replace b := f.at b
 replace a := f.at a
 replace e := f.at e
 obtain rfl := V
 refine cT <| ZQ rfl (fun g => ?_) fun g => ?_
 refine cY <| Zv (db rfl dP rfl e) <| Zy (dg rfl rfl dP rfl a rfl rfl fun av p X => ?_)
 replace hB := Zg hB p I
 replace d := At.grownAt d a p Dd
 replace b := At.grownNe b (Ne.symm t) p
 replace e := At.grownNe e (Ne.symm F) p
 replace a := X
 refine cT <| E _ _ <| cY <| Zv (dp rfl rfl Om Om) <| Zi rfl <| cT ?_
 exact D _ _ (i + 1) Za ⟨rfl, trivial⟩ ⟨hB, d, b, (by first | (rw [vL g]; exact a) | (rw [wQ g]; exact a)), Om, trivial⟩ Zo
 refine c9 <| E _ _ <| cY <| Zv (dp rfl rfl Om Om) <| Zi rfl <| cT ?_
 exact D _ _ (i + 1) Za ⟨rfl, trivial⟩ ⟨hB, d, b, (by first | (rw [vL g]; exact a) | (rw [wQ g]; exact a)), Om, trivial⟩ Zo
 refine dt <| O _ _ <| Zr <| Zv (db rfl dP rfl a) <| Zy (dg rfl rfl dP rfl b rfl rfl fun aw y Y => ?_)
 replace hB := Zg hB y C
 replace d := At.grownAt d b y Dd
 replace a := At.grownNe a t y
 replace b := Y
 refine Zw (.int .i64 0) rfl <| cT <| Zt <| fx rfl dP b rfl (v1 := .int .i64 0) rfl ⟨hB, ?_⟩
 have hin : i = n.toNat := by omega
 subst hin
 rw [if_pos hw]
 rfl
theorem tn (b m u m2 u2 : Nat) (w : World) (hb : At w b #[.int .u8 (m2 : Int), .int .u8 (u2 : Int)] 40) :
    Fn Tryz.prog 96 #[.agg #[.int .u8 (m : Int), .int .u8 (u : Int)], .pointer (some ⟨b, 0, none⟩)] w fun v w' => v = .bool (wj ⟨m, u⟩ ⟨m2, u2⟩) := by
 refine dr (n := 23) Tryz.func96 rfl rfl (Nat.le_of_ble_eq_true rfl) ?_
 have hB : Below w.heap.size w w := Below.refl _ _
 refine Zr <| Zy (dW (c := #[_, _]) rfl rfl fun h W3 f g e => ?_)
 have i := ZO f hB
 clear f
 replace hB := Ze hB g
 refine Zw (.bool false) rfl <| cT <| Zr <| Zf rfl eX <| Zl rfl ek e rfl <| Zf rfl eX <| Zl rfl ek (Below.atI hB hb) rfl <| Zv (dN rfl rfl) <| ZX rfl (fun a => ?_) fun a => ?_
 refine Zs <| Zs <| Zs <| Zs <| Zs <| Zs <| Zs <| Zs <| Zs <| Zs <| Zs <| Zs <| Zw (.bool true) rfl <| Zw (.bool true) rfl ?_
 refine cT <| Zt <| dE (v := .bool true) rfl ⟨hB, ?_⟩
 first | exact congrArg Value.bool (J6 a) | exact congrArg Value.bool (Hz a d) | exact congrArg Value.bool (Ko a d)
 refine Zf rfl eX <| Zl rfl ek e rfl <| Zf rfl eX <| Zl rfl ek (Below.atI hB hb) rfl <| Zv (eD rfl rfl) <| ZX rfl (fun d => ?_) fun d => ?_
 refine Zf rfl gC <| Zl rfl ek e rfl <| Zf rfl gC <| Zl rfl ek (Below.atI hB hb) rfl <| Zv (dN rfl rfl) <| Zb rfl <| Zb rfl <| Zb rfl <| cT <| Zt <| dE (v := .bool _) rfl ⟨hB, ?_⟩
 first | exact congrArg Value.bool (J6 a) | exact congrArg Value.bool (Hz a d) | exact congrArg Value.bool (Ko a d)
 refine Zs <| Zs <| Zs <| Zs <| Zs <| Zw (.bool false) rfl <| Zw (.bool false) rfl <| Zw (.bool false) rfl <| cT <| Zt <| dE (v := .bool false) rfl ⟨hB, ?_⟩
 first | exact congrArg Value.bool (J6 a) | exact congrArg Value.bool (Hz a d) | exact congrArg Value.bool (Ko a d)
theorem vR (x : Value) (l : List Cb) (c : Cb) (w : World) (hl : dO ib 2 w x l) (hn : l.length ≤ 70000) :
    Fn Tryz.prog 60 #[x, .agg #[.int .u8 (c.m : Int), .int .u8 (c.v : Int)]] w fun v w' => dh ib 2 40 w' w.heap.size v (Aq l c) := by
 refine dr (n := 35) Tryz.func60 rfl rfl (Nat.le_of_ble_eq_true rfl) ?_
 have hB : Below w.heap.size w w := Below.refl _ _
 have hC : l.length ≤ jf x := (Sl.eqv hl).2.1
 refine Zr <| Zy (dW (c := #[_, _]) rfl rfl fun h W3 K Q b => ?_)
 have Z := ZO K hB
 clear K
 replace hB := Ze hB Q
 refine Zw (.slice none 0 0) rfl <| cT <| Zr <| Zv (gZ (vs := #[.pointer (some ⟨h, 0, none⟩)]) (by simp only [List.map_toArray, List.map_cons, List.map_nil]; rfl)) <| Zw (.func (.func 96) #[] #[.pointer (some ⟨h, 0, none⟩)]) rfl <| cT <| Zr <| Zw x rfl <| Zv (dB (v := x) rfl (Below.slT hB hl) fi) <| Zi rfl <| cT <| cZ fun aa L => c7 ?_
 refine dz (σ := (Nat)) [6, 10, 11, 12, 13, 14, 15, 16, 17, 18, 19, 20, 21, 22, 23] (fun i => [(6, .int .i64 (i : Int))]) (fun i W => (Below w.heap.size w W) ∧ (At W h _ 40) ∧ (i ≤ l.length) ∧ (nf l c l.length = nf l c i) ∧ (True)) (fun i => i) (l.length) ⟨rfl, trivial⟩ ⟨hB, b, (Nat.le_refl _), rfl, trivial⟩ ?_
 clear hB b
 rintro i ab ac ⟨hB, b, hi, hp, _⟩ ad R
 refine cZ fun ae S => Zr <| Zi rfl <| Zv (jp rfl rfl) <| ZX rfl (fun T => ?_) fun T => ?_
 refine Zw (.func (.func 96) #[] #[.pointer (some ⟨h, 0, none⟩)]) rfl <| Zw x rfl <| Zi rfl <| Zv (kD rfl rfl Om Om) <| Zv (dI (v := x) rfl (Below.slT hB hl) rfl fi Om (by first | omega | (simp only [cV, cW, cX, da]; omega))) <| Zv (g7 rfl dP (dO.cell (Below.slT hB hl) gw ⟨0, 0⟩ Om (by first | omega | (simp only [cV, cW, cX, da]; omega)) 0 rfl) (dO.cell (Below.slT hB hl) gw ⟨0, 0⟩ Om (by first | omega | (simp only [cV, cW, cX, da]; omega)) 1 rfl)) ?_
 refine qI (dd := some 19) rfl rfl rfl (ka (q := 96) (first := #[]) (cap := #[.pointer (some ⟨h, 0, none⟩)]) (vs := #[.agg #[_, _], .pointer (some ⟨h, 0, none⟩)]) rfl OW (by simp only [List.map_toArray, List.map_cons, List.map_nil, List.append_toArray, List.nil_append, List.cons_append]; rfl)) (tn _ _ _ _ _ _ b) (fun af ag M U => ?_)
 replace hB := Ze hB M
 replace b := M.at b
 obtain rfl := U
 refine Zv (fG rfl) <| Zb rfl <| cT <| ZQ rfl (fun p => ?_) fun p => ?_
 refine c9 <| S _ _ <| c7 <| cY <| Zi rfl <| Zv (kD rfl rfl Om Om) <| Zi rfl <| cT ?_
 exact R _ _ (i - 1) Za ⟨congrArg (Value.int .i64) (by omega : (i : Int) - 1 = ((i - 1 : Nat) : Int)), trivial⟩ ⟨hB, b, Om, (hp.trans (HD Om p)), trivial⟩ Zo
 refine dt <| L _ _ ?_
 have hpos : nf l c l.length = i := hp.trans (F6 (by first | exact .inl (by omega) | exact .inr p))
 have hil : ((i : Nat) : Int).toNat = i := rfl
 refine Zd d9 fun V O => ?_
 replace hB := Ze hB O
 replace b := O.at b
 have hS := d9.refl V
 refine Tw 0 x rfl rfl hS <| Ti 1 rfl rfl hS <| Ti 2 rfl rfl hS <| Tk 3 rfl (fun _ hq => mA (v := x) rfl (hq.slT (Below.slT hB hl)) fi rfl rfl Om Om Om) hS ?_
 have B : dO ib 2 w (gg 2 x 0 i i) ((l.drop 0).take (i - 0)) := dO.part gw hl (by omega) (by omega) (by omega) (by omega)
 refine Tk 4 rfl (fun _ hq => db rfl dP rfl (hq.at b)) hS <| Tw 6 x rfl rfl hS <| Ti 7 rfl rfl hS <| Tk 8 rfl (fun _ hq => mw (v := x) rfl (hq.slT (Below.slT hB hl)) fi rfl Om Om) hS ?_
 have C : dO ib 2 w (gg 2 x i l.length (jf x)) ((l.drop i).take (l.length - i)) := dO.part gw hl (by omega) (by omega) (by omega) (by omega)
 refine To 5 rfl (eU (u := .agg #[_, _]) rfl fi jo rfl Dd Dd fun g ah r s D => ⟨.inl (hS.trans s), ?_⟩)
 have E := ZO r hB
 have k := Nat.le_trans (d9.size hS) (Nat.le_of_eq r.symm)
 have X := Zn r b.lt
 clear r
 replace hB := Ze hB s
 replace b := s.at b
 replace hS := hS.trans s
 have F := iE (enc := ib) (a := c) D rfl rfl E
 refine To 9 rfl (eC (v := .slice (some ⟨g, 0, none⟩) 1 1) (v2 := gg 2 x i l.length (jf x)) rfl rfl fi jo Dd F (Below.slT hB C) (oO) (by have := Below.size hB; omega) (by simp; omega) (by simp; omega) fun G ai H d => ⟨.inl (du hS H (Nat.le_refl _) (fun j hj => by have e : g = j := Option.some.inj hj; rw [← e]; exact k)), ?_⟩)
 replace hS : d9 _ _ := du hS H (Nat.le_refl _) (fun j hj => by have e : g = j := Option.some.inj hj; rw [← e]; exact k)
 replace d := dh.app (enc := ib) rfl rfl rfl rfl d
 replace hB := ZG hB H F
 clear F
 refine To 10 rfl (jJ (N := w.heap.size) (v := gg 2 x 0 i i) (v2 := G) rfl rfl fi jo (Below.slT hB B) (qx (by simp; omega)) d.sl (by simp) (Below.size hB) (by simp; omega) (by simp; omega) fun o aj t f => ⟨.inl (hS.trans t), ?_⟩)
 replace f := dh.app (enc := ib) rfl rfl rfl rfl f
 replace hB := Ze hB t
 replace d := t.ow d
 replace hS := hS.trans t
 refine Tw 11 o rfl rfl hS <| Td <| Zt <| dE (v := o) rfl ⟨hB, ?_⟩
 have e : (l.drop i).take (l.length - i) = l.drop i := List.take_of_length_le (by simp)
 rw [e] at f
 rw [Aq, hpos]
 simpa using f
 refine Zs <| Zs <| Zs <| Zs <| Zs <| Zs <| Zs <| Zs <| Zw (.bool false) rfl <| cT <| d4 rfl <| dt <| L _ _ ?_
 have hpos : nf l c l.length = i := hp.trans (F6 (by first | exact .inl (by omega) | exact .inr p))
 have hil : ((i : Nat) : Int).toNat = i := rfl
 refine Zd d9 fun Y P => ?_
 replace hB := Ze hB P
 replace b := P.at b
 have hS := d9.refl Y
 refine Tw 0 x rfl rfl hS <| Ti 1 rfl rfl hS <| Ti 2 rfl rfl hS <| Tk 3 rfl (fun _ hq => mA (v := x) rfl (hq.slT (Below.slT hB hl)) fi rfl rfl Om Om Om) hS ?_
 have B : dO ib 2 w (gg 2 x 0 i i) ((l.drop 0).take (i - 0)) := dO.part gw hl (by omega) (by omega) (by omega) (by omega)
 refine Tk 4 rfl (fun _ hq => db rfl dP rfl (hq.at b)) hS <| Tw 6 x rfl rfl hS <| Ti 7 rfl rfl hS <| Tk 8 rfl (fun _ hq => mw (v := x) rfl (hq.slT (Below.slT hB hl)) fi rfl Om Om) hS ?_
 have C : dO ib 2 w (gg 2 x i l.length (jf x)) ((l.drop i).take (l.length - i)) := dO.part gw hl (by omega) (by omega) (by omega) (by omega)
 refine To 5 rfl (eU (u := .agg #[_, _]) rfl fi jo rfl Dd Dd fun g ak y z D => ⟨.inl (hS.trans z), ?_⟩)
 have E := ZO y hB
 have k := Nat.le_trans (d9.size hS) (Nat.le_of_eq y.symm)
 have X := Zn y b.lt
 clear y
 replace hB := Ze hB z
 replace b := z.at b
 replace hS := hS.trans z
 have I := iE (enc := ib) (a := c) D rfl rfl E
 refine To 9 rfl (eC (v := .slice (some ⟨g, 0, none⟩) 1 1) (v2 := gg 2 x i l.length (jf x)) rfl rfl fi jo Dd I (Below.slT hB C) (oO) (by have := Below.size hB; omega) (by simp; omega) (by simp; omega) fun G al J d => ⟨.inl (du hS J (Nat.le_refl _) (fun j hj => by have e : g = j := Option.some.inj hj; rw [← e]; exact k)), ?_⟩)
 replace hS : d9 _ _ := du hS J (Nat.le_refl _) (fun j hj => by have e : g = j := Option.some.inj hj; rw [← e]; exact k)
 replace d := dh.app (enc := ib) rfl rfl rfl rfl d
 replace hB := ZG hB J I
 clear I
 refine To 10 rfl (jJ (N := w.heap.size) (v := gg 2 x 0 i i) (v2 := G) rfl rfl fi jo (Below.slT hB B) (qx (by simp; omega)) d.sl (by simp) (Below.size hB) (by simp; omega) (by simp; omega) fun o ao A f => ⟨.inl (hS.trans A), ?_⟩)
 replace f := dh.app (enc := ib) rfl rfl rfl rfl f
 replace hB := Ze hB A
 replace d := A.ow d
 replace hS := hS.trans A
 refine Tw 11 o rfl rfl hS <| Td <| Zt <| dE (v := o) rfl ⟨hB, ?_⟩
 have e : (l.drop i).take (l.length - i) = l.drop i := List.take_of_length_le (by simp)
 rw [e] at f
 rw [Aq, hpos]
 simpa using f
end
section
open Go Go.RowKit
theorem wB : dD Tryz.prog 33 = true := by kernel_rfl
theorem ly : l6 Tryz.prog 97 = some (40, 4) := by kernel_rfl
theorem m9 : pd Tryz.prog 40 (fun v => ∃ a : Cb, v = iN a) := by
  refine ol Tryz.underlying40 ?_ ?_ ?_ ?_
  · rintro w _ _ ⟨a, rfl⟩ ⟨c, rfl⟩
    have hg : Tryz.prog.eqGuardType Tryz.prog.depth 40 = false := by kernel_rfl
    exact ⟨_, qy hg (F1 rfl rfl), by rw [decide_eq_true_eq]; constructor <;> intro h <;> simpa [iN] using h⟩
  · rintro _ _ ⟨a, rfl⟩ ⟨c, rfl⟩
    exact .inl rfl
  · rintro w em _ ⟨a, rfl⟩
    have h2 : ∀ k, (Instr.checkKey em (k + 1 + 1 + 1) 40 (iN a)).run Tryz.prog w = .ok () w := fun k => by
      simp [iN, Instr.checkKey, part, isAgg, run_underlying Tryz.underlying40, run_underlying Tryz.underlying5]
    exact h2 9997
  · rintro _ ⟨a, rfl⟩
    simp [iN, Instr.sameBits]
theorem Pn : dD Tryz.prog 60 = true := by kernel_rfl
theorem B4 (s : Nat) (n : Int) (w : World) :
    Fn Tryz.prog 35 #[eP s, .int .i64 n] w fun v w' => if uP s n = true then ∃ x, v = .tuple #[x, .int .i64 0] ∧ dh ib 2 40 w' w.heap.size x (eE s n) else v = .tuple #[.slice none 0 0, .int .i64 1] := by
 refine dr (n := 105) Tryz.func35 rfl rfl (Nat.le_of_ble_eq_true rfl) ?_
 have hB : Below w.heap.size w w := Below.refl _ _
 refine Zr <| Zy (dW (c := #[_, _, _, _]) rfl rfl fun ac W3 aE aV e => ?_)
 have bR := ZO aE hB
 clear aE
 replace hB := Ze hB aV
 refine Zw (.slice none 0 0) rfl <| Zw (.int .i64 0) rfl <| cT <| Zr <| Zi rfl <| ZC wB (oe _ _) rfl fun bS W8 aF aW => ?_
 replace hB := Ze hB aF
 replace e := aF.at e
 obtain ⟨sa, er, rfl, hhP1_1⟩ := qJ aW
 refine Zw (.tuple #[.agg #[_, _, _, _], .int .i64 _]) rfl <| Zv (dK rfl) <| Zv (dM rfl) <| Zy (dw eR rfl fun Z aX aq aG f => ?_)
 have aY := ZO aq hB
 have aZ := Zn aq e.lt
 clear aq
 replace hB := Ze hB aG
 replace e := aG.at e
 replace f : At aX Z #[wv 0 0, wv 0 1, wv 0 2, wv 0 3] 49 := f
 refine Zy (dg rfl rfl df rfl f rfl rfl fun bT aH a0 => ?_)
 replace hB := Zg hB aH aY
 replace e := At.grownNe e aZ aH
 replace f := a0
 refine Zi rfl <| cT <| cZ fun bU a1 => Zr <| Zi rfl <| Zv (gq rfl rfl) <| ZX rfl (fun ag => ?_) fun ag => ?_
 refine Zs <| Zs <| Zs <| Zs <| Zw (.bool true) rfl <| cT <| dA rfl <| Zr <| Zw (.slice none 0 0) rfl <| Zw (.int .i64 1) rfl <| cT <| Zt <| d8 (v := .slice none 0 0) rfl (v1 := .int .i64 1) rfl ⟨hB, ?_⟩
 rw [if_neg (E0 hhP1_1 ag)]
 refine Zv (db rfl df rfl e) <| Zv (db rfl df rfl f) <| ZC (vs := [.agg #[_, _, _, _], .agg #[_, _, _, _]]) qt (il _ _ _) rfl fun bV bW ar a2 => ?_
 replace hB := Ze hB ar
 replace e := ar.at e
 replace f := ar.at f
 obtain rfl := a2
 refine Zv (fG rfl) <| Zb rfl <| cT <| ZQ rfl (fun au => ?_) fun au => ?_
 refine Zr <| Zw (.slice none 0 0) rfl <| Zw (.int .i64 1) rfl <| cT <| Zt <| d8 (v := .slice none 0 0) rfl (v1 := .int .i64 1) rfl ⟨hB, ?_⟩
 rw [if_neg (E4 hhP1_1 ag au)]
 refine c9 <| a1 _ _ ?_
 have hof : uP s n = true := KL hhP1_1 ag au
 obtain ⟨hn0, hn8⟩ := ko hof
 have hll := lc s
 refine Zr <| Zy (gN (enc := iN) (encV := Value.bool) fun ah bX aI av z => ?_)
 have a3 := ZO aI hB
 clear aI
 replace hB := Ze hB av
 replace e := av.at e
 replace f := av.at f
 replace z : dT iN Value.bool _ _ (fF []) := z
 refine Zw (.map (some ah)) rfl <| cT <| cZ fun bY a4 => Zr <| Zv (db rfl df rfl e) <| ZC (vs := [.agg #[_, _, _, _]]) xz (mT _ _) rfl fun V bZ ai h => ?_
 have a5 := (Below.size hB)
 replace hB := Ze hB ai
 replace e := ai.at e
 replace f := ai.at f
 replace z := ai.mapT z
 replace h := dh.mono h a5
 refine Zv (dB (v := V) rfl h.sl dy) <| Zw (.int .i64 0) rfl <| cT <| c7 ?_
 refine dz (σ := (Nat) × (List Cb)) [10, 35, 36, 37, 38, 39, 40, 41, 42, 43, 44, 45, 46] (fun (k, ks) => [(35, .int .i64 (k : Int))]) (fun sg W => match sg with | (k, ks) => (Below w.heap.size w W) ∧ (At W ac _ 49) ∧ (At W Z _ 49) ∧ (dh ee 1 3 W w.heap.size V _) ∧ (dT iN Value.bool W ah (fF ks)) ∧ (k ≤ (eo s).length) ∧ (∀ c, c ∈ ks ↔ ∃ j, j < k ∧ c = ⟨2 ^ n.toNat - 1, ((eo s).getD j 0).toNat⟩) ∧ (True)) (fun (k, ks) => (eo s).length - k) ((0, [])) ⟨rfl, trivial⟩ ⟨hB, e, f, h, z, (Nat.zero_le _), (fun c => by simp), trivial⟩ ?_
 clear hB e f z h
 rintro ⟨k, ks⟩ b0 b1 ⟨hB, e, f, h, z, hk, hks, _⟩ b2 a6
 refine Zr <| Zv (dN rfl rfl) <| cT <| cZ fun b3 a7 => ZQ rfl (fun a8 => ?_) fun a8 => ?_
 refine c9 <| a7 _ _ <| cZ fun b4 a9 => c7 <| Zr <| Zv (dI (v := V) rfl h.sl rfl dy Om (by first | omega | (simp only [cV, cW, cX, da]; omega))) <| Zv (dk (v := .int .i64 _) rfl dC (dO.cell h.sl eI 0 Om (by first | omega | (simp only [cV, cW, cX, da]; omega)) 0 rfl)) <| Zi rfl <| cT ?_
 obtain ⟨p, b5, b6, aJ⟩ := lj (s := s) (i := k) (by omega)
 refine cY <| Zw (.map (some ah)) rfl <| Zi rfl <| Zv (NZ rfl rfl hn0) <| Zv (P3 rfl rfl hn0 hn8) <| Zi rfl <| Zv (iB (m := p) (congrArg (Value.int .i64) aJ) Tryz.underlying3 Tryz.underlying5 (by simp only [d7]; omega)) <| Zv (kV (h0 := rfl) (k0 := rfl) (h1 := rfl) (k1 := rfl) (c0_0 := .int .u8 _) (c1_0 := .int .u8 _)) ?_
 refine gW (dd := none) rfl rfl rfl (fS (enc := iN) (encV := Value.bool) (k := ⟨_, _⟩) (v := true) rfl rfl rfl ly m9 (fun a => ⟨a, rfl⟩) mP z (fun b7 aj ba => ?_))
 replace hB := Zg hB aj a3
 replace e := At.grownMap e z aj
 replace f := At.grownMap f z aj
 replace h := dh.grownMap h z aj
 replace z := ba
 rw [jz] at z
 refine cT <| a9 _ _ <| cY <| Zv (dp rfl rfl Om Om) <| Zi rfl <| cT ?_
 exact a6 _ _ ((k + 1, iJ ks ⟨2 ^ n.toNat - 1, p⟩)) Za ⟨rfl, trivial⟩ ⟨hB, e, f, h, z, Om, (Gy hks aJ), trivial⟩ (by show (eo s).length - (k + 1) < (eo s).length - k; omega)
 refine dt <| a4 _ _ <| Zr <| Zw (.slice none 0 0) rfl <| cT <| cZ fun b8 bb => c7 ?_
 refine dz (σ := (Nat) × (List Cb) × (Value) × (List Cb) × (Nat)) [8, 11, 12, 13, 14, 15, 16, 17, 47, 48, 49, 50, 51, 52, 53, 54, 55, 56, 57, 58, 59, 60, 61, 62, 63, 64, 65, 66, 67, 68, 69, 70, 71, 72, 73, 74, 75, 76, 77, 78, 79, 80, 81, 82, 83, 84, 85, 86, 87, 88, 89, 90, 91, 92, 93, 94, 95, 96, 97, 98, 99, 100, 101, 102, 103] (fun (bn, now, v0, out, t) => [(8, .map (some bn)), (11, v0)]) (fun sg W => match sg with | (bn, now, v0, out, t) => (Below w.heap.size w W) ∧ (At W ac _ 49) ∧ (At W Z _ 49) ∧ (dh ee 1 3 W w.heap.size V _) ∧ (dT iN Value.bool W bn (fF now)) ∧ (dh ib 2 40 W w.heap.size v0 (out)) ∧ (nT s n t now) ∧ (xF s n t out) ∧ (i5 out) ∧ (t ≤ n.toNat + 1) ∧ (True)) (fun (bn, now, v0, out, t) => t) ((ah, ks, .slice none 0 0, [], n.toNat + 1)) ⟨rfl, rfl, trivial⟩ ⟨hB, e, f, h, z, dh.nil, (CO hof (Iz hks Om)), JS, List.Pairwise.nil, (Nat.le_refl _), trivial⟩ ?_
 clear hB e f h z
 rintro ⟨bn, now, v0, out, t⟩ b9 ca ⟨hB, e, f, h, hmN, ho, hLv, hOut, hRis, ht, _⟩ cb bc
 refine cZ fun cc bd => Zr <| Zw (.map (some bn)) rfl <| Zv (KX rfl ly hmN) <| Zv (jp rfl rfl) <| cT <| ZQ rfl (fun aw => ?_) fun aw => ?_
 refine c9 <| bd _ _ <| c7 ?_
 obtain ⟨t', rfl⟩ := GK hLv aw
 refine Zr <| Zy (gN (enc := iN) (encV := Value.bool) fun E cd ax aa g => ?_)
 have aK := ZO ax hB
 have ak := Zn ax hmN.lt
 clear ax
 replace hB := Ze hB aa
 replace e := aa.at e
 replace f := aa.at f
 replace h := aa.ow h
 replace hmN := aa.mapT hmN
 replace ho := aa.ow ho
 replace g : dT iN Value.bool _ _ (fF []) := g
 refine Zy (gN (enc := iN) (encV := Value.bool) fun ab ce al X l => ?_)
 have bf := ZO al hB
 have aL := Zn al hmN.lt
 have ay := Zn al g.lt
 clear al
 replace hB := Ze hB X
 replace e := X.at e
 replace f := X.at f
 replace h := X.ow h
 replace hmN := X.mapT hmN
 replace ho := X.ow ho
 replace g := X.mapT g
 replace l : dT iN Value.bool _ _ (fF []) := l
 refine Zw (.map (some E)) rfl <| Zw (.map (some ab)) rfl <| cT <| cZ fun cf bg => Zr <| Zw (.map (some bn)) rfl <| Zy (Ad rfl ly hmN fun aM cg aN S o => ?_)
 have bh := ZO aN hB
 clear aN
 replace hB := Ze hB S
 replace e := S.at e
 replace f := S.at f
 replace h := S.ow h
 replace hmN := S.mapT hmN
 replace ho := S.ow ho
 replace g := S.mapT g
 replace l := S.mapT l
 refine cT <| c7 ?_
 refine dz (σ := (List Cb) × (List Cb) × (List Cb)) [14, 15, 16, 54, 55, 56, 57, 58, 59, 60, 61, 62, 63, 64, 65, 66, 67, 68, 69, 70, 71, 72, 73, 74, 75, 76, 77, 78, 79, 80, 81, 82, 83, 84, 85, 86, 87, 88, 89] (fun (seen, nl, ml) => []) (fun sg W => match sg with | (seen, nl, ml) => (Below w.heap.size w W) ∧ (At W ac _ 49) ∧ (At W Z _ 49) ∧ (dh ee 1 3 W w.heap.size V _) ∧ (dT iN Value.bool W bn _) ∧ (dh ib 2 40 W w.heap.size v0 _) ∧ (eL iN Value.bool W aM bn (fF now) seen) ∧ (dT iN Value.bool W E (fF nl)) ∧ (dT iN Value.bool W ab (fF ml)) ∧ (∀ d, d ∈ nl ↔ jG now n seen d) ∧ (∀ d, d ∈ ml ↔ gt now n seen d) ∧ (True)) (fun (seen, nl, ml) => (fF now).length - seen.length) (([], [], [])) trivial ⟨hB, e, f, h, hmN, ho, o, g, l, En, zH, trivial⟩ ?_
 clear hB e f h hmN ho g l o
 rintro ⟨seen, nl, ml⟩ ch ci ⟨hB, e, f, h, hmN, ho, o, g, l, hN, hM, _⟩ cj bi
 refine Zr ?_
 refine gW (dd := some 54) rfl rfl rfl (DN rfl o (fun bj => ?_) (fun A ck cl aO cm T bk => ?_))
 refine Zv (vP rfl) <| cT <| cZ fun cn co => d4 rfl <| dt <| bg _ _ <| cZ fun cp bl => ?_
 have hseen := CB o bj
 have hN' := Hg hN hseen
 have hM' := Bf hM hseen
 refine Zr <| Zw (.map (some bn)) rfl <| Zy (Ad rfl ly hmN fun bm cq aP N u => ?_)
 have bo := ZO aP hB
 clear aP
 replace hB := Ze hB N
 replace e := N.at e
 replace f := N.at f
 replace h := N.ow h
 replace hmN := N.mapT hmN
 replace ho := N.ow ho
 replace o := N.iterT o
 replace g := N.mapT g
 replace l := N.mapT l
 refine cT <| c7 ?_
 refine dz (σ := (List Cb) × (Value) × (List Cb)) [11, 17, 92, 93, 94, 95, 96, 97, 98, 99, 100, 101, 102] (fun (seen2, v2, out2) => [(11, v2)]) (fun sg W => match sg with | (seen2, v2, out2) => (Below w.heap.size w W) ∧ (At W ac _ 49) ∧ (At W Z _ 49) ∧ (dh ee 1 3 W w.heap.size V _) ∧ (dT iN Value.bool W bn _) ∧ (dT iN Value.bool W E _) ∧ (dT iN Value.bool W ab _) ∧ (eL iN Value.bool W bm bn (fF now) seen2) ∧ (dh ib 2 40 W w.heap.size v2 (out2)) ∧ (∀ c, c ∈ out2 ↔ c ∈ out ∨ (c ∈ seen2 ∧ c ∉ ml)) ∧ (i5 out2) ∧ (True)) (fun (seen2, v2, out2) => (fF now).length - seen2.length) (([], v0, out)) ⟨rfl, trivial⟩ ⟨hB, e, f, h, hmN, g, l, u, ho, OU, hRis, trivial⟩ ?_
 clear hB e f h hmN ho o g l u
 rintro ⟨seen2, v2, out2⟩ cr cs ⟨hB, e, f, h, hmN, g, l, u, B, ad, hR2, _⟩ ct aQ
 refine Zr ?_
 refine gW (dd := some 92) rfl rfl rfl (DN rfl u (fun bp => ?_) (fun Y cu cv aR bq U br => ?_))
 refine Zv (vP rfl) <| cT <| cZ fun cw cx => d4 rfl <| dt <| bl _ _ ?_
 have hseen2 := CB u bp
 refine cY <| Zw (.map (some E)) rfl <| Zw (.map (some E)) rfl <| cT ?_
 exact bc _ _ ((E, nl, v2, out2, t')) Za ⟨rfl, rfl, trivial⟩ ⟨hB, e, f, h, g, (by exact B), (DC hn8 hLv Om hN'), (HW hLv hOut hM' (Lm ad hseen2)), hR2, Om, trivial⟩ (by show t' < t' + 1; omega)
 replace hB := Zg hB U bo
 replace e := At.grownIter e u U
 replace f := At.grownIter f u U
 replace h := dh.grownIter h u U
 replace hmN := dT.grownIter hmN u U
 replace g := dT.grownIter g u U
 replace l := dT.grownIter l u U
 replace B := dh.grownIter B u U
 replace u := br
 refine Zv (m7 rfl) <| cT <| cZ fun cy bs => dA rfl <| c9 <| bs _ _ <| c7 ?_
 have hkn := (Bi aR).1
 obtain ⟨hkm, hkv⟩ := xh hLv hn8 hkn
 refine Zr <| Zv (Av rfl u aR) <| Zv (dK rfl) <| Zy (dw jj rfl fun bt cz az O C => ?_)
 have bu := ZO az hB
 have bv := dh.neB (b := bt) B (Nat.le_of_eq az.symm)
 clear az
 replace hB := Ze hB O
 replace e := O.at e
 replace f := O.at f
 replace h := O.ow h
 replace hmN := O.mapT hmN
 replace g := O.mapT g
 replace l := O.mapT l
 replace u := O.iterT u
 replace B := O.ow B
 refine Zy (dg rfl rfl dP rfl C rfl rfl fun cA P bw => ?_)
 replace hB := Zg hB P bu
 replace e := At.grownAt e C P Dd
 replace f := At.grownAt f C P Dd
 replace h := dh.grownAt h C P Dd
 replace hmN := dT.grownAt hmN C P
 replace g := dT.grownAt g C P
 replace l := dT.grownAt l C P
 replace u := eL.grownAt u C P
 replace B := dh.grownAtNe B bv P
 replace C := bw
 refine cT <| Zr <| Zw (.map (some ab)) rfl <| Zv (db rfl dP rfl C) <| Zv (f7 (enc := iN) (encV := Value.bool) (v0 := false) (k := ⟨Y.m, Y.v⟩) rfl rfl ly m9 (fun a => ⟨a, rfl⟩) mP pp rfl l) <| Zv (fG rfl) <| cT <| ZQ rfl (fun aA => ?_) fun aA => ?_
 have hsm := Ip hLv hn8 hOut ad (fun c hc => AZ u c (List.mem_cons_of_mem _ hc)) hR2
 refine cY <| Zw v2 rfl <| Zv (db rfl dP rfl C) <| ZC (vs := [v2, .agg #[_, _]]) Pn (vR _ _ _ _ B.sl (by first | assumption | omega)) rfl fun aS cB J ao => ?_
 have bx := dh.lt2 B
 have bz := (Below.size hB)
 replace hB := Ze hB J
 replace e := J.at e
 replace f := J.at f
 replace h := J.ow h
 replace hmN := J.mapT hmN
 replace g := J.mapT g
 replace l := J.mapT l
 replace u := J.iterT u
 replace B := J.ow B
 replace C := J.at C
 have cC := eW.new bx ao
 replace ao := dh.mono ao bz
 refine Zw aS rfl <| cT ?_
 exact aQ _ _ ((Y :: seen2, aS, Aq out2 Y)) Za ⟨rfl, trivial⟩ ⟨hB, e, f, h, hmN, g, l, u, (by exact ao), (Mc ad (D7 aA)), (Ce hR2 (Qd hLv hOut ad hkn bq)), trivial⟩ (by have hle := eL.len_le u; show (fF now).length - (Y :: seen2).length < (fF now).length - seen2.length; simp only [List.length_cons] at hle ⊢; omega)
 refine c9 ?_
 exact aQ _ _ ((Y :: seen2, v2, out2)) Za ⟨rfl, trivial⟩ ⟨hB, e, f, h, hmN, g, l, u, (by exact B), (MG ad (Cc aA)), hR2, trivial⟩ (by have hle := eL.len_le u; show (fF now).length - (Y :: seen2).length < (fF now).length - seen2.length; simp only [List.length_cons] at hle ⊢; omega)
 replace hB := Zg hB T bh
 replace e := At.grownIter e o T
 replace f := At.grownIter f o T
 replace h := dh.grownIter h o T
 replace hmN := dT.grownIter hmN o T
 replace ho := dh.grownIter ho o T
 replace g := dT.grownIter g o T
 replace l := dT.grownIter l o T
 replace o := bk
 refine Zv (m7 rfl) <| cT <| cZ fun cD bA => dA rfl <| c9 <| bA _ _ <| c7 ?_
 have hkn := (Bi aO).1
 obtain ⟨hkm, hkv⟩ := xh hLv hn8 hkn
 refine Zr <| Zv (Av rfl o aO) <| Zv (dK rfl) <| Zy (dw jj rfl fun aT cE aB Q r => ?_)
 have bB := ZO aB hB
 have bC := dh.neB (b := aT) ho (Nat.le_of_eq aB.symm)
 clear aB
 replace hB := Ze hB Q
 replace e := Q.at e
 replace f := Q.at f
 replace h := Q.ow h
 replace hmN := Q.mapT hmN
 replace ho := Q.ow ho
 replace o := Q.iterT o
 replace g := Q.mapT g
 replace l := Q.mapT l
 refine Zy (dg rfl rfl dP rfl r rfl rfl fun cF R bD => ?_)
 replace hB := Zg hB R bB
 replace e := At.grownAt e r R Dd
 replace f := At.grownAt f r R Dd
 replace h := dh.grownAt h r R Dd
 replace hmN := dT.grownAt hmN r R
 replace ho := dh.grownAtNe ho bC R
 replace o := eL.grownAt o r R
 replace g := dT.grownAt g r R
 replace l := dT.grownAt l r R
 replace r := bD
 refine cT <| Zr <| Zi rfl <| Zw (.int .i64 0) rfl <| cT <| c7 ?_
 refine dz (σ := (Nat) × (List Cb) × (List Cb)) [15, 16, 59, 60, 61, 62, 63, 64, 65, 66, 67, 68, 69, 70, 71, 72, 73, 74, 75, 76, 77, 78, 79, 80, 81, 82, 83, 84, 85, 86, 87, 88, 89] (fun (i, nl2, ml2) => [(59, .int .i64 (i : Int))]) (fun sg W => match sg with | (i, nl2, ml2) => (Below w.heap.size w W) ∧ (At W ac _ 49) ∧ (At W Z _ 49) ∧ (dh ee 1 3 W w.heap.size V _) ∧ (dT iN Value.bool W bn _) ∧ (dh ib 2 40 W w.heap.size v0 _) ∧ (eL iN Value.bool W aM bn _ _) ∧ (At W aT _ 40) ∧ (dT iN Value.bool W E (fF nl2)) ∧ (dT iN Value.bool W ab (fF ml2)) ∧ ((i : Int) ≤ n) ∧ (∀ d, d ∈ nl2 ↔ jG now n seen d ∨ ∃ q, q < i ∧ jb now A q ∧ d = iR A q) ∧ (∀ d, d ∈ ml2 ↔ gt now n seen d ∨ (d = A ∧ ∃ q, q < i ∧ jb now A q)) ∧ (True)) (fun (i, nl2, ml2) => n.toNat - i) ((0, nl, ml)) ⟨rfl, trivial⟩ ⟨hB, e, f, h, hmN, ho, o, r, g, l, Om, (Hk hN), (AU hM), trivial⟩ ?_
 clear hB e f h hmN ho o g l r
 rintro ⟨i, nl2, ml2⟩ cG cH ⟨hB, e, f, h, hmN, ho, o, r, g, l, hi, hN2, hM2, _⟩ cI aC
 refine Zr <| Zv (dN rfl rfl) <| cT <| cZ fun cJ bE => ZQ rfl (fun bF => ?_) fun bF => ?_
 refine c9 <| bE _ _ <| cZ fun cK aD => c7 <| Zr <| Zi rfl <| Zi rfl <| cT ?_
 have h7 := Ap (show i < 8 by omega)
 have hd : A.m / 2 ^ i ≤ A.m := Nat.div_le_self _ _
 refine Zd d9 fun bG K => ?_
 replace hB := Ze hB K
 replace e := K.at e
 replace f := K.at f
 replace h := K.ow h
 replace hmN := K.mapT hmN
 replace ho := K.ow ho
 replace o := K.iterT o
 replace r := K.at r
 replace g := K.mapT g
 replace l := K.mapT l
 have hS := d9.refl bG
 refine Tf 0 rfl rfl eX hS <| Tk 1 rfl (fun _ hq => dk (v := .int .u8 _) rfl ek (At.cell (hq.at r) rfl)) hS <| Tf 2 rfl rfl gC hS <| Tk 3 rfl (fun _ hq => dk (v := .int .u8 _) rfl ek (At.cell (hq.at r) rfl)) hS <| Ti 4 rfl rfl hS <| Tk 5 rfl (fun _ _ => jP (m := 1) rfl rfl Om (by simp only [IntKind.bits]; omega) (by simp only [d7, Int.toNat_natCast, Nat.one_mul]; omega)) hS <| Tk 6 rfl (fun _ _ => JZ (n := _) rfl rfl rfl (by first | assumption | (simp only [d7]; omega) | (simp only [d7]; decide)) (by simp only [d7, Int.toNat_natCast, Nat.one_mul]; omega)) hS <| Tk 7 rfl (fun _ _ => kV (h0 := rfl) (k0 := rfl) (h1 := rfl) (k1 := rfl) (c0_0 := .int .u8 _) (c1_0 := .int .u8 _)) hS <| To 8 rfl (dw jj rfl fun bH cL ap F y => ⟨.inl (hS.trans F), ?_⟩)
 have bI := ZO ap hB
 have bJ := dh.neB (b := bH) ho (Nat.le_of_eq ap.symm)
 have bK := Zn ap r.lt
 clear ap
 replace hB := Ze hB F
 replace e := F.at e
 replace f := F.at f
 replace h := F.ow h
 replace hmN := F.mapT hmN
 replace ho := F.ow ho
 replace o := F.iterT o
 replace r := F.at r
 replace g := F.mapT g
 replace l := F.mapT l
 replace hS := hS.trans F
 refine To 9 rfl (dg rfl rfl dP rfl y rfl rfl fun cM L bL => ⟨.inr (by kernel_rfl), ?_⟩)
 replace hB := Zg hB L bI
 replace e := At.grownAt e y L Dd
 replace f := At.grownAt f y L Dd
 replace h := dh.grownAt h y L Dd
 replace hmN := dT.grownAt hmN y L
 replace ho := dh.grownAtNe ho bJ L
 replace o := eL.grownAt o y L
 replace r := At.grownNe r bK L
 replace g := dT.grownAt g y L
 replace l := dT.grownAt l y L
 replace y := bL
 refine Td <| Zr <| Zf rfl eX <| Zl rfl ek r rfl <| Zi rfl <| Zv (sR rfl rfl Om (by simp only [IntKind.bits]; omega)) <| Zv (nZ (n := 1) rfl rfl rfl (by simp only [d7, Int.toNat_natCast]; omega) (by first | assumption | (simp only [d7]; omega) | (simp only [d7]; decide))) <| Zv (eD rfl rfl) <| ZX rfl (fun ae => ?_) fun ae => ?_
 refine Zw (.map (some bn)) rfl <| Zv (db rfl dP rfl y) <| Zv (f7 (enc := iN) (encV := Value.bool) (v0 := false) (k := ⟨A.m, A.v ^^^ 1 * 2 ^ ((i : Nat) : Int).toNat⟩) rfl rfl ly m9 (fun a => ⟨a, rfl⟩) mP pp rfl hmN) <| Zb rfl <| cT <| ZQ rfl (fun af => ?_) fun af => ?_
 refine gF (fun a b => a.grownBy b (some E)) iv (fun bM I => ?_)
 replace hB := Ze hB I
 replace e := I.at e
 replace f := I.at f
 replace h := I.ow h
 replace hmN := I.mapT hmN
 replace ho := I.ow ho
 replace o := I.iterT o
 replace r := I.at r
 replace g := I.mapT g
 replace l := I.mapT l
 replace y := I.at y
 have aU := g
 have hS := World.grownBy.refl bM (some E)
 refine Tw 0 (.map (some E)) rfl rfl hS <| Tk 1 rfl (fun _ hq => db rfl dP rfl (At.grownMap r aU hq)) hS <| Ti 2 rfl rfl hS <| Tw 4 (.map (some ab)) rfl rfl hS <| Tk 5 rfl (fun _ hq => db rfl dP rfl (At.grownMap r aU hq)) hS <| To 3 rfl (TC (vs := [.agg #[_, _], .int .i64 _]) zL (kR _ _ _ _ (by first | assumption | omega) (by first | assumption | omega)) rfl fun cN cO D bN => ⟨.inl (dG hS (d9.grown D (some E))), ?_⟩)
 replace hB := Ze hB D
 replace e := D.at e
 replace f := D.at f
 replace h := D.ow h
 replace hmN := D.mapT hmN
 replace ho := D.ow ho
 replace o := D.iterT o
 replace r := D.at r
 replace g := D.mapT g
 replace l := D.mapT l
 replace y := D.at y
 replace hS := dG hS (d9.grown D (some E))
 obtain rfl := bN
 refine To 6 rfl (CZ (enc := iN) (encV := Value.bool) (v0 := false) (k := (iR A i)) rfl rfl ly m9 (fun a => ⟨a, rfl⟩) mP pp rfl g fun cP cQ G bO => ⟨.inl (dG hS G), ?_⟩)
 replace hS := dG hS G
 replace hB := Zg hB G aK
 replace e := At.grownMap e g G
 replace f := At.grownMap f g G
 replace h := dh.grownMap h g G
 replace hmN := dT.grownNe hmN ak G
 replace ho := dh.grownMap ho g G
 replace o := eL.grownMap o g ak G
 replace r := At.grownMap r g G
 replace l := dT.grownNe l (Ne.symm ay) G
 replace y := At.grownMap y g G
 replace g := bO
 refine Tk 7 rfl (fun _ _ => dM rfl) hS <| To 8 rfl (Al (encV := Value.bool) (v := true) rfl rfl rfl g fun cR H bP => ⟨.inl (dG hS H), ?_⟩)
 replace hS := dG hS H
 replace hB := Zg hB H aK
 replace e := At.grownMapP e g H
 replace f := At.grownMapP f g H
 replace h := dh.grownMapP h g H
 replace hmN := dT.grownNe hmN ak H
 replace ho := dh.grownMapP ho g H
 replace o := eL.grownMapP o g ak H
 replace r := At.grownMapP r g H
 replace l := dT.grownNe l (Ne.symm ay) H
 replace y := At.grownMapP y g H
 replace g := bP
 rw [jz] at g
 refine To 9 rfl (fS (enc := iN) (encV := Value.bool) (k := A) (v := true) rfl rfl rfl ly m9 (fun a => ⟨a, rfl⟩) mP l fun cS M bQ => ⟨.inr (by kernel_rfl), ?_⟩)
 replace hB := Zg hB M bf
 replace e := At.grownMap e l M
 replace f := At.grownMap f l M
 replace h := dh.grownMap h l M
 replace hmN := dT.grownNe hmN aL M
 replace ho := dh.grownMap ho l M
 replace o := eL.grownMap o l aL M
 replace r := At.grownMap r l M
 replace g := dT.grownNe g ay M
 replace y := At.grownMap y l M
 replace l := bQ
 rw [jz] at l
 refine Td <| aD _ _ <| cY <| Zv (dp rfl rfl Om Om) <| Zi rfl <| cT ?_
 exact aC _ _ ((i + 1, iJ nl2 (iR A i), iJ ml2 A)) Za ⟨rfl, trivial⟩ ⟨hB, e, f, h, hmN, ho, o, r, g, l, Om, (JN hN2 (yG ae af)), (DS hM2 (yG ae af)), trivial⟩ (by show n.toNat - (i + 1) < n.toNat - i; omega)
 refine c9 <| aD _ _ <| cY <| Zv (dp rfl rfl Om Om) <| Zi rfl <| cT ?_
 exact aC _ _ ((i + 1, nl2, ml2)) Za ⟨rfl, trivial⟩ ⟨hB, e, f, h, hmN, ho, o, r, g, l, Om, (yH hN2 (yq af)), (uf hM2 (yq af)), trivial⟩ (by show n.toNat - (i + 1) < n.toNat - i; omega)
 refine Zs <| Zs <| Zs <| Zw (.bool false) rfl <| cT <| d4 rfl <| c9 <| aD _ _ <| cY <| Zv (dp rfl rfl Om Om) <| Zi rfl <| cT ?_
 exact aC _ _ ((i + 1, nl2, ml2)) Za ⟨rfl, trivial⟩ ⟨hB, e, f, h, hmN, ho, o, r, g, l, Om, (yH hN2 (yz ae)), (uf hM2 (yz ae)), trivial⟩ (by show n.toNat - (i + 1) < n.toNat - i; omega)
 refine dt ?_
 refine bi _ _ ((A :: seen, nl2, ml2)) ?_ ?_ ?_ ?_
 · repeat (first | exact fJ.mask _ _ _ | refine fJ.updo ?_ rfl _ | refine fJ.updL ?_ _ rfl | refine fJ.maskS rfl ?_)
 · exact trivial
 · exact ⟨hB, e, f, h, hmN, ho, o, g, l, (Im hN2 (by omega)), (C3 hM2 (by omega)), trivial⟩
 · have hle := eL.len_le o; show (fF now).length - (A :: seen).length < (fF now).length - seen.length; simp only [List.length_cons] at hle ⊢; omega
 refine dt <| bb _ _ <| Zr <| Zw v0 rfl <| Zw v0 rfl <| Zw (.int .i64 0) rfl <| cT <| Zt <| d8 (v := v0) rfl (v1 := .int .i64 0) rfl ⟨hB, ?_⟩
 obtain rfl : now = [] := Em aw
 rw [if_pos hof]
 exact ⟨_, rfl, by rw [← M6 ht hLv hOut hRis]; exact ho⟩
end
section
open Go Go.RowKit
theorem Ol29_0 {p : Prop} (h : p := by first | omega | (simp only [cV, cW, cX, da, de]; omega)) : p := h
theorem fM : fK Tryz.prog 42 1 = some 2 := by kernel_rfl
theorem DO : dD Tryz.prog 30 = true := by kernel_rfl
theorem gz : fK Tryz.prog 42 0 = some 0 := by kernel_rfl
theorem fD : fK Tryz.prog 24 0 = some 0 := by kernel_rfl
theorem fE : fK Tryz.prog 24 1 = some 1 := by kernel_rfl
theorem eB : fC Tryz.prog 22 = true := by kernel_rfl
theorem d5 : fW Tryz.prog 22 = some (49, 4, 32) := by kernel_rfl
theorem fO : fK Tryz.prog 24 2 = some 2 := by kernel_rfl
theorem eJ : lk Tryz.prog 24 = some 3 := by kernel_rfl
theorem pQ : dD Tryz.prog 18 = true := by kernel_rfl
theorem DK : dD Tryz.prog 36 = true := by kernel_rfl
theorem eq : lk Tryz.prog 42 = some 3 := by kernel_rfl
theorem Ie : dD Tryz.prog 26 = true := by kernel_rfl
theorem PG : dD Tryz.prog 97 = true := by kernel_rfl
theorem dR : fW Tryz.prog 29 = some (42, 3, 3) := by kernel_rfl
theorem kL : eQ Tryz.prog 42 = some (.agg #[.int .u8 0, .int .u8 0, .int .u8 0]) := by kernel_rfl
theorem fN : (eQ Tryz.prog 42).map (fun z => z.cells.size) = some 3 := by kernel_rfl
theorem OH : dD Tryz.prog 38 = true := by kernel_rfl
theorem tD : dD Tryz.prog 34 = true := by kernel_rfl
theorem Pg : dD Tryz.prog 35 = true := by kernel_rfl
theorem y9 : (Tryz.prog.info? 40).map (·.size) = some 2 := by kernel_rfl
theorem jt {f : Nat → Value} {w : World} {d : Option Nat} {ty : TypeId} {ps : String} {af : Array Edge} {g : Option (Nat × Bool)} {x0 x1 : Operand} {c0_0 c0_1 c1_0 : Value} (h0 : dQ f x0 = .agg #[c0_0, c0_1]) (h1 : dQ f x1 = c1_0) (k1 : c1_0.cells = #[c1_0]) :
    (execOp (dQ f) ⟨d, .build 42 #[(0, x0), (1, x1)], ty, ps, af, g⟩).run Tryz.prog w = .ok (.value (.agg #[c0_0, c0_1, c1_0])) w := by
  obtain ⟨i0, hi0, hz0⟩ := Option.bind_eq_some_iff.1 (show (Tryz.prog.info? 42).bind (·.zero) = _ from kL)
  obtain ⟨j5, hj5, hs5⟩ := Option.map_eq_some_iff.1 s8
  obtain ⟨j40, hj40, hs40⟩ := Option.map_eq_some_iff.1 y9
  simp [execOp, h0, h1, k1, Instr.build, zeroValue, typeInfo, sizeOf, hi0, hz0, run_underlying Tryz.underlying42, Instr.fill, ff, hj5, hs5, hj40, hs40]
theorem Oz : dD Tryz.prog 37 = true := by kernel_rfl
theorem Dh : dD Tryz.prog 88 = true := by kernel_rfl
theorem CC {f : Nat → Value} {w : World} {d : Option Nat} {ty : TypeId} {ps : String} {af : Array Edge} {g : Option (Nat × Bool)}    :
    (execOp (dQ f) ⟨d, .build 42 #[], ty, ps, af, g⟩).run Tryz.prog w = .ok (.value (.agg #[.int .u8 0, .int .u8 0, .int .u8 0])) w := by
  obtain ⟨i0, hi0, hz0⟩ := Option.bind_eq_some_iff.1 (show (Tryz.prog.info? 42).bind (·.zero) = _ from kL)
  obtain ⟨j5, hj5, hs5⟩ := Option.map_eq_some_iff.1 s8
  obtain ⟨j40, hj40, hs40⟩ := Option.map_eq_some_iff.1 y9
  simp [execOp, Instr.build, zeroValue, typeInfo, sizeOf, hi0, hz0, run_underlying Tryz.underlying42, Instr.fill, ff, hj5, hs5, hj40, hs40]
theorem jD (o i : Nat) (w : World) (ho : o < 256) (hi : i < 8) :
    Fn Tryz.prog 30 #[.int .u8 (o : Int), .int .i64 (i : Int)] w fun v w' => v = .bool (o.testBit i) := by
 refine dr (n := 10) Tryz.func30 rfl rfl (Nat.le_of_ble_eq_true rfl) ?_
 have hB : Below w.heap.size w w := Below.refl _ _
 refine Zr <| Zw (.bool false) rfl <| cT <| Zr <| Zi rfl <| Zv (iB rfl Tryz.underlying5 Tryz.underlying3 (by first | assumption | (simp only [d7]; omega) | (simp only [d7]; decide))) <| Zi rfl <| ZC Ix (lE _ _ _ (by first | assumption | omega) (by first | assumption | omega)) rfl fun c W5 a b => ?_
 replace hB := Ze hB a
 obtain rfl := b
 refine Zv (eD rfl rfl) <| Zb rfl <| cT <| Zt <| dE (v := .bool _) rfl ⟨hB, ?_⟩
 exact congrArg Value.bool Kj
theorem lF (m u o outs : Nat) (n : Int) (w : World) (hm : m < 256) (hv : u < 256) (ho : o < 256) :
    Fn Tryz.prog 26 #[.agg #[.int .u8 (m : Int), .int .u8 (u : Int), .int .u8 (o : Int)], .int .i64 n, .int .i64 (outs : Int)] w fun v w' => v = .bool (Nw o outs && dZ m u n) := by
 refine dr (n := 27) Tryz.func26 rfl rfl (Nat.le_of_ble_eq_true rfl) ?_
 have hB : Below w.heap.size w w := Below.refl _ _
 refine Zr <| Zy (dW (c := #[_, _, _]) rfl rfl fun p W3 e q a => ?_)
 have B := ZO e hB
 clear e
 replace hB := Ze hB q
 refine Zw (.bool false) rfl <| cT <| Zr <| Zw (.bool false) rfl <| cT <| cZ fun K8 r => Zr <| Zw (.int .i64 0) rfl <| cT <| c7 ?_
 refine dz (σ := (Nat)) [6, 7, 8, 9, 10, 11, 12, 13, 14, 15, 16, 17, 18, 19] (fun k => [(8, .int .i64 (k : Int)), (7, .bool (mR o k))]) (fun k W => (Below w.heap.size w W) ∧ (At W p _ 42) ∧ (k ≤ 8) ∧ (∀ j, j < k → o.testBit j = true → j < outs) ∧ (True)) (fun k => 8 - k) (0) ⟨rfl, rfl, trivial⟩ ⟨hB, a, Om, eY, trivial⟩ ?_
 clear hB a
 rintro k C D ⟨hB, a, hk, hq, _⟩ E f
 refine cZ fun F s => Zr <| Zi rfl <| Zv (dN rfl rfl) <| cT <| ZQ rfl (fun t => ?_) fun t => ?_
 refine c9 <| s _ _ <| cZ fun G g => c7 <| Zr <| Zf rfl fM <| Zl rfl ek a rfl <| Zi rfl <| ZC DO (jD _ _ _ (by first | assumption | omega) (by first | assumption | omega)) rfl fun H I i x => ?_
 replace hB := Ze hB i
 replace a := i.at a
 obtain rfl := x
 refine cT <| ZQ rfl (fun b => ?_) fun b => ?_
 refine cZ fun J y => Zr <| Zi rfl <| Zi rfl <| Zv (nU rfl rfl) <| cT <| ZQ rfl (fun z => ?_) fun z => ?_
 refine Zr <| Zw (.bool false) rfl <| cT <| Zt <| dE (v := .bool false) rfl ⟨hB, ?_⟩
 rw [O6 b (by omega), Bool.false_and]
 refine c9 <| y _ _ <| cY <| Zw (.bool true) rfl <| cT <| g _ _ <| cY <| Zi rfl <| Zv (dp rfl rfl Om Om) <| Zi rfl <| cT ?_
 exact f _ _ (k + 1) Za ⟨rfl, (by first | exact congrArg Value.bool (H4 b) | exact congrArg Value.bool (J5 b)), trivial⟩ ⟨hB, a, Om, (eh hq (fun _ => by omega)), trivial⟩ Zo
 refine c9 <| g _ _ <| cY <| Zi rfl <| Zv (dp rfl rfl Om Om) <| Zi rfl <| cT ?_
 exact f _ _ (k + 1) Za ⟨rfl, (by first | exact congrArg Value.bool (H4 b) | exact congrArg Value.bool (J5 b)), trivial⟩ ⟨hB, a, Om, (eh hq (fun h => by rw [h] at b; cases b)), trivial⟩ Zo
 refine dt <| r _ _ <| Zr <| Zb rfl <| ZX rfl (fun d => ?_) fun d => ?_
 refine Zf rfl gz <| Zv (g7 rfl dP (At.cell a rfl) (At.cell a rfl)) <| Zi rfl <| ZC (vs := [.agg #[_, _], .int .i64 _]) Jo (kK _ _ _ _ (by first | assumption | omega) (by first | assumption | omega)) rfl fun K L l A => ?_
 replace hB := Ze hB l
 replace a := l.at a
 obtain rfl := A
 refine Zb rfl <| Zb rfl <| cT <| Zt <| dE (v := .bool _) rfl ⟨hB, ?_⟩
 obtain rfl : k = 8 := by omega
 rw [FY ho hq, d, Bool.true_and]
 refine Zs <| Zs <| Zs <| Zs <| Zw (.bool false) rfl <| Zw (.bool false) rfl <| cT <| Zt <| dE (v := .bool false) rfl ⟨hB, ?_⟩
 obtain rfl : k = 8 := by omega
 rw [FY ho hq, d, Bool.false_and]
theorem pc (S : Sp) (onV mayV : Value) (w : World) (hon : dO fQ 4 w onV S.on) (hmay : dO fQ 4 w mayV S.may) :
    Fn Tryz.prog 10 #[.agg #[.int .i64 S.n, onV, mayV]] w fun v w' => v = .bool (dL S) := by
 refine dr (n := 65) Tryz.func10 rfl rfl (Nat.le_of_ble_eq_true rfl) ?_
 have hB : Below w.heap.size w w := Below.refl _ _
 refine Zr <| Zy (dW (c := #[_, _, _]) rfl rfl fun r W3 m s a => ?_)
 have M := ZO m hB
 clear m
 replace hB := Ze hB s
 refine Zw (.bool false) rfl <| cT <| cZ fun K6 t => Zr <| Zf rfl fD <| Zl rfl dC a rfl <| Zv (dN rfl rfl) <| ZX rfl (fun u => ?_) fun u => ?_
 refine Zs <| Zs <| Zs <| Zw (.bool true) rfl <| Zw (.bool true) rfl <| Zs <| Zs <| Zs <| Zs <| Zw (.bool true) rfl <| Zw (.bool true) rfl <| Zs <| Zs <| Zs ?_
 refine Zs <| Zw (.bool true) rfl <| Zw (.bool true) rfl <| Zs <| Zs <| Zs <| Zs <| Zs <| Zs <| Zs <| Zw (.bool true) rfl <| cT <| dA rfl <| Zr ?_
 refine Zw (.bool false) rfl <| cT <| Zt <| dE (v := .bool false) rfl ⟨hB, ?_⟩
 exact mq Om
 refine Zf rfl fD <| Zl rfl dC a rfl <| Zv (jp rfl rfl) <| Zb rfl <| ZX rfl (fun x => ?_) fun x => ?_
 refine Zs <| Zs <| Zs <| Zs <| Zw (.bool true) rfl <| Zw (.bool true) rfl <| Zs <| Zs <| Zs <| Zs <| Zw (.bool true) rfl <| Zw (.bool true) rfl <| Zs <| Zs ?_
 refine Zs <| Zs <| Zs <| Zs <| Zs <| Zw (.bool true) rfl <| cT <| dA rfl <| Zr <| Zw (.bool false) rfl <| cT <| Zt <| dE (v := .bool false) rfl ⟨hB, ?_⟩
 exact mq Om
 refine Zf rfl fE <| ZL onV rfl eB a rfl <| Zv (dB (v := onV) rfl (Below.slT hB hon) d5) <| Zv (dN rfl rfl) <| Zb rfl <| ZX rfl (fun y => ?_) fun y => ?_
 refine Zs <| Zs <| Zs <| Zs <| Zw (.bool true) rfl <| Zw (.bool true) rfl <| Zs <| Zs <| Zs <| Zs <| Zs <| Zs <| Zs <| Zw (.bool true) rfl ?_
 refine cT <| dA rfl <| Zr <| Zw (.bool false) rfl <| cT <| Zt <| dE (v := .bool false) rfl ⟨hB, ?_⟩
 exact mq Om
 refine Zf rfl fE <| ZL onV rfl eB a rfl <| Zv (dB (v := onV) rfl (Below.slT hB hon) d5) <| Zv (jp rfl rfl) <| Zb rfl <| ZX rfl (fun z => ?_) fun z => ?_
 refine Zs <| Zs <| Zs <| Zs <| Zs <| Zs <| Zs <| Zw (.bool true) rfl <| cT <| dA rfl <| Zr <| Zw (.bool false) rfl <| cT <| Zt ?_
 refine dE (v := .bool false) rfl ⟨hB, ?_⟩
 exact mq Om
 refine Zf rfl fO <| ZL mayV rfl eB a rfl <| Zv (dB (v := mayV) rfl (Below.slT hB hmay) d5) <| Zf rfl fE <| ZL onV rfl eB a rfl <| Zv (dB (v := onV) rfl (Below.slT hB hon) d5) <| Zv (gq rfl rfl) <| Zb rfl <| cT <| ZQ rfl (fun A => ?_) fun A => ?_
 refine Zr <| Zw (.bool false) rfl <| cT <| Zt <| dE (v := .bool false) rfl ⟨hB, ?_⟩
 exact mq Om
 refine c9 <| t _ _ <| cZ fun N B => Zr <| Zw (.int .i64 0) rfl <| cT <| c7 ?_
 refine dz (σ := (Nat)) [2, 3, 33, 34, 35, 36, 37, 38, 39, 40, 41, 42, 43, 44, 45, 46, 47, 48, 49, 50, 51, 52, 53, 54, 55, 56, 57, 58, 59, 60, 61, 62, 63, 64] (fun k => [(3, .int .i64 (k : Int))]) (fun k W => (Below w.heap.size w W) ∧ (At W r _ 24) ∧ (k ≤ S.on.length) ∧ (∀ q, q < k → ep (AO S q) (iM S q) = true ∧ ep (iM S q) (ft S.n.toNat) = true) ∧ (True)) (fun k => S.on.length - k) (0) ⟨rfl, trivial⟩ ⟨hB, a, (Nat.zero_le _), eY, trivial⟩ ?_
 clear hB a
 rintro k O P ⟨hB, a, hk, hq, _⟩ Q C
 refine cZ fun R D => Zr <| Zi rfl <| Zf rfl fE <| ZL onV rfl eB a rfl <| Zv (dB (v := onV) rfl (Below.slT hB hon) d5) <| Zv (dN rfl rfl) <| cT <| ZQ rfl (fun E => ?_) fun E => ?_
 refine c9 <| D _ _ <| cZ fun T F => c7 ?_
 have h0 : 0 ≤ S.n := by omega
 have h8 : S.n ≤ 8 := by omega
 refine Zd d9 fun G o => ?_
 replace hB := Ze hB o
 replace a := o.at a
 have hS := d9.refl G
 refine Tf 0 rfl rfl fE hS <| Tk 1 rfl (fun _ hq => dk (v := onV) rfl eB (At.cell (hq.at a) rfl)) hS <| Ti 2 rfl rfl hS <| Tk 3 rfl (fun _ hq => dI (v := onV) rfl (hq.slT (Below.slT hB hon)) rfl d5 Om Ol29_0) hS <| Tk 4 rfl (fun _ hq => fo rfl df (dO.cell (hq.slT (Below.slT hB hon)) dF 0 Om Ol29_0 0 rfl) (dO.cell (hq.slT (Below.slT hB hon)) dF 0 Om Ol29_0 1 rfl) (dO.cell (hq.slT (Below.slT hB hon)) dF 0 Om Ol29_0 2 rfl) (dO.cell (hq.slT (Below.slT hB hon)) dF 0 Om Ol29_0 3 rfl)) hS <| Tf 5 rfl rfl fO hS <| Tk 6 rfl (fun _ hq => dk (v := mayV) rfl eB (At.cell (hq.at a) rfl)) hS <| Ti 7 rfl rfl hS <| Tk 8 rfl (fun _ hq => dI (v := mayV) rfl (hq.slT (Below.slT hB hmay)) rfl d5 Om Ol29_0) hS <| Tk 9 rfl (fun _ hq => fo rfl df (dO.cell (hq.slT (Below.slT hB hmay)) dF 0 Om Ol29_0 0 rfl) (dO.cell (hq.slT (Below.slT hB hmay)) dF 0 Om Ol29_0 1 rfl) (dO.cell (hq.slT (Below.slT hB hmay)) dF 0 Om Ol29_0 2 rfl) (dO.cell (hq.slT (Below.slT hB hmay)) dF 0 Om Ol29_0 3 rfl)) hS <| To 10 rfl (TC (vs := [.agg #[_, _, _, _], .agg #[_, _, _, _]]) DJ (iL _ _ _) rfl fun U V g H => ⟨.inl (hS.trans g), ?_⟩)
 have d := hB
 have p := a
 replace hB := Ze hB g
 replace a := g.at a
 replace hS := hS.trans g
 obtain rfl := H
 refine Tk 11 rfl (fun _ _ => fG rfl) hS <| Tx 12 rfl (fun _ _ => iY (v := .bool _) rfl) hS (fun j => ?_) fun j => ?_
 refine Tp 13 rfl hS <| Tp 14 rfl hS <| Tp 15 rfl hS <| Tp 16 rfl hS <| Tp 17 rfl hS <| Tp 18 rfl hS <| Tp 19 rfl hS <| Tp 20 rfl hS <| Tp 21 rfl hS <| Tp 22 rfl hS <| Tp 23 rfl hS <| Tw 24 (.bool true) rfl rfl hS <| Td <| dA rfl ?_
 refine Zr <| Zw (.bool false) rfl <| cT <| Zt <| dE (v := .bool false) rfl ⟨hB, ?_⟩
 exact vm (k := k) Om (fun h => Bool.noConfusion (h.1.symm.trans (iI j)))
 refine Tf 13 rfl rfl fO hS <| Tk 14 rfl (fun _ hq => dk (v := mayV) rfl eB (At.cell (hq.at p) rfl)) hS <| Ti 15 rfl rfl hS <| Tk 16 rfl (fun _ hq => dI (v := mayV) rfl (hq.slT (Below.slT d hmay)) rfl d5 Om Ol29_0) hS <| Tk 17 rfl (fun _ hq => fo rfl df (dO.cell (hq.slT (Below.slT d hmay)) dF 0 Om Ol29_0 0 rfl) (dO.cell (hq.slT (Below.slT d hmay)) dF 0 Om Ol29_0 1 rfl) (dO.cell (hq.slT (Below.slT d hmay)) dF 0 Om Ol29_0 2 rfl) (dO.cell (hq.slT (Below.slT d hmay)) dF 0 Om Ol29_0 3 rfl)) hS <| Tf 18 rfl rfl fD hS <| Tk 19 rfl (fun _ hq => dk (v := .int .i64 _) rfl dC (At.cell (hq.at p) rfl)) hS <| To 20 rfl (TC DH (jI _ _ (by first | assumption | omega) (by first | assumption | omega)) rfl fun I X i b => ⟨.inl (hS.trans i), ?_⟩)
 have J := (Below.size hB)
 replace hB := Ze hB i
 replace a := i.at a
 replace hS := hS.trans i
 replace b := dh.mono b J
 refine To 21 rfl (TC (vs := [I]) Du (jE _ _ _ b.sl (cX _)) rfl fun Y Z e K => ⟨.inl (hS.trans e), ?_⟩)
 replace hB := Ze hB e
 replace a := e.at a
 replace b := e.ow b
 replace hS := hS.trans e
 obtain rfl := K
 refine To 22 rfl (TC (vs := [.agg #[_, _, _, _], .agg #[_, _, _, _]]) DJ (iL _ _ _) rfl fun aa ab f L => ⟨.inl (hS.trans f), ?_⟩)
 replace hB := Ze hB f
 replace a := f.at a
 replace b := f.ow b
 replace hS := hS.trans f
 obtain rfl := L
 refine Tk 23 rfl (fun _ _ => fG rfl) hS <| Ty 24 rfl rfl hS <| Td <| ZQ rfl (fun l => ?_) fun l => ?_
 refine Zr <| Zw (.bool false) rfl <| cT <| Zt <| dE (v := .bool false) rfl ⟨hB, ?_⟩
 exact vm (k := k) Om (fun h => Bool.noConfusion (h.2.symm.trans ((t6 h8).symm.trans (iI l))))
 refine c9 <| F _ _ <| cY <| Zi rfl <| Zv (dp rfl rfl Om Om) <| Zi rfl <| cT ?_
 exact C _ _ (k + 1) Za ⟨rfl, trivial⟩ ⟨hB, a, Om, (eh hq ⟨ig j, by rw [← t6 h8]; exact ig l⟩), trivial⟩ Zo
 refine dt <| B _ _ <| Zr <| Zw (.bool true) rfl <| cT <| Zt <| dE (v := .bool true) rfl ⟨hB, ?_⟩
 obtain rfl : k = S.on.length := by omega
 exact FI Om hq
theorem im (S : Sp) (onV mayV : Value) (w : World) (hon : dO fQ 4 w onV S.on) (hmay : dO fQ 4 w mayV S.may) :
    Fn Tryz.prog 18 #[.agg #[.int .i64 S.n, onV, mayV]] w fun v w' => v = .bool (dL S) := by
 refine dr (n := 63) Tryz.func18 rfl rfl (Nat.le_of_ble_eq_true rfl) ?_
 have hB : Below w.heap.size w w := Below.refl _ _
 refine Zr <| Zy (dW (c := #[_, _, _]) rfl rfl fun A W3 s B a => ?_)
 have ab := ZO s hB
 clear s
 replace hB := Ze hB B
 refine Zw (.bool false) rfl <| cT <| Zr <| Zf rfl fD <| Zl rfl dC a rfl <| ZC wB (oe _ _) rfl fun ac W8 t C => ?_
 replace hB := Ze hB t
 replace a := t.at a
 obtain ⟨sa, er, rfl, hhP1_2⟩ := qJ C
 refine Zw (.tuple #[.agg #[_, _, _, _], .int .i64 _]) rfl <| Zv (dK rfl) <| Zv (dM rfl) <| Zy (dw eR rfl fun u D x y b => ?_)
 have E := ZO x hB
 clear x
 replace hB := Ze hB y
 replace a := y.at a
 replace b : At D u #[wv 0 0, wv 0 1, wv 0 2, wv 0 3] 49 := b
 refine Zy (dg rfl rfl df rfl b rfl rfl fun ad z F => ?_)
 replace hB := Zg hB z E
 replace a := At.grownAt a b z Dd
 replace b := F
 refine Zi rfl <| cT <| cZ fun ae G => Zr <| Zi rfl <| Zv (gq rfl rfl) <| ZX rfl (fun j => ?_) fun j => ?_
 refine Zs <| Zs <| Zs <| Zs <| Zw (.bool true) rfl <| Zw (.bool true) rfl <| Zs <| Zs <| Zs <| Zs <| Zw (.bool true) rfl <| Zw (.bool true) rfl <| Zs <| Zs ?_
 refine Zs <| Zs <| Zs <| Zs <| Zs <| Zw (.bool true) rfl <| cT <| dA rfl <| Zr <| Zw (.bool false) rfl <| cT <| Zt <| dE (v := .bool false) rfl ⟨hB, ?_⟩
 exact mq (fun h => N8 hhP1_2 j ⟨h.1, h.2.1⟩)
 refine Zf rfl fE <| ZL onV rfl eB a rfl <| Zv (dB (v := onV) rfl (Below.slT hB hon) d5) <| Zv (dN rfl rfl) <| Zb rfl <| ZX rfl (fun H => ?_) fun H => ?_
 refine Zs <| Zs <| Zs <| Zs <| Zw (.bool true) rfl <| Zw (.bool true) rfl <| Zs <| Zs <| Zs <| Zs <| Zs <| Zs <| Zs <| Zw (.bool true) rfl ?_
 refine cT <| dA rfl <| Zr <| Zw (.bool false) rfl <| cT <| Zt <| dE (v := .bool false) rfl ⟨hB, ?_⟩
 exact mq Om
 refine Zf rfl fE <| ZL onV rfl eB a rfl <| Zv (dB (v := onV) rfl (Below.slT hB hon) d5) <| Zv (jp rfl rfl) <| Zb rfl <| ZX rfl (fun I => ?_) fun I => ?_
 refine Zs <| Zs <| Zs <| Zs <| Zs <| Zs <| Zs <| Zw (.bool true) rfl <| cT <| dA rfl <| Zr <| Zw (.bool false) rfl <| cT <| Zt ?_
 refine dE (v := .bool false) rfl ⟨hB, ?_⟩
 exact mq Om
 refine Zf rfl fE <| ZL onV rfl eB a rfl <| Zv (dB (v := onV) rfl (Below.slT hB hon) d5) <| Zf rfl fO <| ZL mayV rfl eB a rfl <| Zv (dB (v := mayV) rfl (Below.slT hB hmay) d5) <| Zv (gq rfl rfl) <| Zb rfl <| cT <| ZQ rfl (fun J => ?_) fun J => ?_
 refine Zr <| Zw (.bool false) rfl <| cT <| Zt <| dE (v := .bool false) rfl ⟨hB, ?_⟩
 exact mq Om
 refine c9 <| G _ _ <| cZ fun af K => ?_
 obtain ⟨h0, h8, rfl⟩ := wa hhP1_2 j
 refine Zr <| Zf rfl fE <| ZL onV rfl eB a rfl <| Zv (dB (v := onV) rfl (Below.slT hB hon) d5) <| Zw (.int .i64 0) rfl <| cT <| c7 ?_
 refine dz (σ := (Nat)) [2, 5, 6, 39, 40, 41, 42, 43, 44, 45, 46, 47, 48, 49, 50, 51, 52, 53, 54, 55, 56, 57, 58, 59, 60, 61, 62] (fun k => [(39, .int .i64 (k : Int))]) (fun k W => (Below w.heap.size w W) ∧ (At W A _ 24) ∧ (At W u _ 49) ∧ (k ≤ S.on.length) ∧ (∀ q, q < k → ep (AO S q) (iM S q) = true ∧ ep (iM S q) (ft S.n.toNat) = true) ∧ (True)) (fun k => S.on.length - k) (0) ⟨rfl, trivial⟩ ⟨hB, a, b, (Nat.zero_le _), eY, trivial⟩ ?_
 clear hB a b
 rintro k ag ah ⟨hB, a, b, hk, hq, _⟩ ai L
 refine Zr <| Zv (dN rfl rfl) <| cT <| cZ fun aj M => ZQ rfl (fun N => ?_) fun N => ?_
 refine c9 <| M _ _ <| cZ fun ak O => c7 <| Zr <| Zi rfl <| Zv (dI (v := onV) rfl (Below.slT hB hon) rfl d5 Om Ol29_0) <| Zv (fo rfl df (dO.cell (Below.slT hB hon) dF 0 Om Ol29_0 0 rfl) (dO.cell (Below.slT hB hon) dF 0 Om Ol29_0 1 rfl) (dO.cell (Below.slT hB hon) dF 0 Om Ol29_0 2 rfl) (dO.cell (Below.slT hB hon) dF 0 Om Ol29_0 3 rfl)) <| Zy (dw eR rfl fun P Q l m d => ?_)
 have R := ZO l hB
 have T := Zn l b.lt
 clear l
 replace hB := Ze hB m
 replace a := m.at a
 replace b := m.at b
 replace d : At Q P #[wv 0 0, wv 0 1, wv 0 2, wv 0 3] 49 := d
 refine Zi rfl <| Zy (dg rfl rfl df rfl d rfl rfl fun al o U => ?_)
 replace hB := Zg hB o R
 replace a := At.grownAt a d o Dd
 replace b := At.grownNe b T o
 replace d := U
 refine cT <| Zd d9 fun V i => ?_
 replace hB := Ze hB i
 replace a := i.at a
 replace b := i.at b
 replace d := i.at d
 have hS := d9.refl V
 refine Tk 0 rfl (fun _ hq => db rfl df rfl (hq.at d)) hS <| Tf 1 rfl rfl fO hS <| Tk 2 rfl (fun _ hq => dk (v := mayV) rfl eB (At.cell (hq.at a) rfl)) hS <| Ti 3 rfl rfl hS <| Tk 4 rfl (fun _ hq => dI (v := mayV) rfl (hq.slT (Below.slT hB hmay)) rfl d5 Om Ol29_0) hS <| Tk 5 rfl (fun _ hq => fo rfl df (dO.cell (hq.slT (Below.slT hB hmay)) dF 0 Om Ol29_0 0 rfl) (dO.cell (hq.slT (Below.slT hB hmay)) dF 0 Om Ol29_0 1 rfl) (dO.cell (hq.slT (Below.slT hB hmay)) dF 0 Om Ol29_0 2 rfl) (dO.cell (hq.slT (Below.slT hB hmay)) dF 0 Om Ol29_0 3 rfl)) hS <| To 6 rfl (TC (vs := [.agg #[_, _, _, _], .agg #[_, _, _, _]]) qt (il _ _ _) rfl fun ao ap e X => ⟨.inl (hS.trans e), ?_⟩)
 have g := hB
 have Y := a
 have Z := b
 replace hB := Ze hB e
 replace a := e.at a
 replace b := e.at b
 replace d := e.at d
 replace hS := hS.trans e
 obtain rfl := X
 refine Tk 7 rfl (fun _ _ => fG rfl) hS <| Tx 8 rfl (fun _ _ => iY (v := .bool _) rfl) hS (fun p => ?_) fun p => ?_
 refine Tp 9 rfl hS <| Tp 10 rfl hS <| Tp 11 rfl hS <| Tp 12 rfl hS <| Tp 13 rfl hS <| Tp 14 rfl hS <| Tp 15 rfl hS <| Tp 16 rfl hS <| Tw 17 (.bool true) rfl rfl hS <| Td <| dA rfl <| Zr <| Zw (.bool false) rfl <| cT ?_
 refine Zt <| dE (v := .bool false) rfl ⟨hB, ?_⟩
 exact vm (k := k) Om (fun h => Bool.noConfusion (h.1.symm.trans (iI p)))
 refine Tf 9 rfl rfl fO hS <| Tk 10 rfl (fun _ hq => dk (v := mayV) rfl eB (At.cell (hq.at Y) rfl)) hS <| Ti 11 rfl rfl hS <| Tk 12 rfl (fun _ hq => dI (v := mayV) rfl (hq.slT (Below.slT g hmay)) rfl d5 Om Ol29_0) hS <| Tk 13 rfl (fun _ hq => fo rfl df (dO.cell (hq.slT (Below.slT g hmay)) dF 0 Om Ol29_0 0 rfl) (dO.cell (hq.slT (Below.slT g hmay)) dF 0 Om Ol29_0 1 rfl) (dO.cell (hq.slT (Below.slT g hmay)) dF 0 Om Ol29_0 2 rfl) (dO.cell (hq.slT (Below.slT g hmay)) dF 0 Om Ol29_0 3 rfl)) hS <| Tk 14 rfl (fun _ hq => db rfl df rfl (hq.at Z)) hS <| To 15 rfl (TC (vs := [.agg #[_, _, _, _], .agg #[_, _, _, _]]) qt (il _ _ _) rfl fun aq ar f aa => ⟨.inl (hS.trans f), ?_⟩)
 replace hB := Ze hB f
 replace a := f.at a
 replace b := f.at b
 replace d := f.at d
 replace hS := hS.trans f
 obtain rfl := aa
 refine Tk 16 rfl (fun _ _ => fG rfl) hS <| Ty 17 rfl rfl hS <| Td <| ZQ rfl (fun r => ?_) fun r => ?_
 refine Zr <| Zw (.bool false) rfl <| cT <| Zt <| dE (v := .bool false) rfl ⟨hB, ?_⟩
 exact vm (k := k) Om (fun h => Bool.noConfusion (h.2.symm.trans (iI r)))
 refine c9 <| O _ _ <| cY <| Zv (dp rfl rfl Om Om) <| Zi rfl <| cT ?_
 exact L _ _ (k + 1) Za ⟨rfl, trivial⟩ ⟨hB, a, b, Om, (eh hq ⟨ig p, ig r⟩), trivial⟩ Zo
 refine dt <| K _ _ <| Zr <| Zw (.bool true) rfl <| cT <| Zt <| dE (v := .bool true) rfl ⟨hB, ?_⟩
 obtain rfl : k = S.on.length := by omega
 exact FI Om hq
theorem oH (S : Sp) (onV mayV : Value) (c : Cb) (w : World) (hon : dO fQ 4 w onV S.on) (hmay : dO fQ 4 w mayV S.may) (hc : c.m < 256 ∧ c.v < 256) (hl : S.may.length ≤ 7) :
    Fn Tryz.prog 36 #[.agg #[.int .i64 S.n, onV, mayV], .agg #[.int .u8 (c.m : Int), .int .u8 (c.v : Int)]] w fun v w' => v = .int .u8 ((jT S c : Nat) : Int) := by
 refine dr (n := 27) Tryz.func36 rfl rfl (Nat.le_of_ble_eq_true rfl) ?_
 have hB : Below w.heap.size w w := Below.refl _ _
 refine Zr <| Zy (dW (c := #[_, _, _]) rfl rfl fun s W3 i t a => ?_)
 have F := ZO i hB
 clear i
 replace hB := Ze hB t
 refine Zy (dW (c := #[_, _]) rfl rfl fun u W6 j l b => ?_)
 have G := ZO j hB
 clear j
 replace hB := Ze hB l
 replace a := l.at a
 refine Zw (.int .u8 0) rfl <| cT <| Zr <| Zw (.int .u8 0) rfl <| cT <| cZ fun H x => Zr <| Zf rfl fO <| ZL mayV rfl eB a rfl <| Zv (dB (v := mayV) rfl (Below.slT hB hmay) d5) <| Zw (.int .i64 0) rfl <| cT <| c7 ?_
 refine dz (σ := (Nat)) [5, 6, 7, 11, 12, 13, 14, 15, 16, 17, 18, 19, 20, 21, 22, 23, 24, 25] (fun k => [(11, .int .i64 (k : Int)), (5, .int .u8 ((k8 S c k : Nat) : Int))]) (fun k W => (Below w.heap.size w W) ∧ (At W s _ 24) ∧ (At W u _ 40) ∧ (k ≤ S.may.length) ∧ (True)) (fun k => S.may.length - k) (0) ⟨rfl, rfl, trivial⟩ ⟨hB, a, b, (Nat.zero_le _), trivial⟩ ?_
 clear hB a b
 rintro k I J ⟨hB, a, b, hk, _⟩ K o
 refine Zr <| Zv (dN rfl rfl) <| cT <| cZ fun L y => ZQ rfl (fun z => ?_) fun z => ?_
 refine c9 <| y _ _ <| cZ fun M p => c7 <| Zr <| Zi rfl <| Zv (dI (v := mayV) rfl (Below.slT hB hmay) rfl d5 Om Ol29_0) <| Zv (fo rfl df (dO.cell (Below.slT hB hmay) dF 0 Om Ol29_0 0 rfl) (dO.cell (Below.slT hB hmay) dF 0 Om Ol29_0 1 rfl) (dO.cell (Below.slT hB hmay) dF 0 Om Ol29_0 2 rfl) (dO.cell (Below.slT hB hmay) dF 0 Om Ol29_0 3 rfl)) <| Zy (dw eR rfl fun A B r g d => ?_)
 have C := ZO r hB
 clear r
 replace hB := Ze hB g
 replace a := g.at a
 replace b := g.at b
 replace d : At B A #[wv 0 0, wv 0 1, wv 0 2, wv 0 3] 49 := d
 refine Zi rfl <| Zy (dg rfl rfl df rfl d rfl rfl fun N h D => ?_)
 replace hB := Zg hB h C
 replace a := At.grownAt a d h Dd
 replace b := At.grownAt b d h Dd
 replace d := D
 refine cT <| Zr <| Zv (db rfl dP rfl b) <| Zv (db rfl df rfl d) <| Zf rfl fD <| Zl rfl dC a rfl <| ZC (vs := [.agg #[_, _], .agg #[_, _, _, _], .int .i64 _]) Dv (mJ c.m c.v _ _ _ hc.1 hc.2) rfl fun O P f E => ?_
 replace hB := Ze hB f
 replace a := f.at a
 replace b := f.at b
 replace d := f.at d
 obtain rfl := E
 refine cT <| ZQ rfl (fun e => ?_) fun e => ?_
 have hlt := qC S c k
 have h7 := Ap (show k < 8 by omega)
 refine cY <| Zi rfl <| Zi rfl <| Zv (jP (m := 1) rfl rfl Om (by simp only [IntKind.bits]; omega) (by simp only [d7, Int.toNat_natCast, Nat.one_mul]; omega)) <| Zv (Dq (n := _) rfl rfl rfl (by simp only [d7]; omega) (by simp only [d7, Int.toNat_natCast, Nat.one_mul]; omega)) <| Zi rfl <| cT <| p _ _ <| cY <| Zv (dp rfl rfl Om Om) <| Zi rfl <| cT ?_
 exact o _ _ (k + 1) Za ⟨rfl, (by first | exact congrArg (fun q : Nat => Value.int .u8 (q : Int)) (IA e) | exact congrArg (fun q : Nat => Value.int .u8 (q : Int)) (HP e)), trivial⟩ ⟨hB, a, b, Om, trivial⟩ Zo
 refine c9 <| p _ _ <| cY <| Zv (dp rfl rfl Om Om) <| Zi rfl <| cT ?_
 exact o _ _ (k + 1) Za ⟨rfl, (by first | exact congrArg (fun q : Nat => Value.int .u8 (q : Int)) (IA e) | exact congrArg (fun q : Nat => Value.int .u8 (q : Int)) (HP e)), trivial⟩ ⟨hB, a, b, Om, trivial⟩ Zo
 refine dt <| x _ _ <| Zr <| Zi rfl <| Zi rfl <| cT <| Zt <| dE (v := .int .u8 _) rfl ⟨hB, ?_⟩
 obtain rfl : k = S.may.length := by omega
 rfl
theorem mW (S : Sp) (onV mayV : Value) (m u o : Nat) (w : World) (hon : dO fQ 4 w onV S.on) (hmay : dO fQ 4 w mayV S.may) (hm : m < 256) (hv : u < 256) (ho : o < 256) :
    Fn Tryz.prog 88 #[.agg #[.int .i64 S.n, onV, mayV], .agg #[.int .u8 (m : Int), .int .u8 (u : Int), .int .u8 (o : Int)]] w fun v w' => v = .bool (lY S ⟨⟨m, u⟩, o⟩) := by
 refine dr (n := 22) Tryz.func88 rfl rfl (Nat.le_of_ble_eq_true rfl) ?_
 have hB : Below w.heap.size w w := Below.refl _ _
 refine Zr <| Zy (dW (c := #[_, _, _]) rfl rfl fun y W3 j q a => ?_)
 have z := ZO j hB
 clear j
 replace hB := Ze hB q
 refine Zy (dW (c := #[_, _, _]) rfl rfl fun A W6 l p d => ?_)
 have B := ZO l hB
 clear l
 replace hB := Ze hB p
 replace a := p.at a
 refine Zw (.bool false) rfl <| cT <| Zd d9 fun r i => ?_
 replace hB := Ze hB i
 replace a := i.at a
 replace d := i.at d
 have hS := d9.refl r
 refine Tk 0 rfl (fun _ hq => db rfl eJ rfl (hq.at a)) hS <| To 1 rfl (TC (vs := [.agg #[_, _, _]]) pQ (im S _ _  _ (Below.slT hB hon) (Below.slT hB hmay) ) rfl fun C D f s => ⟨.inl (hS.trans f), ?_⟩)
 have t := a
 have h := d
 replace hB := Ze hB f
 replace a := f.at a
 replace d := f.at d
 replace hS := hS.trans f
 obtain rfl := s
 refine Tx 2 rfl (fun _ _ => iY (v := .bool _) rfl) hS (fun b => ?_) fun b => ?_
 refine Tf 3 rfl rfl fM hS <| Tk 4 rfl (fun _ hq => dk (v := .int .u8 _) rfl ek (At.cell (hq.at h) rfl)) hS <| Tk 5 rfl (fun _ _ => jp rfl rfl) hS <| Ty 6 rfl rfl hS <| Tx 7 rfl (fun _ _ => iY (v := .bool _) rfl) hS (fun e => ?_) fun e => ?_
 refine Tf 8 rfl rfl fM hS <| Tk 9 rfl (fun _ hq => dk (v := .int .u8 _) rfl ek (At.cell (hq.at h) rfl)) hS <| Tk 10 rfl (fun _ hq => db rfl eJ rfl (hq.at t)) hS <| Tf 11 rfl rfl gz hS <| Tk 12 rfl (fun _ hq => g7 rfl dP (At.cell (hq.at h) rfl) (At.cell (hq.at h) rfl)) hS <| To 13 rfl (TC (vs := [.agg #[_, _, _], .agg #[_, _]]) DK (oH S _ _ ⟨m, u⟩ _ (Below.slT hB hon) (Below.slT hB hmay) ⟨hm, hv⟩ (by obtain ⟨_, _, _, h4, h5, _⟩ := dX.1 b; omega)) rfl fun E F g x => ⟨.inl (hS.trans g), ?_⟩)
 replace hB := Ze hB g
 replace a := g.at a
 replace d := g.at d
 replace hS := hS.trans g
 obtain rfl := x
 refine Tk 14 rfl (fun _ _ => qd (n := _) rfl rfl rfl (by first | assumption | (simp only [d7]; omega) | (simp only [d7]; decide)) (by have h1 := qC S ⟨m, u⟩ S.may.length; have h2 := DR (k := S.may.length) (by obtain ⟨_, _, _, h4, h5, _⟩ := dX.1 b; omega); show k8 S ⟨m, u⟩ S.may.length < 256; omega)) hS <| Tk 15 rfl (fun _ _ => eD rfl rfl) hS <| Ty 16 rfl rfl hS <| Ty 17 rfl rfl hS <| Td <| Zt <| dE (v := .bool _) rfl ⟨hB, ?_⟩
 first | exact congrArg Value.bool (IK b e) | exact lW (Jj e) | exact lW (Ja b)
 refine Tp 8 rfl hS <| Tp 9 rfl hS <| Tp 10 rfl hS <| Tp 11 rfl hS <| Tp 12 rfl hS <| Tp 13 rfl hS <| Tp 14 rfl hS <| Tp 15 rfl hS <| Tw 16 (.bool false) rfl rfl hS <| Tw 17 (.bool false) rfl rfl hS <| Td <| Zt <| dE (v := .bool false) rfl ⟨hB, ?_⟩
 first | exact congrArg Value.bool (IK b e) | exact lW (Jj e) | exact lW (Ja b)
 refine Tp 3 rfl hS <| Tp 4 rfl hS <| Tp 5 rfl hS <| Tw 6 (.bool false) rfl rfl hS <| Tw 7 (.bool false) rfl rfl hS <| Tp 8 rfl hS <| Tp 9 rfl hS <| Tp 10 rfl hS <| Tp 11 rfl hS <| Tp 12 rfl hS <| Tp 13 rfl hS <| Tp 14 rfl hS <| Tp 15 rfl hS <| Tw 16 (.bool false) rfl rfl hS ?_
 refine Tw 17 (.bool false) rfl rfl hS <| Td <| Zt <| dE (v := .bool false) rfl ⟨hB, ?_⟩
 first | exact congrArg Value.bool (IK b e) | exact lW (Jj e) | exact lW (Ja b)
theorem oy (S : Sp) (onV mayV : Value) (m u o : Nat) (w : World) (hon : dO fQ 4 w onV S.on) (hmay : dO fQ 4 w mayV S.may) (hr : dL S = true) (hm : m < 256) (hv : u < 256) (ho : o < 256) :
    Fn Tryz.prog 63 #[.agg #[.int .i64 S.n, onV, mayV], .agg #[.int .u8 (m : Int), .int .u8 (u : Int), .int .u8 (o : Int)]] w fun v w' => v = .bool (lY S ⟨⟨m, u⟩, o⟩) := by
 refine dr (n := 38) Tryz.func63 rfl rfl (Nat.le_of_ble_eq_true rfl) ?_
 have hB : Below w.heap.size w w := Below.refl _ _
 obtain ⟨hr0, hr8, hr1, hr4, hr5, _⟩ := dX.1 hr
 refine Zr <| Zy (dW (c := #[_, _, _]) rfl rfl fun B W3 r C a => ?_)
 have M := ZO r hB
 clear r
 replace hB := Ze hB C
 refine Zy (dW (c := #[_, _, _]) rfl rfl fun D W6 s t b => ?_)
 have N := ZO s hB
 clear s
 replace hB := Ze hB t
 replace a := t.at a
 refine Zw (.bool false) rfl <| cT <| cZ fun K9 E => Zr <| Zv (db rfl eq rfl b) <| Zf rfl fD <| Zl rfl dC a rfl <| Zf rfl fE <| ZL onV rfl eB a rfl <| Zv (dB (v := onV) rfl (Below.slT hB hon) d5) <| ZC (vs := [.agg #[_, _, _], .int .i64 _, .int .i64 _]) Ie (lF _ _ _ S.on.length _ _ hm hv ho) rfl fun O P i F => ?_
 replace hB := Ze hB i
 replace a := i.at a
 replace b := i.at b
 obtain rfl := F
 refine Zv (fG rfl) <| cT <| ZQ rfl (fun j => ?_) fun j => ?_
 refine Zr <| Zw (.bool false) rfl <| cT <| Zt <| dE (v := .bool false) rfl ⟨hB, ?_⟩
 exact Ji (iI j)
 refine c9 <| E _ _ <| cZ fun Q G => Zr <| Zw (.int .i64 0) rfl <| cT <| c7 ?_
 refine dz (σ := (Nat)) [4, 5, 14, 15, 16, 17, 18, 19, 20, 21, 22, 23, 24, 25, 26, 27, 28, 29, 30, 31, 32, 33, 34, 35, 36, 37] (fun k => [(5, .int .i64 (k : Int))]) (fun k W => (Below w.heap.size w W) ∧ (At W B _ 24) ∧ (At W D _ 42) ∧ (k ≤ S.may.length) ∧ (∀ q, q < k → o.testBit q = true → nh m u (iM S q) S.n = true) ∧ (True)) (fun k => S.may.length - k) (0) ⟨rfl, trivial⟩ ⟨hB, a, b, (Nat.zero_le _), eY, trivial⟩ ?_
 clear hB a b
 rintro k R T ⟨hB, a, b, hk, hq, _⟩ U x
 refine cZ fun V H => Zr <| Zi rfl <| Zf rfl fO <| ZL mayV rfl eB a rfl <| Zv (dB (v := mayV) rfl (Below.slT hB hmay) d5) <| Zv (dN rfl rfl) <| cT <| ZQ rfl (fun I => ?_) fun I => ?_
 refine c9 <| H _ _ <| cZ fun X y => c7 <| Zd d9 fun J l => ?_
 replace hB := Ze hB l
 replace a := l.at a
 replace b := l.at b
 have hS := d9.refl J
 refine Tf 0 rfl rfl fM hS <| Tk 1 rfl (fun _ hq => dk (v := .int .u8 _) rfl ek (At.cell (hq.at b) rfl)) hS <| Ti 2 rfl rfl hS <| To 3 rfl (TC DO (jD _ _ _ ho Om) rfl fun Y Z d K => ⟨.inl (hS.trans d), ?_⟩)
 have e := hB
 have z := a
 have A := b
 replace hB := Ze hB d
 replace a := d.at a
 replace b := d.at b
 replace hS := hS.trans d
 obtain rfl := K
 refine Tx 4 rfl (fun _ _ => iY (v := .bool _) rfl) hS (fun g => ?_) fun g => ?_
 refine Tf 5 rfl rfl gz hS <| Tk 6 rfl (fun _ hq => g7 rfl dP (At.cell (hq.at A) rfl) (At.cell (hq.at A) rfl)) hS <| Tf 7 rfl rfl fO hS <| Tk 8 rfl (fun _ hq => dk (v := mayV) rfl eB (At.cell (hq.at z) rfl)) hS <| Ti 9 rfl rfl hS <| Tk 10 rfl (fun _ hq => dI (v := mayV) rfl (hq.slT (Below.slT e hmay)) rfl d5 Om Ol29_0) hS <| Tk 11 rfl (fun _ hq => fo rfl df (dO.cell (hq.slT (Below.slT e hmay)) dF 0 Om Ol29_0 0 rfl) (dO.cell (hq.slT (Below.slT e hmay)) dF 0 Om Ol29_0 1 rfl) (dO.cell (hq.slT (Below.slT e hmay)) dF 0 Om Ol29_0 2 rfl) (dO.cell (hq.slT (Below.slT e hmay)) dF 0 Om Ol29_0 3 rfl)) hS <| Tf 12 rfl rfl fD hS <| Tk 13 rfl (fun _ hq => dk (v := .int .i64 _) rfl dC (At.cell (hq.at z) rfl)) hS <| To 14 rfl (TC (vs := [.agg #[_, _], .agg #[_, _, _, _], .int .i64 _]) PG (og _ _ _ _ _ hm hv) rfl fun aa ab f L => ⟨.inl (hS.trans f), ?_⟩)
 replace hB := Ze hB f
 replace a := f.at a
 replace b := f.at b
 replace hS := hS.trans f
 obtain rfl := L
 refine Tk 15 rfl (fun _ _ => fG rfl) hS <| Ty 16 rfl rfl hS <| Td <| ZQ rfl (fun p => ?_) fun p => ?_
 refine Zr <| Zw (.bool false) rfl <| cT <| Zt <| dE (v := .bool false) rfl ⟨hB, ?_⟩
 exact Lf (k := k) g (iI p)
 refine c9 <| y _ _ <| cY <| Zi rfl <| Zv (dp rfl rfl Om Om) <| Zi rfl <| cT ?_
 exact x _ _ (k + 1) Za ⟨rfl, trivial⟩ ⟨hB, a, b, Om, (eh hq (fun _ => ig p)), trivial⟩ Zo
 refine Tp 5 rfl hS <| Tp 6 rfl hS <| Tp 7 rfl hS <| Tp 8 rfl hS <| Tp 9 rfl hS <| Tp 10 rfl hS <| Tp 11 rfl hS <| Tp 12 rfl hS <| Tp 13 rfl hS <| Tp 14 rfl hS <| Tp 15 rfl hS <| Tw 16 (.bool false) rfl rfl hS <| Td <| d4 rfl ?_
 refine c9 <| y _ _ <| cY <| Zi rfl <| Zv (dp rfl rfl Om Om) <| Zi rfl <| cT ?_
 exact x _ _ (k + 1) Za ⟨rfl, trivial⟩ ⟨hB, a, b, Om, (eh hq (fun h => by rw [h] at g; cases g)), trivial⟩ Zo
 refine dt <| G _ _ <| Zr <| Zw (.bool true) rfl <| cT <| Zt <| dE (v := .bool true) rfl ⟨hB, ?_⟩
 obtain rfl : k = S.may.length := by omega
 exact MI hr (ig j) hq
theorem xS (m u o m2 u2 o2 : Nat) (w : World) :
    Fn Tryz.prog 38 #[.agg #[.int .u8 (m : Int), .int .u8 (u : Int), .int .u8 (o : Int)], .agg #[.int .u8 (m2 : Int), .int .u8 (u2 : Int), .int .u8 (o2 : Int)]] w fun v w' => v = .bool (ze ⟨⟨m, u⟩, o⟩ ⟨⟨m2, u2⟩, o2⟩) := by
 refine dr (n := 38) Tryz.func38 rfl rfl (Nat.le_of_ble_eq_true rfl) ?_
 have hB : Below w.heap.size w w := Below.refl _ _
 refine Zr <| Zy (dW (c := #[_, _, _]) rfl rfl fun k W3 g i a => ?_)
 have l := ZO g hB
 clear g
 replace hB := Ze hB i
 refine Zy (dW (c := #[_, _, _]) rfl rfl fun p W6 e h b => ?_)
 have q := ZO e hB
 have r := Zn e a.lt
 clear e
 replace hB := Ze hB h
 replace a := h.at a
 refine Zw (.bool false) rfl <| cT <| cZ fun K9 j => c7 <| Zr <| Zf rfl fM <| Zl rfl ek a rfl <| Zf rfl fM <| Zl rfl ek b rfl <| Zv (gq rfl rfl) <| Zb rfl <| cT <| ZQ rfl (fun d => ?_) fun d => ?_
 refine Zr <| Zf rfl fM <| Zl rfl ek a rfl <| Zf rfl fM <| Zl rfl ek b rfl <| Zv (dN rfl rfl) <| Zb rfl <| cT <| Zt <| dE (v := .bool _) rfl ⟨hB, ?_⟩
 exact congrArg Value.bool (Rq d)
 refine Zr <| Zf rfl gz <| Zf rfl eX <| Zl rfl ek a rfl <| Zf rfl gz <| Zf rfl eX <| Zl rfl ek b rfl <| Zv (gq rfl rfl) <| Zb rfl <| cT <| ZQ rfl (fun f => ?_) fun f => ?_
 refine Zr <| Zf rfl gz <| Zf rfl eX <| Zl rfl ek a rfl <| Zf rfl gz <| Zf rfl eX <| Zl rfl ek b rfl <| Zv (dN rfl rfl) <| Zb rfl <| cT <| Zt <| dE (v := .bool _) rfl ⟨hB, ?_⟩
 exact congrArg Value.bool (QA d f)
 refine c9 <| j _ _ <| Zr <| Zf rfl gz <| Zf rfl gC <| Zl rfl ek a rfl <| Zf rfl gz <| Zf rfl gC <| Zl rfl ek b rfl <| Zv (dN rfl rfl) <| Zb rfl <| cT <| Zt <| dE (v := .bool _) rfl ?_
 refine ⟨hB, ?_⟩
 exact congrArg Value.bool (Rb d f)
theorem oB (xa : Value) (l : List Rw) (q : Nat) (w : World) (hl : dO fI 3 w xa l) (hq : dD Tryz.prog q = true) (hdo : ∀ (m u o m2 u2 o2 : Nat) (w : World), Fn Tryz.prog q #[.agg #[.int .u8 (m : Int), .int .u8 (u : Int), .int .u8 (o : Int)], .agg #[.int .u8 (m2 : Int), .int .u8 (u2 : Int), .int .u8 (o2 : Int)]] w fun v w' => v = .bool (ze ⟨⟨m, u⟩, o⟩ ⟨⟨m2, u2⟩, o2⟩)) (hlb : l.length ≤ 2000000) :
    Fn Tryz.prog 37 #[xa, .func (.func q) #[] #[]] w fun v w' => dh fI 3 42 w' w.heap.size v (fy l l.length) := by
 refine dr (n := 44) Tryz.func37 rfl rfl (Nat.le_of_ble_eq_true rfl) ?_
 have hB : Below w.heap.size w w := Below.refl _ _
 refine Zr <| Zw (.slice none 0 0) rfl <| cT <| Zr <| Zw (.slice none 0 0) rfl <| cT <| cZ fun K5 Z => Zr <| Zw xa rfl <| Zv (dB (v := xa) rfl (Below.slT hB hl) dR) <| Zw (.int .i64 0) rfl <| cT <| c7 ?_
 refine dz (σ := (Nat) × (Value)) [5, 7, 8, 11, 12, 13, 14, 15, 16, 17, 18, 19, 20, 21, 22, 23, 24, 25, 26, 27, 28, 29, 30, 31, 32, 33, 34, 35, 36, 37, 38, 39, 40, 41, 42] (fun (k, v0) => [(11, .int .i64 (k : Int)), (5, v0)]) (fun sg W => match sg with | (k, v0) => (Below w.heap.size w W) ∧ (dh fI 3 42 W w.heap.size v0 (fy l k)) ∧ (k ≤ l.length) ∧ (True)) (fun (k, v0) => l.length - k) ((0, .slice none 0 0)) ⟨rfl, rfl, trivial⟩ ⟨hB, dh.nil, (Nat.zero_le _), trivial⟩ ?_
 clear hB
 rintro ⟨k, v0⟩ au W9 ⟨hB, ho, hk, _⟩ av S
 refine Zr <| Zv (dN rfl rfl) <| cT <| cZ fun aw aa => ZQ rfl (fun ab => ?_) fun ab => ?_
 refine c9 <| aa _ _ <| cZ fun ax T => c7 ?_
 have hsl := oT l k
 have hC : (fy l k).length ≤ jf v0 := (Sl.eqv ho.sl).2.1
 refine Zr <| Zv (dI (v := xa) rfl (Below.slT hB hl) rfl dR Om Ol29_0) <| Zv (kU rfl eq (dO.cell (Below.slT hB hl) eg ⟨⟨0, 0⟩, 0⟩ Om Ol29_0 0 rfl) (dO.cell (Below.slT hB hl) eg ⟨⟨0, 0⟩, 0⟩ Om Ol29_0 1 rfl) (dO.cell (Below.slT hB hl) eg ⟨⟨0, 0⟩, 0⟩ Om Ol29_0 2 rfl)) <| Zy (dw kL rfl fun U ay G V c => ?_)
 have ac := ZO G hB
 have ad := dh.neB (b := U) ho (Nat.le_of_eq G.symm)
 clear G
 replace hB := Ze hB V
 replace ho := V.ow ho
 refine Zy (dg rfl rfl eq rfl c rfl rfl fun az X ae => ?_)
 replace hB := Zg hB X ac
 replace ho := dh.grownAtNe ho ad X
 replace c := ae
 refine cT <| Zr <| Zw v0 rfl <| Zv (dB (v := v0) rfl ho.sl dR) <| Zi rfl <| cT <| cZ fun aA Y => c7 ?_
 refine dz (σ := (Nat)) [8, 17, 18, 19, 20, 21, 22, 23, 24, 25, 26, 27, 28, 29, 30] (fun i => [(8, .int .i64 (i : Int))]) (fun i W => (Below w.heap.size w W) ∧ (dh fI 3 42 W w.heap.size v0 _) ∧ (At W U _ 42) ∧ (i ≤ (fy l k).length) ∧ (oN (fy l k) (l.getD k ⟨⟨0, 0⟩, 0⟩) (fy l k).length = oN (fy l k) (l.getD k ⟨⟨0, 0⟩, 0⟩) i) ∧ (True)) (fun i => i) ((fy l k).length) ⟨rfl, trivial⟩ ⟨hB, ho, c, (Nat.le_refl _), rfl, trivial⟩ ?_
 clear hB ho c
 rintro i aB aC ⟨hB, ho, c, hi, hp, _⟩ aD af
 refine cZ fun aE ag => Zd d9 fun ah H => ?_
 replace hB := Ze hB H
 replace ho := H.ow ho
 replace c := H.at c
 have hS := d9.refl ah
 refine Ti 0 rfl rfl hS <| Tk 1 rfl (fun _ _ => jp rfl rfl) hS <| Tx 2 rfl (fun _ _ => iY (v := .bool _) rfl) hS (fun ai => ?_) fun ai => ?_
 refine Tw 3 (.func (.func q) #[] #[]) rfl rfl hS <| Tk 4 rfl (fun _ hq => db rfl eq rfl (hq.at c)) hS <| Tw 5 v0 rfl rfl hS <| Ti 6 rfl rfl hS <| Tk 7 rfl (fun _ _ => kD rfl rfl Om Om) hS <| Tk 8 rfl (fun _ hq => dI (v := v0) rfl ((hq.ow ho)).sl rfl dR Om Ol29_0) hS <| Tk 9 rfl (fun _ hq => kU rfl eq (dO.cell ((hq.ow ho)).sl eg ⟨⟨0, 0⟩, 0⟩ Om Ol29_0 0 rfl) (dO.cell ((hq.ow ho)).sl eg ⟨⟨0, 0⟩, 0⟩ Om Ol29_0 1 rfl) (dO.cell ((hq.ow ho)).sl eg ⟨⟨0, 0⟩, 0⟩ Om Ol29_0 2 rfl)) hS <| To 10 rfl (Yd.call (wR (q := q) rfl hq (v0 := .agg #[_, _, _]) rfl (v1 := .agg #[_, _, _]) rfl) (hdo _ _ _ _ _ _ _) fun aF aG A aj => ⟨.inl (hS.trans A), ?_⟩)
 replace hB := Ze hB A
 replace ho := A.ow ho
 replace c := A.at c
 replace hS := hS.trans A
 obtain rfl := aj
 refine Ty 11 rfl rfl hS <| Td <| ZQ rfl (fun F => ?_) fun F => ?_
 refine c9 <| ag _ _ <| c7 <| cY <| Zi rfl <| Zv (kD rfl rfl Om Om) <| Zi rfl <| cT ?_
 exact af _ _ (i - 1) Za ⟨congrArg (Value.int .i64) (by omega : (i : Int) - 1 = ((i - 1 : Nat) : Int)), trivial⟩ ⟨hB, ho, c, Om, (hp.trans (D1 Om F)), trivial⟩ Zo
 refine dt <| Y _ _ ?_
 have hpos : oN (fy l k) (l.getD k ⟨⟨0, 0⟩, 0⟩) (fy l k).length = i := hp.trans (y8 (by first | exact .inr F | exact .inl (by omega)))
 have hsl := oT l k
 have hC : (fy l k).length ≤ jf v0 := (Sl.eqv ho.sl).2.1
 have hil : ((i : Nat) : Int).toNat = i := rfl
 refine gF d9 iv (fun I J => ?_)
 replace hB := Ze hB J
 replace ho := J.ow ho
 replace c := J.at c
 have hS := d9.refl I
 refine Tw 0 v0 rfl rfl hS <| Ti 1 rfl rfl hS <| Ti 2 rfl rfl hS <| Tk 3 rfl (fun _ hq => mA (v := v0) rfl ((hq.ow ho)).sl dR rfl rfl Om Om Om) hS ?_
 have d : dO fI 3 I (gg 3 v0 0 i i) (((fy l k).drop 0).take (i - 0)) := dO.part eg ho.sl (by omega) (by omega) (by omega) (by omega)
 refine Tk 4 rfl (fun _ hq => db rfl eq rfl (hq.at c)) hS <| Tw 6 v0 rfl rfl hS <| Ti 7 rfl rfl hS <| Tk 8 rfl (fun _ hq => mw (v := v0) rfl ((hq.ow ho)).sl dR rfl Om Om) hS ?_
 have f : dO fI 3 I (gg 3 v0 i (fy l k).length (jf v0)) (((fy l k).drop i).take ((fy l k).length - i)) := dO.part eg ho.sl (by omega) (by omega) (by omega) (by omega)
 refine To 5 rfl (eU (u := .agg #[_, _, _]) rfl dR fN rfl Dd Dd fun g aH r s K => ⟨.inl (hS.trans s), ?_⟩)
 have L := ZO r hB
 have B := Nat.le_trans (d9.size hS) (Nat.le_of_eq r.symm)
 have ak := dh.neB (b := g) ho (Nat.le_of_eq r.symm)
 have al := Zn r c.lt
 have ao := dO.far (b := g) d (Nat.le_of_eq r.symm)
 have ap := dO.far (b := g) f (Nat.le_of_eq r.symm)
 clear r
 replace hB := Ze hB s
 replace ho := s.ow ho
 replace c := s.at c
 replace d := s.slT d
 replace f := s.slT f
 replace hS := hS.trans s
 have M := iE (enc := fI) (a := (l.getD k ⟨⟨0, 0⟩, 0⟩)) K rfl rfl L
 refine To 9 rfl (eC (v := .slice (some ⟨g, 0, none⟩) 1 1) (v2 := gg 3 v0 i (fy l k).length (jf v0)) rfl rfl dR fN Dd M f (io) (by have := Below.size hB; omega) (by simp; omega) (by simp; omega) fun O aI C h => ⟨.inl (du hS C (Nat.le_refl _) (fun j hj => by have e : g = j := Option.some.inj hj; rw [← e]; exact B)), ?_⟩)
 replace hS : d9 _ _ := du hS C (Nat.le_refl _) (fun j hj => by have e : g = j := Option.some.inj hj; rw [← e]; exact B)
 replace h := dh.app (enc := fI) rfl rfl rfl rfl h
 replace hB := ZG hB C M
 replace d := dO.grownFar d ao C
 replace f := dO.grownFar f ap C
 clear ho M
 refine To 10 rfl (jJ (N := w.heap.size) (v := gg 3 v0 0 i i) (v2 := O) rfl rfl dR fN d (xA (by simp; omega)) h.sl (by simp) (Below.size hB) (by simp; omega) (by simp; omega) fun D aJ y p => ⟨.inl (hS.trans y), ?_⟩)
 replace p := dh.app (enc := fI) rfl rfl rfl rfl p
 replace hB := Ze hB y
 replace d := y.slT d
 replace f := y.slT f
 replace h := y.ow h
 replace hS := hS.trans y
 refine Tw 11 D rfl rfl hS <| Td <| T _ _ <| cY <| Zv (dp rfl rfl Om Om) <| Zi rfl <| cT ?_
 exact S _ _ ((k + 1, D)) Za ⟨rfl, rfl, trivial⟩ ⟨hB, (by rw [fy, GQ, hpos]; have e : ((fy l k).drop i).take ((fy l k).length - i) = (fy l k).drop i := List.take_of_length_le (by simp); rw [e] at p; simpa using p), Om, trivial⟩ (by show l.length - (k + 1) < l.length - k; omega)
 refine Tp 3 rfl hS <| Tp 4 rfl hS <| Tp 5 rfl hS <| Tp 6 rfl hS <| Tp 7 rfl hS <| Tp 8 rfl hS <| Tp 9 rfl hS <| Tp 10 rfl hS <| Tw 11 (.bool false) rfl rfl hS <| Td <| d4 rfl <| dt <| Y _ _ ?_
 have hpos : oN (fy l k) (l.getD k ⟨⟨0, 0⟩, 0⟩) (fy l k).length = i := hp.trans (y8 (by first | exact .inr F | exact .inl (by omega)))
 have hsl := oT l k
 have hC : (fy l k).length ≤ jf v0 := (Sl.eqv ho.sl).2.1
 have hil : ((i : Nat) : Int).toNat = i := rfl
 refine gF d9 iv (fun P Q => ?_)
 replace hB := Ze hB Q
 replace ho := Q.ow ho
 replace c := Q.at c
 have hS := d9.refl P
 refine Tw 0 v0 rfl rfl hS <| Ti 1 rfl rfl hS <| Ti 2 rfl rfl hS <| Tk 3 rfl (fun _ hq => mA (v := v0) rfl ((hq.ow ho)).sl dR rfl rfl Om Om Om) hS ?_
 have d : dO fI 3 P (gg 3 v0 0 i i) (((fy l k).drop 0).take (i - 0)) := dO.part eg ho.sl (by omega) (by omega) (by omega) (by omega)
 refine Tk 4 rfl (fun _ hq => db rfl eq rfl (hq.at c)) hS <| Tw 6 v0 rfl rfl hS <| Ti 7 rfl rfl hS <| Tk 8 rfl (fun _ hq => mw (v := v0) rfl ((hq.ow ho)).sl dR rfl Om Om) hS ?_
 have f : dO fI 3 P (gg 3 v0 i (fy l k).length (jf v0)) (((fy l k).drop i).take ((fy l k).length - i)) := dO.part eg ho.sl (by omega) (by omega) (by omega) (by omega)
 refine To 5 rfl (eU (u := .agg #[_, _, _]) rfl dR fN rfl Dd Dd fun g aK t x K => ⟨.inl (hS.trans x), ?_⟩)
 have L := ZO t hB
 have B := Nat.le_trans (d9.size hS) (Nat.le_of_eq t.symm)
 have ak := dh.neB (b := g) ho (Nat.le_of_eq t.symm)
 have al := Zn t c.lt
 have aq := dO.far (b := g) d (Nat.le_of_eq t.symm)
 have ar := dO.far (b := g) f (Nat.le_of_eq t.symm)
 clear t
 replace hB := Ze hB x
 replace ho := x.ow ho
 replace c := x.at c
 replace d := x.slT d
 replace f := x.slT f
 replace hS := hS.trans x
 have R := iE (enc := fI) (a := (l.getD k ⟨⟨0, 0⟩, 0⟩)) K rfl rfl L
 refine To 9 rfl (eC (v := .slice (some ⟨g, 0, none⟩) 1 1) (v2 := gg 3 v0 i (fy l k).length (jf v0)) rfl rfl dR fN Dd R f (io) (by have := Below.size hB; omega) (by simp; omega) (by simp; omega) fun O aL E h => ⟨.inl (du hS E (Nat.le_refl _) (fun j hj => by have e : g = j := Option.some.inj hj; rw [← e]; exact B)), ?_⟩)
 replace hS : d9 _ _ := du hS E (Nat.le_refl _) (fun j hj => by have e : g = j := Option.some.inj hj; rw [← e]; exact B)
 replace h := dh.app (enc := fI) rfl rfl rfl rfl h
 replace hB := ZG hB E R
 replace d := dO.grownFar d aq E
 replace f := dO.grownFar f ar E
 clear ho R
 refine To 10 rfl (jJ (N := w.heap.size) (v := gg 3 v0 0 i i) (v2 := O) rfl rfl dR fN d (xA (by simp; omega)) h.sl (by simp) (Below.size hB) (by simp; omega) (by simp; omega) fun D aM z p => ⟨.inl (hS.trans z), ?_⟩)
 replace p := dh.app (enc := fI) rfl rfl rfl rfl p
 replace hB := Ze hB z
 replace d := z.slT d
 replace f := z.slT f
 replace h := z.ow h
 replace hS := hS.trans z
 refine Tw 11 D rfl rfl hS <| Td <| T _ _ <| cY <| Zv (dp rfl rfl Om Om) <| Zi rfl <| cT ?_
 exact S _ _ ((k + 1, D)) Za ⟨rfl, rfl, trivial⟩ ⟨hB, (by rw [fy, GQ, hpos]; have e : ((fy l k).drop i).take ((fy l k).length - i) = (fy l k).drop i := List.take_of_length_le (by simp); rw [e] at p; simpa using p), Om, trivial⟩ (by show l.length - (k + 1) < l.length - k; omega)
 refine dt <| Z _ _ <| Zr <| Zw v0 rfl <| Zw v0 rfl <| cT <| Zt <| dE (v := v0) rfl ⟨hB, ?_⟩
 obtain rfl : k = l.length := by omega
 exact ho
theorem Bh (S : Sp) (onV mayV : Value) (w : World) (hon : dO fQ 4 w onV S.on) (hmay : dO fQ 4 w mayV S.may) :
    Fn Tryz.prog 14 #[.agg #[.int .i64 S.n, onV, mayV]] w fun v w' => if dL S = true then ∃ x, v = .tuple #[x, .int .i64 0] ∧ dh fI 3 42 w' w.heap.size x (eV S) else v = .tuple #[.slice none 0 0, .int .i64 1] := by
 refine dr (n := 78) Tryz.func14 rfl rfl (Nat.le_of_ble_eq_true rfl) ?_
 have hB : Below w.heap.size w w := Below.refl _ _
 refine Zr <| Zy (dW (c := #[_, _, _]) rfl rfl fun F W3 Q ad a => ?_)
 have aJ := ZO Q hB
 clear Q
 replace hB := Ze hB ad
 refine Zw (.slice none 0 0) rfl <| Zw (.int .i64 0) rfl <| cT <| cZ fun K6 ae => Zr <| Zv (db rfl eJ rfl a) <| ZC (vs := [.agg #[_, _, _]]) pQ (im S _ _  _ (Below.slT hB hon) (Below.slT hB hmay) ) rfl fun aK aL R af => ?_
 replace hB := Ze hB R
 replace a := R.at a
 obtain rfl := af
 refine Zv (fG rfl) <| cT <| ZQ rfl (fun G => ?_) fun G => ?_
 refine Zr <| Zw (.slice none 0 0) rfl <| Zw (.int .i64 1) rfl <| cT <| Zt <| d8 (v := .slice none 0 0) rfl (v1 := .int .i64 1) rfl ⟨hB, ?_⟩
 rw [if_neg (by rw [iI G]; decide)]
 refine c9 <| ae _ _ ?_
 have hr : dL S = true := ig G
 obtain ⟨h0, h8, h1, h4, h5, hin⟩ := dX.1 hr
 have aM := DR (k := S.may.length) (by omega)
 have aN := Nat.two_pow_pos S.may.length
 refine Zr <| Zw (.slice none 0 0) rfl <| cT <| cZ fun aO ag => Zr <| Zw (.int .i64 1) rfl <| cT <| c7 ?_
 refine dz (σ := (Nat) × (Value)) [4, 5, 6, 7, 8, 9, 10, 12, 16, 17, 18, 19, 20, 21, 22, 23, 24, 25, 26, 27, 28, 29, 30, 31, 32, 33, 34, 35, 36, 37, 38, 39, 40, 41, 42, 43, 44, 45, 46, 47, 48, 49, 50, 51, 52, 53, 54, 55, 56, 57, 58, 59, 60, 61, 62, 63, 64, 65, 66, 67, 68, 69, 70, 71, 72, 73, 74, 75] (fun (o, v0) => [(5, .int .i64 (o : Int)), (4, v0)]) (fun sg W => match sg with | (o, v0) => (Below w.heap.size w W) ∧ (At W F _ 24) ∧ (dh fI 3 42 W w.heap.size v0 (jH S o)) ∧ (1 ≤ o ∧ o ≤ 2 ^ S.may.length) ∧ (True)) (fun (o, v0) => 2 ^ S.may.length - o) ((1, .slice none 0 0)) ⟨rfl, rfl, trivial⟩ ⟨hB, a, (by rw [show jH S 1 = [] from rfl]; exact dh.nil), Om, trivial⟩ ?_
 clear hB a
 rintro ⟨o, v0⟩ aP aQ ⟨hB, a, ho, hoo, _⟩ aR ah
 refine cZ fun aS ai => Zr <| Zi rfl <| Zf rfl fO <| ZL mayV rfl eB a rfl <| Zv (dB (v := mayV) rfl (Below.slT hB hmay) d5) <| Zv (jP (m := 1) rfl rfl Om (by simp only [IntKind.bits]; omega) (by exact rP _ _ (by simp only [l7]; omega))) <| Zv (dN rfl rfl) <| cT <| ZQ rfl (fun H => ?_) fun H => ?_
 refine c9 <| ai _ _ <| cZ fun aT aj => c7 ?_
 have hol : o < 2 ^ S.may.length := by simp only [Nat.one_mul, Int.toNat_natCast] at H; omega
 have hal := tx (S := S) h8 o
 refine Zr <| Zf rfl fD <| Zl rfl dC a rfl <| ZC wB (oe _ _) rfl fun aU aV I ak => ?_
 replace hB := Ze hB I
 replace a := I.at a
 replace ho := I.ow ho
 obtain ⟨sa, er, rfl, hhP7_2⟩ := qJ ak
 refine Zw (.tuple #[.agg #[_, _, _, _], .int .i64 _]) rfl <| Zv (dK rfl) <| Zv (dM rfl) <| Zy (dw eR rfl fun J al T K d => ?_)
 have U := ZO T hB
 clear T
 replace hB := Ze hB K
 replace a := K.at a
 replace ho := K.ow ho
 replace d : At al J #[wv 0 0, wv 0 1, wv 0 2, wv 0 3] 49 := d
 refine Zy (dg rfl rfl df rfl d rfl rfl fun aW L ao => ?_)
 replace hB := Zg hB L U
 replace a := At.grownAt a d L Dd
 replace ho := dh.grownAt ho d L Dd
 replace d := ao
 refine Zi rfl <| cT <| cZ fun aX ap => ?_
 obtain ⟨_, _, hsa⟩ := wa hhP7_2 (fun h => h (hhP7_2.elim (fun q => q.2.2.2) (fun q => absurd ⟨h0, h8⟩ q.1)))
 subst hsa
 refine Zr <| Zf rfl fO <| ZL mayV rfl eB a rfl <| Zv (dB (v := mayV) rfl (Below.slT hB hmay) d5) <| Zw (.int .i64 0) rfl <| cT <| c7 ?_
 refine dz (σ := (Nat)) [8, 33, 34, 35, 36, 37, 38, 39, 40, 41, 42, 43, 44, 45, 46, 47, 48] (fun k => [(33, .int .i64 (k : Int))]) (fun k W => (Below w.heap.size w W) ∧ (At W F _ 24) ∧ (dh fI 3 42 W w.heap.size v0 _) ∧ (At W J #[wv (kX S o k) 0, wv (kX S o k) 1, wv (kX S o k) 2, wv (kX S o k) 3] 49) ∧ (k ≤ S.may.length) ∧ (True)) (fun k => S.may.length - k) (0) ⟨rfl, trivial⟩ ⟨hB, a, ho, d, (Nat.zero_le _), trivial⟩ ?_
 clear hB a ho d
 rintro k aY aZ ⟨hB, a, ho, d, hk, _⟩ a0 V
 refine Zr <| Zv (dN rfl rfl) <| cT <| cZ fun a1 aq => ZQ rfl (fun ar => ?_) fun ar => ?_
 refine c9 <| aq _ _ <| cZ fun a2 X => c7 <| Zr <| Zi rfl <| Zi rfl <| cT <| Zr <| Zi rfl <| Zi rfl <| Zv (sR rfl rfl Om (by simp only [IntKind.bits]; omega)) <| Zv (nZ (n := 1) rfl rfl rfl (by simp only [d7]; have := Nat.div_le_self o (2 ^ ((k : Nat) : Int).toNat); omega) Dd) <| Zv (eD rfl rfl) ?_
 refine cT <| ZQ rfl (fun r => ?_) fun r => ?_
 refine gF d9 iv (fun au C => ?_)
 replace hB := Ze hB C
 replace a := C.at a
 replace ho := C.ow ho
 replace d := C.at d
 have hS := d9.refl au
 refine Tk 0 rfl (fun _ hq => db rfl df rfl (hq.at d)) hS <| Tf 1 rfl rfl fO hS <| Tk 2 rfl (fun _ hq => dk (v := mayV) rfl eB (At.cell (hq.at a) rfl)) hS <| Ti 3 rfl rfl hS <| Tk 4 rfl (fun _ hq => dI (v := mayV) rfl (hq.slT (Below.slT hB hmay)) rfl d5 Om Ol29_0) hS <| Tk 5 rfl (fun _ hq => fo rfl df (dO.cell (hq.slT (Below.slT hB hmay)) dF 0 Om Ol29_0 0 rfl) (dO.cell (hq.slT (Below.slT hB hmay)) dF 0 Om Ol29_0 1 rfl) (dO.cell (hq.slT (Below.slT hB hmay)) dF 0 Om Ol29_0 2 rfl) (dO.cell (hq.slT (Below.slT hB hmay)) dF 0 Om Ol29_0 3 rfl)) hS <| To 6 rfl (TC (vs := [.agg #[_, _, _, _], .agg #[_, _, _, _]]) tD (qF _ _ _) rfl fun a3 a4 j av => ⟨.inl (hS.trans j), ?_⟩)
 replace hB := Ze hB j
 replace a := j.at a
 replace ho := j.ow ho
 replace d := j.at d
 replace hS := hS.trans j
 obtain rfl := av
 refine To 7 rfl (dg rfl rfl df rfl d rfl rfl fun a5 M aw => ⟨.inr (by kernel_rfl), ?_⟩)
 replace hB := Zg hB M U
 replace a := At.grownAt a d M Dd
 replace ho := dh.grownAt ho d M Dd
 replace d := aw
 refine Td <| X _ _ <| cY <| Zv (dp rfl rfl Om Om) <| Zi rfl <| cT ?_
 exact V _ _ (k + 1) Za ⟨rfl, trivial⟩ ⟨hB, a, ho, (by first | (rw [← Fz (uW r)]; exact d) | (rw [← F4 (vz r)]; exact d)), Om, trivial⟩ Zo
 refine c9 <| X _ _ <| cY <| Zv (dp rfl rfl Om Om) <| Zi rfl <| cT ?_
 exact V _ _ (k + 1) Za ⟨rfl, trivial⟩ ⟨hB, a, ho, (by first | (rw [← Fz (uW r)]; exact d) | (rw [← F4 (vz r)]; exact d)), Om, trivial⟩ Zo
 refine dt <| ap _ _ ?_
 obtain rfl : k = S.may.length := by omega
 refine Zr <| Zv (db rfl df rfl d) <| Zf rfl fD <| Zl rfl dC a rfl <| ZC (vs := [.agg #[_, _, _, _], .int .i64 _]) Pg (B4 (f4 S o) _ _) rfl fun a6 a7 D ax => ?_
 have ay := (Below.size hB)
 replace hB := Ze hB D
 replace a := D.at a
 replace ho := D.ow ho
 replace d := D.at d
 obtain ⟨x_hP14_3, er_hP14_3, l_hP14_3, rfl, ho_hP14_3, hc_hP14_3⟩ := Mj ax
 replace ho_hP14_3 := dh.mono ho_hP14_3 ay
 refine Zw (.tuple #[x_hP14_3, .int .i64 _]) rfl <| Zv (dK rfl) <| Zv (dM rfl) <| Zw x_hP14_3 rfl <| Zi rfl <| cT ?_
 obtain ⟨q2, q3⟩ := hc_hP14_3.elim (fun h => h.2) (fun h => absurd (Jm hr o) (by rw [h.1]; decide))
 subst q2 q3
 have hpl := um (s := f4 S o) h8
 refine Zr <| Zw x_hP14_3 rfl <| Zv (dB (v := x_hP14_3) rfl ho_hP14_3.sl fi) <| Zw (.int .i64 0) rfl <| cT <| c7 ?_
 refine dz (σ := (Nat) × (Value)) [4, 12, 58, 59, 60, 61, 62, 63, 64, 65, 66, 67, 68, 69, 70, 71, 72, 73, 74, 75] (fun (i, v1) => [(58, .int .i64 (i : Int)), (4, v1)]) (fun sg W => match sg with | (i, v1) => (Below w.heap.size w W) ∧ (At W F _ 24) ∧ (At W J _ 49) ∧ (dh ib 2 40 W w.heap.size x_hP14_3 _) ∧ (dh fI 3 42 W w.heap.size v1 (jH S o ++ i4 S o i)) ∧ (i ≤ (eE (f4 S o) S.n).length) ∧ (True)) (fun (i, v1) => (eE (f4 S o) S.n).length - i) ((0, v0)) ⟨rfl, rfl, trivial⟩ ⟨hB, a, d, ho_hP14_3, (by rw [i4, List.append_nil]; exact ho), (Nat.zero_le _), trivial⟩ ?_
 clear hB a ho d ho_hP14_3
 rintro ⟨i, v1⟩ a8 a9 ⟨hB, a, d, ho_hP14_3, f, hi, _⟩ ba Y
 refine Zr <| Zv (dN rfl rfl) <| cT <| cZ fun bb az => ZQ rfl (fun aA => ?_) fun aA => ?_
 refine c9 <| az _ _ <| cZ fun bc Z => c7 ?_
 have hci : ((eE (f4 S o) S.n).getD i ⟨0, 0⟩).m < 256 ∧ ((eE (f4 S o) S.n).getD i ⟨0, 0⟩).v < 256 := Hw h8 (by omega)
 have hrl := oR S o i
 have hol2 := qC S ((eE (f4 S o) S.n).getD i ⟨0, 0⟩) S.may.length
 refine Zr <| Zv (dI (v := x_hP14_3) rfl ho_hP14_3.sl rfl fi Om Ol29_0) <| Zv (g7 rfl dP (dO.cell ho_hP14_3.sl gw ⟨0, 0⟩ Om Ol29_0 0 rfl) (dO.cell ho_hP14_3.sl gw ⟨0, 0⟩ Om Ol29_0 1 rfl)) <| Zy (dw jj rfl fun aB bd N t g => ?_)
 have aC := ZO N hB
 have aD := dh.neB (b := aB) ho_hP14_3 (Nat.le_of_eq N.symm)
 clear N
 replace hB := Ze hB t
 replace a := t.at a
 replace d := t.at d
 replace ho_hP14_3 := t.ow ho_hP14_3
 replace f := t.ow f
 refine Zy (dg rfl rfl dP rfl g rfl rfl fun bf y aE => ?_)
 replace hB := Zg hB y aC
 replace a := At.grownAt a g y Dd
 replace d := At.grownAt d g y Dd
 replace ho_hP14_3 := dh.grownAtNe ho_hP14_3 aD y
 replace f := dh.grownAt f g y Dd
 replace g := aE
 refine cT <| Zr <| Zv (db rfl eJ rfl a) <| Zv (db rfl dP rfl g) <| ZC (vs := [.agg #[_, _, _], .agg #[_, _]]) DK (oH S _ _ ((eE (f4 S o) S.n).getD i ⟨0, 0⟩) _ (Below.slT hB hon) (Below.slT hB hmay) hci Om) rfl fun bg bh l aF => ?_
 replace hB := Ze hB l
 replace a := l.at a
 replace d := l.at d
 replace ho_hP14_3 := l.ow ho_hP14_3
 replace f := l.ow f
 replace g := l.at g
 obtain rfl := aF
 refine Zi rfl <| Zv (iB rfl Tryz.underlying3 Tryz.underlying5 (by simp only [d7]; omega)) <| Zv (eD rfl rfl) <| cT <| ZQ rfl (fun z => ?_) fun z => ?_
 refine cY <| Zw v1 rfl <| Zv (db rfl dP rfl g) <| Zi rfl <| Zv (iB rfl Tryz.underlying3 Tryz.underlying5 (by simp only [d7]; omega)) <| Zv (jt (h0 := rfl) (h1 := rfl) (k1 := rfl) (c1_0 := .int .u8 _)) <| Zy (eU (u := .agg #[_, _, _]) rfl dR fN rfl Dd Dd fun aa bi O p aG => ?_)
 have bj := ZO O hB
 have bk := dh.neB (b := aa) f (Nat.le_of_eq O.symm)
 clear O
 replace hB := Ze hB p
 replace a := p.at a
 replace d := p.at d
 replace ho_hP14_3 := p.ow ho_hP14_3
 replace f := p.ow f
 replace g := p.at g
 refine Zy (eC (v := v1) (v2 := .slice (some ⟨aa, 0, none⟩) 1 1) rfl rfl dR fN Dd f (fm aG rfl) rfl (by have := Below.size hB; omega) (by first | omega | (simp; omega) | (simp only [cV, cW, cX, da, de]; omega)) (by first | omega | (simp; omega) | (simp only [cV, cW, cX, da, de]; omega)) fun ab bl A E => ?_)
 replace E := dh.snoc (enc := fI) (x := ⟨(eE (f4 S o) S.n).getD i ⟨0, 0⟩, o⟩) rfl rfl rfl rfl E
 replace hB := ZG hB A f
 replace a := At.grownOw a f A Dd
 replace d := At.grownOw d f A Dd
 replace ho_hP14_3 := dh.grownOw ho_hP14_3 f A Dd
 replace g := At.grownOw g f A Dd
 clear f
 refine Zw ab rfl <| cT <| Z _ _ <| cY <| Zv (dp rfl rfl Om Om) <| Zi rfl <| cT ?_
 exact Y _ _ ((i + 1, ab)) Za ⟨rfl, rfl, trivial⟩ ⟨hB, a, d, ho_hP14_3, (by first | (rw [← CP (Eo z), ← List.append_assoc]; exact E) | (rw [← BV (fun h => z (congrArg Int.ofNat h))]; exact E)), Om, trivial⟩ (by show (eE (f4 S o) S.n).length - (i + 1) < (eE (f4 S o) S.n).length - i; omega)
 refine c9 <| Z _ _ <| cY <| Zv (dp rfl rfl Om Om) <| Zi rfl <| cT ?_
 exact Y _ _ ((i + 1, v1)) Za ⟨rfl, rfl, trivial⟩ ⟨hB, a, d, ho_hP14_3, (by first | (rw [← CP (Eo z), ← List.append_assoc]; exact f) | (rw [← BV (fun h => z (congrArg Int.ofNat h))]; exact f)), Om, trivial⟩ (by show (eE (f4 S o) S.n).length - (i + 1) < (eE (f4 S o) S.n).length - i; omega)
 refine dt <| aj _ _ <| cY <| Zi rfl <| Zv (dp rfl rfl Om Om) <| Zi rfl <| cT ?_
 exact ah _ _ ((o + 1, v1)) Za ⟨rfl, rfl, trivial⟩ ⟨hB, a, (by rw [← xn Om]; have e : i = (eE (f4 S o) S.n).length := Om; subst e; exact f), Om, trivial⟩ (by show 2 ^ S.may.length - (o + 1) < 2 ^ S.may.length - o; omega)
 refine dt <| ag _ _ ?_
 obtain rfl : o = 2 ^ S.may.length := by simp only [Nat.one_mul, Int.toNat_natCast] at H; omega
 have hal := tx (S := S) h8 (2 ^ S.may.length)
 refine Zr <| Zw v0 rfl <| ZC Oz (oB _ (eV S) 38 _ ho.sl OH (fun m u o m2 u2 o2 w => xS m u o m2 u2 o2 w) (show (jH S (2 ^ S.may.length)).length ≤ 2000000 by omega)) rfl fun ac bm P B => ?_
 have aH := dh.lt2 ho
 have aI := (Below.size hB)
 replace hB := Ze hB P
 replace a := P.at a
 replace ho := P.ow ho
 have bn := eW.new aH B
 replace B := dh.mono B aI
 rw [GC] at B
 refine Zw ac rfl <| Zw (.int .i64 0) rfl <| cT <| Zt <| d8 (v := ac) rfl (v1 := .int .i64 0) rfl ⟨hB, ?_⟩
 rw [if_pos hr]
 exact ⟨_, rfl, B⟩
theorem sK (S : Sp) (onV mayV : Value) (x : Rw) (w : World) (hon : dO fQ 4 w onV S.on) (hmay : dO fQ 4 w mayV S.may) (hbx : x.c.m < 256 ∧ x.c.v < 256 ∧ x.o < 256) :
    Fn Tryz.prog 47 #[.agg #[.int .i64 S.n, onV, mayV], .agg #[.int .u8 (x.c.m : Int), .int .u8 (x.c.v : Int), .int .u8 (x.o : Int)]] w fun v w' => v = if lY S x = true then .tuple #[.agg #[.int .u8 ((ua S x).c.m : Int), .int .u8 ((ua S x).c.v : Int), .int .u8 ((ua S x).o : Int)], .int .i64 0] else .tuple #[.agg #[.int .u8 0, .int .u8 0, .int .u8 0], .int .i64 1] := by
 refine dr (n := 36) Tryz.func47 rfl rfl (Nat.le_of_ble_eq_true rfl) ?_
 have hB : Below w.heap.size w w := Below.refl _ _
 refine Zr <| Zy (dW (c := #[_, _, _]) rfl rfl fun X W3 R Y b => ?_)
 have aw := ZO R hB
 clear R
 replace hB := Ze hB Y
 refine Zy (dW (c := #[_, _, _]) rfl rfl fun Z W6 T U a => ?_)
 have G := ZO T hB
 clear T
 replace hB := Ze hB U
 replace b := U.at b
 refine Zy (dw kL rfl fun aa W9 H I d => ?_)
 have V := ZO H hB
 have l := Zn H a.lt
 clear H
 replace hB := Ze hB I
 replace b := I.at b
 replace a := I.at a
 refine Zw (.int .i64 0) rfl <| cT <| cZ fun ax ab => Zr <| Zv (db rfl eJ rfl b) <| Zv (db rfl eq rfl a) <| ZC (vs := [.agg #[_, _, _], .agg #[_, _, _]]) Dh (mW S _ _ _ _ _ _ (Below.slT hB hon) (Below.slT hB hmay) hbx.1 hbx.2.1 hbx.2.2) rfl fun ay az s ac => ?_
 replace hB := Ze hB s
 replace b := s.at b
 replace a := s.at a
 replace d := s.at d
 obtain rfl := ac
 refine Zv (fG rfl) <| cT <| ZQ rfl (fun J => ?_) fun J => ?_
 refine Zr <| Zv (CC ) <| Zy (dg rfl rfl eq rfl d rfl rfl fun aA K ad => ?_)
 replace hB := Zg hB K V
 replace b := At.grownAt b d K Dd
 replace a := At.grownNe a l K
 replace d := ad
 refine Zw (.int .i64 1) rfl <| cT <| Zt <| fx rfl eq d rfl (v1 := .int .i64 1) rfl ⟨hB, ?_⟩
 rw [if_neg (by rw [show lY S x = false from iI J]; decide)]
 refine c9 <| ab _ _ <| cZ fun aB ae => ?_
 have hi : lY S x = true := ig J
 obtain ⟨h0, h8, h1, h4, h5, hin⟩ := dX.1 (fz.1 hi).1
 refine Zr <| Zf rfl fD <| Zl rfl dC b rfl <| Zw (.int .i64 0) rfl <| cT <| c7 ?_
 refine dz (σ := (Nat)) [6, 7, 15, 16, 17, 18, 19, 20, 21, 22, 23, 24, 25, 26, 27, 28, 29] (fun i => [(15, .int .i64 (i : Int))]) (fun i W => (Below w.heap.size w W) ∧ (At W X _ 24) ∧ (At W aa _ 42) ∧ (At W Z #[.int .u8 ((eA S x i).m : Int), .int .u8 ((eA S x i).v : Int), .int .u8 (x.o : Int)] 42) ∧ ((i : Int) ≤ S.n) ∧ (True)) (fun i => S.n.toNat - i) (0) ⟨rfl, trivial⟩ ⟨hB, b, d, a, Om, trivial⟩ ?_
 clear hB b a d
 rintro i aC aD ⟨hB, b, d, a, hi2, _⟩ aE t
 refine Zr <| Zv (dN rfl rfl) <| cT <| cZ fun aF af => ZQ rfl (fun ag => ?_) fun ag => ?_
 refine c9 <| af _ _ <| cZ fun aG u => c7 ?_
 have hg := su (S := S) (x := x) ⟨hbx.1, hbx.2.1⟩ i
 have hle := vB (eA S x i).m (i : Int)
 have hle2 : (eA S x i).v &&& jr (eA S x i).m (i : Int) ≤ (eA S x i).v := Nat.and_le_left
 refine Zr <| Zi rfl <| Zi rfl <| cT <| Zd d9 fun ah y => ?_
 replace hB := Ze hB y
 replace b := y.at b
 replace d := y.at d
 replace a := y.at a
 have hS := d9.refl ah
 refine Tf 0 rfl rfl gz hS <| Tk 1 rfl (fun _ hq => g7 rfl dP (At.cell (hq.at a) rfl) (At.cell (hq.at a) rfl)) hS <| Ti 2 rfl rfl hS <| Tf 4 rfl rfl fM hS <| Tk 5 rfl (fun _ hq => dk (v := .int .u8 _) rfl ek (At.cell (hq.at a) rfl)) hS ?_
 refine zI 3 7 (by kernel_rfl) rfl rfl rfl rfl rfl rfl rfl rfl (Yd.call (vj zL (v0 := .agg #[_, _]) rfl (v1 := .int .i64 _) rfl) (kR _ _ (i : Int) _ hg.1 hg.2) (fun ai aH h L => ⟨.inl (hS.trans h), ?_⟩)) (dw kL rfl (fun aj aI z j e => ⟨.inl (hS.trans j), ?_⟩))
 replace hB := Ze hB h
 replace b := h.at b
 replace d := h.at d
 replace a := h.at a
 replace hS := hS.trans h
 obtain rfl := L
 refine Tk 6 rfl (fun _ _ => jt (h0 := rfl) (h1 := rfl) (k1 := rfl) (c1_0 := .int .u8 _)) hS <| To 7 rfl (dw kL rfl fun aj aJ A k e => ⟨.inl (hS.trans k), ?_⟩)
 have M := ZO A hB
 have N := Zn A d.lt
 have p := Zn A a.lt
 clear A
 replace hB := Ze hB k
 replace b := k.at b
 replace d := k.at d
 replace a := k.at a
 replace hS := hS.trans k
 refine To 8 rfl (dg rfl rfl eq rfl e rfl rfl fun aK B ak => ⟨.inr (by kernel_rfl), ?_⟩)
 replace hB := Zg hB B M
 replace b := At.grownAt b e B Dd
 replace d := At.grownNe d N B
 replace a := At.grownNe a p B
 replace e := ak
 refine Td <| Zr <| Zv (db rfl eJ rfl b) <| Zv (db rfl eq rfl e) <| ZC (vs := [.agg #[_, _, _], .agg #[_, _, _]]) Dh (mW S _ _ (iR (eA S x i) i).m (iR (eA S x i) i).v x.o _ (Below.slT hB hon) (Below.slT hB hmay) (by show jr (eA S x i).m (i : Int) < 256; omega) (by show (eA S x i).v &&& jr (eA S x i).m (i : Int) < 256; omega) hbx.2.2) rfl fun al aL q O => ?_
 replace hB := Ze hB q
 replace b := q.at b
 replace d := q.at d
 replace a := q.at a
 replace e := q.at e
 obtain rfl := O
 refine cT <| ZQ rfl (fun f => ?_) fun f => ?_
 refine cY <| Zv (db rfl eq rfl e) <| Zy (dg rfl rfl eq rfl a rfl rfl fun aM C ao => ?_)
 replace hB := Zg hB C G
 replace b := At.grownAt b a C Dd
 replace d := At.grownNe d (Ne.symm l) C
 replace e := At.grownNe e (Ne.symm p) C
 replace a := ao
 refine cT <| u _ _ <| cY <| Zv (dp rfl rfl Om Om) <| Zi rfl <| cT ?_
 exact t _ _ (i + 1) Za ⟨rfl, trivial⟩ ⟨hB, b, d, (by first | (rw [← uV f]; exact a) | (rw [← uX f]; exact a)), Om, trivial⟩ Zo
 refine c9 <| u _ _ <| cY <| Zv (dp rfl rfl Om Om) <| Zi rfl <| cT ?_
 exact t _ _ (i + 1) Za ⟨rfl, trivial⟩ ⟨hB, b, d, (by first | (rw [← uV f]; exact a) | (rw [← uX f]; exact a)), Om, trivial⟩ Zo
 have M := ZO z hB
 have N := Zn z d.lt
 have p := Zn z a.lt
 clear z
 replace hB := Ze hB j
 replace b := j.at b
 replace d := j.at d
 replace a := j.at a
 replace hS := hS.trans j
 refine To 3 rfl (TC (vs := [.agg #[_, _], .int .i64 _]) zL (kR _ _ (i : Int) _ hg.1 hg.2) rfl fun ai aN g L => ⟨.inl (hS.trans g), ?_⟩)
 replace hB := Ze hB g
 replace b := g.at b
 replace d := g.at d
 replace a := g.at a
 replace e := g.at e
 replace hS := hS.trans g
 obtain rfl := L
 refine Tk 6 rfl (fun _ _ => jt (h0 := rfl) (h1 := rfl) (k1 := rfl) (c1_0 := .int .u8 _)) hS <| To 8 rfl (dg rfl rfl eq rfl e rfl rfl fun aO D ap => ⟨.inr (by kernel_rfl), ?_⟩)
 replace hB := Zg hB D M
 replace b := At.grownAt b e D Dd
 replace d := At.grownNe d N D
 replace a := At.grownNe a p D
 replace e := ap
 refine Td <| Zr <| Zv (db rfl eJ rfl b) <| Zv (db rfl eq rfl e) <| ZC (vs := [.agg #[_, _, _], .agg #[_, _, _]]) Dh (mW S _ _ (iR (eA S x i) i).m (iR (eA S x i) i).v x.o _ (Below.slT hB hon) (Below.slT hB hmay) (by show jr (eA S x i).m (i : Int) < 256; omega) (by show (eA S x i).v &&& jr (eA S x i).m (i : Int) < 256; omega) hbx.2.2) rfl fun al aP r O => ?_
 replace hB := Ze hB r
 replace b := r.at b
 replace d := r.at d
 replace a := r.at a
 replace e := r.at e
 obtain rfl := O
 refine cT <| ZQ rfl (fun f => ?_) fun f => ?_
 refine cY <| Zv (db rfl eq rfl e) <| Zy (dg rfl rfl eq rfl a rfl rfl fun aQ E aq => ?_)
 replace hB := Zg hB E G
 replace b := At.grownAt b a E Dd
 replace d := At.grownNe d (Ne.symm l) E
 replace e := At.grownNe e (Ne.symm p) E
 replace a := aq
 refine cT <| u _ _ <| cY <| Zv (dp rfl rfl Om Om) <| Zi rfl <| cT ?_
 exact t _ _ (i + 1) Za ⟨rfl, trivial⟩ ⟨hB, b, d, (by first | (rw [← uV f]; exact a) | (rw [← uX f]; exact a)), Om, trivial⟩ Zo
 refine c9 <| u _ _ <| cY <| Zv (dp rfl rfl Om Om) <| Zi rfl <| cT ?_
 exact t _ _ (i + 1) Za ⟨rfl, trivial⟩ ⟨hB, b, d, (by first | (rw [← uV f]; exact a) | (rw [← uX f]; exact a)), Om, trivial⟩ Zo
 refine dt <| ae _ _ ?_
 obtain rfl : i = S.n.toNat := by omega
 refine Zr <| Zv (db rfl eJ rfl b) <| Zf rfl gz <| Zv (g7 rfl dP (At.cell a rfl) (At.cell a rfl)) <| ZC (vs := [.agg #[_, _, _], .agg #[_, _]]) DK (oH S _ _ (eA S x S.n.toNat) _ (Below.slT hB hon) (Below.slT hB hmay) (su ⟨hbx.1, hbx.2.1⟩ _) Om) rfl fun aR aS F ar => ?_
 replace hB := Ze hB F
 replace b := F.at b
 replace d := F.at d
 replace a := F.at a
 obtain rfl := ar
 refine Zf rfl fM <| Zy (eH (v := .int .u8 _) rfl rfl ek rfl a (by simp) fun aT P au => ?_)
 replace hB := Zg hB P G
 replace b := At.grownAt b a P Dd
 replace d := At.grownNe d (Ne.symm l) P
 replace a := au
 replace a : At _ _ #[_, _, _] _ := a
 refine cT <| Zr <| Zv (db rfl eq rfl a) <| Zy (dg rfl rfl eq rfl d rfl rfl fun aU Q av => ?_)
 replace hB := Zg hB Q V
 replace b := At.grownAt b d Q Dd
 replace a := At.grownNe a l Q
 replace d := av
 refine Zw (.int .i64 0) rfl <| cT <| Zt <| fx rfl eq d rfl (v1 := .int .i64 0) rfl ⟨hB, ?_⟩
 rw [if_pos hi]
 rfl
end
end Go.Proofs.YteimkklmmanncaaGreat
