/- The walks of package prime, but for the function All. The walk of prime.All. The walks of specs, of package multi, and of the document's rows. Plain words for what rows cover: the points of an output, point by point. Steps of the walks. No program in it. -/
import Derived.Test.YteimkklmmanncaaGreatWCube
import Derived.Test.YteimkklmmanncaaGreatLift2
namespace Go.Proofs.YteimkklmmanncaaGreat
set_option linter.unusedVariables false
set_option linter.unusedSimpArgs false
section
open Go Go.RowKit
theorem yN : dC Tryz.prog 67 = true := by kernel_rfl
theorem pL : dC Tryz.prog 41 = true := by kernel_rfl
theorem CE : dC Tryz.prog 61 = true := by kernel_rfl
theorem tK {f : Nat → Value} {w : World} {d : Option Nat} {ty : TypeId} {ps : String} {af : Array Edge} {g : Option (Nat × Bool)}    :
    (execOp (dO f) ⟨d, .build 40 #[], ty, ps, af, g⟩).run Tryz.prog w = .ok (.value (.agg #[.int .u8 0, .int .u8 0])) w := by
  obtain ⟨i0, hi0, hz0⟩ := Option.bind_eq_some_iff.1 (show (Tryz.prog.info? 40).bind (·.zero) = _ from i4)
  obtain ⟨j5, hj5, hs5⟩ := Option.map_eq_some_iff.1 rJ
  simp [execOp, Instr.build, zeroValue, typeInfo, sizeOf, hi0, hz0, run_underlying Tryz.underlying40, Instr.fill, eW, hj5, hs5]
theorem yw : dC Tryz.prog 59 = true := by kernel_rfl
theorem eZ : fO Tryz.prog 66 = some (40, 2, 2) := by kernel_rfl
theorem MU : dC Tryz.prog 96 = true := by kernel_rfl
theorem ja : (eL Tryz.prog 40).map (fun z => z.cells.size) = some 2 := by kernel_rfl
theorem mi (m u s : Nat) (n : Int) (w : World) (hm : m < 256) (hv : u < 256) :
    Fn Tryz.prog 61 #[.agg #[.int .u8 (m : Int), .int .u8 (u : Int)], eP s, .int .i64 n] w fun v w' => v = .bool (o0 m u s n) := by
 refine dq (n := 22) Tryz.func61 rfl rfl (Nat.le_of_ble_eq_true rfl) ?_
 have hB : Below w.heap.size w w := Below.refl _ _
 refine Zr <| Zy (dU (c := #[_, _]) rfl rfl fun B W3 k p a => ?_)
 have C := ZO k hB
 clear k
 replace hB := Ze hB p
 refine Zy (dU (c := #[_, _, _, _]) rfl rfl fun D W6 l o b => ?_)
 have E := ZO l hB
 clear l
 replace hB := Ze hB o
 replace a := o.at a
 refine Zw (.bool false) rfl <| cT <| Zr <| Zv (db rfl dN rfl a) <| Zi rfl <| ZC (vs := [.agg #[_, _], .int .i64 _]) yN (lc _ _ _ _ (by first | assumption | omega) (by first | assumption | omega)) rfl fun F G g q => ?_
 replace hB := Ze hB g
 replace a := g.at a
 replace b := g.at b
 obtain ⟨sa, er, rfl, hhP1_2⟩ := tj q
 refine Zw (.tuple #[.agg #[_, _, _, _], .int .i64 _]) rfl <| Zv (dI rfl) <| Zv (dK rfl) <| Zy (dt eM rfl fun r t h i d => ?_)
 have x := ZO h hB
 have y := Zn h b.lt
 clear h
 replace hB := Ze hB i
 replace a := i.at a
 replace b := i.at b
 replace d : At t r #[wv 0 0, wv 0 1, wv 0 2, wv 0 3] 49 := d
 refine Zy (dg rfl rfl df rfl d rfl rfl fun H j z => ?_)
 replace hB := Zg hB j x
 replace a := At.grownAt a d j Dd
 replace b := At.grownNe b y j
 replace d := z
 refine Zi rfl <| cT <| Zr <| Zi rfl <| Zv (eB rfl rfl) <| ZX rfl (fun e => ?_) fun e => ?_
 refine Zv (db rfl df rfl d) <| Zv (db rfl df rfl b) <| ZC (vs := [.agg #[_, _, _, _], .agg #[_, _, _, _]]) pL (ij _ _ _) rfl fun I J f A => ?_
 replace hB := Ze hB f
 replace a := f.at a
 replace b := f.at b
 replace d := f.at d
 obtain rfl := A
 refine Zb rfl <| Zb rfl <| cT <| Zt <| dE (v := .bool _) rfl ⟨hB, ?_⟩
 first | exact congrArg Value.bool (It hhP1_2 e) | exact congrArg Value.bool (E5 hhP1_2 e)
 refine Zs <| Zs <| Zs <| Zw (.bool false) rfl <| Zw (.bool false) rfl <| cT <| Zt <| dE (v := .bool false) rfl ⟨hB, ?_⟩
 first | exact congrArg Value.bool (It hhP1_2 e) | exact congrArg Value.bool (E5 hhP1_2 e)
theorem zp (c : Cb) (s : Nat) (n : Int) (w : World) (hm : c.m < 256 ∧ c.v < 256) :
    Fn Tryz.prog 87 #[.agg #[.int .u8 (c.m : Int), .int .u8 (c.v : Int)], eP s, .int .i64 n] w fun v w' => v = if o0 c.m c.v s n = true then .tuple #[.agg #[.int .u8 ((jw s n c).m : Int), .int .u8 ((jw s n c).v : Int)], .int .i64 0] else .tuple #[.agg #[.int .u8 0, .int .u8 0], .int .i64 1] := by
 refine dq (n := 30) Tryz.func87 rfl rfl (Nat.le_of_ble_eq_true rfl) ?_
 have hB : Below w.heap.size w w := Below.refl _ _
 refine Zr <| Zy (dU (c := #[_, _]) rfl rfl fun G W3 z H a => ?_)
 have I := ZO z hB
 clear z
 replace hB := Ze hB H
 refine Zy (dU (c := #[_, _, _, _]) rfl rfl fun J W6 A B d => ?_)
 have Z := ZO A hB
 clear A
 replace hB := Ze hB B
 replace a := B.at a
 refine Zy (dt i4 rfl fun K W9 q r b => ?_)
 have C := ZO q hB
 have t := Zn q a.lt
 clear q
 replace hB := Ze hB r
 replace a := r.at a
 replace d := r.at d
 refine Zw (.int .i64 0) rfl <| cT <| cY fun aa L => Zr <| Zv (db rfl dN rfl a) <| Zv (db rfl df rfl d) <| Zi rfl <| ZC (vs := [.agg #[_, _], .agg #[_, _, _, _], .int .i64 _]) CE (mi _ _ _ _ _ (by first | assumption | omega) (by first | assumption | omega)) rfl fun ab ac h M => ?_
 replace hB := Ze hB h
 replace a := h.at a
 replace d := h.at d
 replace b := h.at b
 obtain rfl := M
 refine Zv (fy rfl) <| cT <| ZQ rfl (fun u => ?_) fun u => ?_
 refine Zr <| Zv (tK ) <| Zy (dg rfl rfl dN rfl b rfl rfl fun ad x N => ?_)
 replace hB := Zg hB x C
 replace a := At.grownNe a t x
 replace d := At.grownAt d b x Dd
 replace b := N
 refine Zw (.int .i64 1) rfl <| cT <| Zt <| fw rfl dN b rfl (v1 := .int .i64 1) rfl ⟨hB, ?_⟩
 rw [if_neg (by simpa using u)]
 refine c9 <| L _ _ <| cY fun ae O => ?_
 have hw : o0 c.m c.v s n = true := by simpa using u
 obtain ⟨hn0, hn8, _, _⟩ := dW.1 (sS hw)
 refine Zr <| Zi rfl <| Zw (.int .i64 0) rfl <| cT <| c7 ?_
 refine dw (σ := (Nat)) [8, 9, 17, 18, 19, 20, 21, 22, 23, 24, 25, 26, 27, 28] (fun i => [(17, .int .i64 (i : Int))]) (fun i W => (Below w.heap.size w W) ∧ (At W J _ 49) ∧ (At W K _ 40) ∧ (At W G #[.int .u8 ((eY s n c i).m : Int), .int .u8 ((eY s n c i).v : Int)] 40) ∧ (i ≤ n.toNat) ∧ (True)) (fun i => n.toNat - i) (0) ⟨rfl, trivial⟩ ⟨hB, d, b, a, (Nat.zero_le _), trivial⟩ ?_
 clear hB a d b
 rintro i af ag ⟨hB, d, b, a, hi, _⟩ ah D
 refine Zr <| Zv (dL rfl rfl) <| cT <| cY fun ai P => ZQ rfl (fun Q => ?_) fun Q => ?_
 refine c9 <| P _ _ <| cY fun aj E => c7 <| Zr <| Zi rfl <| Zi rfl <| cT ?_
 have hg := xW (s := s) (n := n) hm i
 have hle := uT (eY s n c i).m (i : Int)
 have hle2 : (eY s n c i).v &&& jx (eY s n c i).m (i : Int) ≤ (eY s n c i).v := Nat.and_le_left
 refine Zr <| Zv (db rfl dN rfl a) <| Zi rfl <| ZC (vs := [.agg #[_, _], .int .i64 _]) yw (kg _ _ _ _ (by first | assumption | omega) (by first | assumption | omega)) rfl fun ak al j R => ?_
 replace hB := Ze hB j
 replace d := j.at d
 replace b := j.at b
 replace a := j.at a
 obtain rfl := R
 refine Zy (dt i4 rfl fun ao ap k l e => ?_)
 have S := ZO k hB
 have T := Zn k b.lt
 have F := Zn k a.lt
 clear k
 replace hB := Ze hB l
 replace d := l.at d
 replace b := l.at b
 replace a := l.at a
 refine Zy (dg rfl rfl dN rfl e rfl rfl fun aq o U => ?_)
 replace hB := Zg hB o S
 replace d := At.grownAt d e o Dd
 replace b := At.grownNe b T o
 replace a := At.grownNe a F o
 replace e := U
 refine cT <| Zr <| Zv (db rfl dN rfl e) <| Zv (db rfl df rfl d) <| Zi rfl <| ZC (vs := [.agg #[_, _], .agg #[_, _, _, _], .int .i64 _]) CE (mi _ _ _ _ _ (by first | assumption | omega) (by first | assumption | omega)) rfl fun ar au f V => ?_
 replace hB := Ze hB f
 replace d := f.at d
 replace b := f.at b
 replace a := f.at a
 replace e := f.at e
 obtain rfl := V
 refine cT <| ZQ rfl (fun g => ?_) fun g => ?_
 refine cZ <| Zv (db rfl dN rfl e) <| Zy (dg rfl rfl dN rfl a rfl rfl fun av p X => ?_)
 replace hB := Zg hB p I
 replace d := At.grownAt d a p Dd
 replace b := At.grownNe b (Ne.symm t) p
 replace e := At.grownNe e (Ne.symm F) p
 replace a := X
 refine cT <| E _ _ <| cZ <| Zv (dp rfl rfl Om Om) <| Zi rfl <| cT ?_
 exact D _ _ (i + 1) Za ⟨rfl, trivial⟩ ⟨hB, d, b, (by first | (rw [wK g]; exact a) | (rw [u6 g]; exact a)), Om, trivial⟩ Zo
 refine c9 <| E _ _ <| cZ <| Zv (dp rfl rfl Om Om) <| Zi rfl <| cT ?_
 exact D _ _ (i + 1) Za ⟨rfl, trivial⟩ ⟨hB, d, b, (by first | (rw [wK g]; exact a) | (rw [u6 g]; exact a)), Om, trivial⟩ Zo
 refine dr <| O _ _ <| Zr <| Zv (db rfl dN rfl a) <| Zy (dg rfl rfl dN rfl b rfl rfl fun aw y Y => ?_)
 replace hB := Zg hB y C
 replace d := At.grownAt d b y Dd
 replace a := At.grownNe a t y
 replace b := Y
 refine Zw (.int .i64 0) rfl <| cT <| Zt <| fw rfl dN b rfl (v1 := .int .i64 0) rfl ⟨hB, ?_⟩
 have hin : i = n.toNat := by omega
 subst hin
 rw [if_pos hw]
 rfl
theorem tw (b m u m2 u2 : Nat) (w : World) (hb : At w b #[.int .u8 (m2 : Int), .int .u8 (u2 : Int)] 40) :
    Fn Tryz.prog 96 #[.agg #[.int .u8 (m : Int), .int .u8 (u : Int)], .pointer (some ⟨b, 0, none⟩)] w fun v w' => v = .bool (wu ⟨m, u⟩ ⟨m2, u2⟩) := by
 refine dq (n := 23) Tryz.func96 rfl rfl (Nat.le_of_ble_eq_true rfl) ?_
 have hB : Below w.heap.size w w := Below.refl _ _
 refine Zr <| Zy (dU (c := #[_, _]) rfl rfl fun h W3 f g e => ?_)
 have i := ZO f hB
 clear f
 replace hB := Ze hB g
 refine Zw (.bool false) rfl <| cT <| Zr <| Zf rfl eQ <| Zl rfl ef e rfl <| Zf rfl eQ <| Zl rfl ef (Below.atI hB hb) rfl <| Zv (dL rfl rfl) <| ZX rfl (fun a => ?_) fun a => ?_
 refine Zs <| Zs <| Zs <| Zs <| Zs <| Zs <| Zs <| Zs <| Zs <| Zs <| Zs <| Zs <| Zw (.bool true) rfl <| Zw (.bool true) rfl ?_
 refine cT <| Zt <| dE (v := .bool true) rfl ⟨hB, ?_⟩
 first | exact congrArg Value.bool (Gu a) | exact congrArg Value.bool (GH a d) | exact congrArg Value.bool (GA a d)
 refine Zf rfl eQ <| Zl rfl ef e rfl <| Zf rfl eQ <| Zl rfl ef (Below.atI hB hb) rfl <| Zv (eB rfl rfl) <| ZX rfl (fun d => ?_) fun d => ?_
 refine Zf rfl gr <| Zl rfl ef e rfl <| Zf rfl gr <| Zl rfl ef (Below.atI hB hb) rfl <| Zv (dL rfl rfl) <| Zb rfl <| Zb rfl <| Zb rfl <| cT <| Zt <| dE (v := .bool _) rfl ⟨hB, ?_⟩
 first | exact congrArg Value.bool (Gu a) | exact congrArg Value.bool (GH a d) | exact congrArg Value.bool (GA a d)
 refine Zs <| Zs <| Zs <| Zs <| Zs <| Zw (.bool false) rfl <| Zw (.bool false) rfl <| Zw (.bool false) rfl <| cT <| Zt <| dE (v := .bool false) rfl ⟨hB, ?_⟩
 first | exact congrArg Value.bool (Gu a) | exact congrArg Value.bool (GH a d) | exact congrArg Value.bool (GA a d)
theorem vL (x : Value) (l : List Cb) (c : Cb) (w : World) (hl : dM gU 2 w x l) (hn : l.length ≤ 70000) :
    Fn Tryz.prog 60 #[x, .agg #[.int .u8 (c.m : Int), .int .u8 (c.v : Int)]] w fun v w' => dh gU 2 40 w' w.heap.size v (yC l c) := by
 refine dq (n := 35) Tryz.func60 rfl rfl (Nat.le_of_ble_eq_true rfl) ?_
 have hB : Below w.heap.size w w := Below.refl _ _
 have hC : l.length ≤ iU x := (Sl.eqv hl).2.1
 refine Zr <| Zy (dU (c := #[_, _]) rfl rfl fun h W3 K Q b => ?_)
 have Z := ZO K hB
 clear K
 replace hB := Ze hB Q
 refine Zw (.slice none 0 0) rfl <| cT <| Zr <| Zv (gV (vs := #[.pointer (some ⟨h, 0, none⟩)]) (by simp only [List.map_toArray, List.map_cons, List.map_nil]; rfl)) <| Zw (.func (.func 96) #[] #[.pointer (some ⟨h, 0, none⟩)]) rfl <| cT <| Zr <| Zw x rfl <| Zv (dA (v := x) rfl (Below.slT hB hl) eZ) <| Zi rfl <| cT <| cY fun aa L => c7 ?_
 refine dw (σ := (Nat)) [6, 10, 11, 12, 13, 14, 15, 16, 17, 18, 19, 20, 21, 22, 23] (fun i => [(6, .int .i64 (i : Int))]) (fun i W => (Below w.heap.size w W) ∧ (At W h _ 40) ∧ (i ≤ l.length) ∧ (mR l c l.length = mR l c i) ∧ (True)) (fun i => i) (l.length) ⟨rfl, trivial⟩ ⟨hB, b, (Nat.le_refl _), rfl, trivial⟩ ?_
 clear hB b
 rintro i ab ac ⟨hB, b, hi, hp, _⟩ ad R
 refine cY fun ae S => Zr <| Zi rfl <| Zv (iQ rfl rfl) <| ZX rfl (fun T => ?_) fun T => ?_
 refine Zw (.func (.func 96) #[] #[.pointer (some ⟨h, 0, none⟩)]) rfl <| Zw x rfl <| Zi rfl <| Zv (kU rfl rfl Om Om) <| Zv (dJ (v := x) rfl (Below.slT hB hl) rfl eZ Om (by first | omega | (simp only [cV, cW, cX, da]; omega))) <| Zv (ig rfl dN (dM.cell (Below.slT hB hl) gj ⟨0, 0⟩ Om (by first | omega | (simp only [cV, cW, cX, da]; omega)) 0 rfl) (dM.cell (Below.slT hB hl) gj ⟨0, 0⟩ Om (by first | omega | (simp only [cV, cW, cX, da]; omega)) 1 rfl)) ?_
 refine qp (dd := some 19) rfl rfl rfl (jV (q := 96) (first := #[]) (cap := #[.pointer (some ⟨h, 0, none⟩)]) (vs := #[.agg #[_, _], .pointer (some ⟨h, 0, none⟩)]) rfl MU (by simp only [List.map_toArray, List.map_cons, List.map_nil, List.append_toArray, List.nil_append, List.cons_append]; rfl)) (tw _ _ _ _ _ _ b) (fun af ag M U => ?_)
 replace hB := Ze hB M
 replace b := M.at b
 obtain rfl := U
 refine Zv (fy rfl) <| Zb rfl <| cT <| ZQ rfl (fun p => ?_) fun p => ?_
 refine c9 <| S _ _ <| c7 <| cZ <| Zi rfl <| Zv (kU rfl rfl Om Om) <| Zi rfl <| cT ?_
 exact R _ _ (i - 1) Za ⟨congrArg (Value.int .i64) (by omega : (i : Int) - 1 = ((i - 1 : Nat) : Int)), trivial⟩ ⟨hB, b, Om, (hp.trans (Hz Om p)), trivial⟩ Zo
 refine dr <| L _ _ ?_
 have hpos : mR l c l.length = i := hp.trans (Ee (by first | exact .inl (by omega) | exact .inr p))
 have hil : ((i : Nat) : Int).toNat = i := rfl
 refine Zd eo fun V O => ?_
 replace hB := Ze hB O
 replace b := O.at b
 have hS := eo.refl V
 refine Tw 0 x rfl rfl hS <| Ti 1 rfl rfl hS <| Ti 2 rfl rfl hS <| Tk 3 rfl (fun _ hq => l8 (v := x) rfl (hq.slT (Below.slT hB hl)) eZ rfl rfl Om Om Om) hS ?_
 have B : dM gU 2 w (fV 2 x 0 i i) ((l.drop 0).take (i - 0)) := dM.part gj hl (by omega) (by omega) (by omega) (by omega)
 refine Tk 4 rfl (fun _ hq => db rfl dN rfl (hq.at b)) hS <| Tw 6 x rfl rfl hS <| Ti 7 rfl rfl hS <| Tk 8 rfl (fun _ hq => l9 (v := x) rfl (hq.slT (Below.slT hB hl)) eZ rfl Om Om) hS ?_
 have C : dM gU 2 w (fV 2 x i l.length (iU x)) ((l.drop i).take (l.length - i)) := dM.part gj hl (by omega) (by omega) (by omega) (by omega)
 refine To 5 rfl (fc (u := .agg #[_, _]) rfl eZ ja rfl Dd Dd fun g ah r s D => ⟨.inl (hS.trans s), ?_⟩)
 have E := ZO r hB
 have k := Nat.le_trans (eo.size hS) (Nat.le_of_eq r.symm)
 have X := Zn r b.lt
 clear r
 replace hB := Ze hB s
 replace b := s.at b
 replace hS := hS.trans s
 have F := ix (enc := gU) (a := c) D rfl rfl E
 refine To 9 rfl (ez (v := .slice (some ⟨g, 0, none⟩) 1 1) (v2 := fV 2 x i l.length (iU x)) rfl rfl eZ ja Dd F (Below.slT hB C) (ol) (by have := Below.size hB; omega) (by simp; omega) (by simp; omega) fun G ai H d => ⟨.inl (dy hS H (Nat.le_refl _) (fun j hj => by have e : g = j := Option.some.inj hj; rw [← e]; exact k)), ?_⟩)
 replace hS : eo _ _ := dy hS H (Nat.le_refl _) (fun j hj => by have e : g = j := Option.some.inj hj; rw [← e]; exact k)
 replace d := dh.app (enc := gU) rfl rfl rfl rfl d
 replace hB := ZG hB H F
 clear F
 refine To 10 rfl (js (N := w.heap.size) (v := fV 2 x 0 i i) (v2 := G) rfl rfl eZ ja (Below.slT hB B) (qu (by simp; omega)) d.sl (by simp) (Below.size hB) (by simp; omega) (by simp; omega) fun o aj t f => ⟨.inl (hS.trans t), ?_⟩)
 replace f := dh.app (enc := gU) rfl rfl rfl rfl f
 replace hB := Ze hB t
 replace d := t.ow d
 replace hS := hS.trans t
 refine Tw 11 o rfl rfl hS <| Td <| Zt <| dE (v := o) rfl ⟨hB, ?_⟩
 have e : (l.drop i).take (l.length - i) = l.drop i := List.take_of_length_le (by simp)
 rw [e] at f
 rw [yC, hpos]
 simpa using f
 refine Zs <| Zs <| Zs <| Zs <| Zs <| Zs <| Zs <| Zs <| Zw (.bool false) rfl <| cT <| d4 rfl <| dr <| L _ _ ?_
 have hpos : mR l c l.length = i := hp.trans (Ee (by first | exact .inl (by omega) | exact .inr p))
 have hil : ((i : Nat) : Int).toNat = i := rfl
 refine Zd eo fun Y P => ?_
 replace hB := Ze hB P
 replace b := P.at b
 have hS := eo.refl Y
 refine Tw 0 x rfl rfl hS <| Ti 1 rfl rfl hS <| Ti 2 rfl rfl hS <| Tk 3 rfl (fun _ hq => l8 (v := x) rfl (hq.slT (Below.slT hB hl)) eZ rfl rfl Om Om Om) hS ?_
 have B : dM gU 2 w (fV 2 x 0 i i) ((l.drop 0).take (i - 0)) := dM.part gj hl (by omega) (by omega) (by omega) (by omega)
 refine Tk 4 rfl (fun _ hq => db rfl dN rfl (hq.at b)) hS <| Tw 6 x rfl rfl hS <| Ti 7 rfl rfl hS <| Tk 8 rfl (fun _ hq => l9 (v := x) rfl (hq.slT (Below.slT hB hl)) eZ rfl Om Om) hS ?_
 have C : dM gU 2 w (fV 2 x i l.length (iU x)) ((l.drop i).take (l.length - i)) := dM.part gj hl (by omega) (by omega) (by omega) (by omega)
 refine To 5 rfl (fc (u := .agg #[_, _]) rfl eZ ja rfl Dd Dd fun g ak y z D => ⟨.inl (hS.trans z), ?_⟩)
 have E := ZO y hB
 have k := Nat.le_trans (eo.size hS) (Nat.le_of_eq y.symm)
 have X := Zn y b.lt
 clear y
 replace hB := Ze hB z
 replace b := z.at b
 replace hS := hS.trans z
 have I := ix (enc := gU) (a := c) D rfl rfl E
 refine To 9 rfl (ez (v := .slice (some ⟨g, 0, none⟩) 1 1) (v2 := fV 2 x i l.length (iU x)) rfl rfl eZ ja Dd I (Below.slT hB C) (ol) (by have := Below.size hB; omega) (by simp; omega) (by simp; omega) fun G al J d => ⟨.inl (dy hS J (Nat.le_refl _) (fun j hj => by have e : g = j := Option.some.inj hj; rw [← e]; exact k)), ?_⟩)
 replace hS : eo _ _ := dy hS J (Nat.le_refl _) (fun j hj => by have e : g = j := Option.some.inj hj; rw [← e]; exact k)
 replace d := dh.app (enc := gU) rfl rfl rfl rfl d
 replace hB := ZG hB J I
 clear I
 refine To 10 rfl (js (N := w.heap.size) (v := fV 2 x 0 i i) (v2 := G) rfl rfl eZ ja (Below.slT hB B) (qu (by simp; omega)) d.sl (by simp) (Below.size hB) (by simp; omega) (by simp; omega) fun o ao A f => ⟨.inl (hS.trans A), ?_⟩)
 replace f := dh.app (enc := gU) rfl rfl rfl rfl f
 replace hB := Ze hB A
 replace d := A.ow d
 replace hS := hS.trans A
 refine Tw 11 o rfl rfl hS <| Td <| Zt <| dE (v := o) rfl ⟨hB, ?_⟩
 have e : (l.drop i).take (l.length - i) = l.drop i := List.take_of_length_le (by simp)
 rw [e] at f
 rw [yC, hpos]
 simpa using f
end
section
open Go Go.RowKit
theorem wF : dC Tryz.prog 33 = true := by kernel_rfl
theorem ld : lK Tryz.prog 97 = some (40, 4) := by kernel_rfl
theorem mF : oS Tryz.prog 40 (fun v => ∃ a : Cb, v = iC a) := by
  refine nG Tryz.underlying40 ?_ ?_ ?_ ?_
  · rintro w _ _ ⟨a, rfl⟩ ⟨c, rfl⟩
    have hg : Tryz.prog.eqGuardType Tryz.prog.depth 40 = false := by kernel_rfl
    exact ⟨_, ql hg (EX rfl rfl), by rw [decide_eq_true_eq]; constructor <;> intro h <;> simpa [iC] using h⟩
  · rintro _ _ ⟨a, rfl⟩ ⟨c, rfl⟩
    exact .inl rfl
  · rintro w em _ ⟨a, rfl⟩
    have h2 : ∀ k, (Instr.checkKey em (k + 1 + 1 + 1) 40 (iC a)).run Tryz.prog w = .ok () w := fun k => by
      simp [iC, Instr.checkKey, part, isAgg, run_underlying Tryz.underlying40, run_underlying Tryz.underlying5]
    exact h2 9997
  · rintro _ ⟨a, rfl⟩
    simp [iC, Instr.sameBits]
theorem O0 : dC Tryz.prog 60 = true := by kernel_rfl
theorem BR (s : Nat) (n : Int) (w : World) :
    Fn Tryz.prog 35 #[eP s, .int .i64 n] w fun v w' => if uA s n = true then ∃ x, v = .tuple #[x, .int .i64 0] ∧ dh gU 2 40 w' w.heap.size x (eH s n) else v = .tuple #[.slice none 0 0, .int .i64 1] := by
 refine dq (n := 105) Tryz.func35 rfl rfl (Nat.le_of_ble_eq_true rfl) ?_
 have hB : Below w.heap.size w w := Below.refl _ _
 refine Zr <| Zy (dU (c := #[_, _, _, _]) rfl rfl fun ac W3 aE aV e => ?_)
 have bR := ZO aE hB
 clear aE
 replace hB := Ze hB aV
 refine Zw (.slice none 0 0) rfl <| Zw (.int .i64 0) rfl <| cT <| Zr <| Zi rfl <| ZC wF (nR _ _) rfl fun bS W8 aF aW => ?_
 replace hB := Ze hB aF
 replace e := aF.at e
 obtain ⟨sa, er, rfl, hhP1_1⟩ := qi aW
 refine Zw (.tuple #[.agg #[_, _, _, _], .int .i64 _]) rfl <| Zv (dI rfl) <| Zv (dK rfl) <| Zy (dt eM rfl fun Z aX aq aG f => ?_)
 have aY := ZO aq hB
 have aZ := Zn aq e.lt
 clear aq
 replace hB := Ze hB aG
 replace e := aG.at e
 replace f : At aX Z #[wv 0 0, wv 0 1, wv 0 2, wv 0 3] 49 := f
 refine Zy (dg rfl rfl df rfl f rfl rfl fun bT aH a0 => ?_)
 replace hB := Zg hB aH aY
 replace e := At.grownNe e aZ aH
 replace f := a0
 refine Zi rfl <| cT <| cY fun bU a1 => Zr <| Zi rfl <| Zv (f7 rfl rfl) <| ZX rfl (fun ag => ?_) fun ag => ?_
 refine Zs <| Zs <| Zs <| Zs <| Zw (.bool true) rfl <| cT <| dz rfl <| Zr <| Zw (.slice none 0 0) rfl <| Zw (.int .i64 1) rfl <| cT <| Zt <| dZ (v := .slice none 0 0) rfl (v1 := .int .i64 1) rfl ⟨hB, ?_⟩
 rw [if_neg (EK hhP1_1 ag)]
 refine Zv (db rfl df rfl e) <| Zv (db rfl df rfl f) <| ZC (vs := [.agg #[_, _, _, _], .agg #[_, _, _, _]]) pL (ij _ _ _) rfl fun bV bW ar a2 => ?_
 replace hB := Ze hB ar
 replace e := ar.at e
 replace f := ar.at f
 obtain rfl := a2
 refine Zv (fy rfl) <| Zb rfl <| cT <| ZQ rfl (fun au => ?_) fun au => ?_
 refine Zr <| Zw (.slice none 0 0) rfl <| Zw (.int .i64 1) rfl <| cT <| Zt <| dZ (v := .slice none 0 0) rfl (v1 := .int .i64 1) rfl ⟨hB, ?_⟩
 rw [if_neg (Ez hhP1_1 ag au)]
 refine c9 <| a1 _ _ ?_
 have hof : uA s n = true := Jw hhP1_1 ag au
 obtain ⟨hn0, hn8⟩ := jY hof
 have hll := kT s
 refine Zr <| Zy (gE (enc := iC) (encV := Value.bool) fun ah bX aI av z => ?_)
 have a3 := ZO aI hB
 clear aI
 replace hB := Ze hB av
 replace e := av.at e
 replace f := av.at f
 replace z : dR iC Value.bool _ _ (ft []) := z
 refine Zw (.map (some ah)) rfl <| cT <| cY fun bY a4 => Zr <| Zv (db rfl df rfl e) <| ZC (vs := [.agg #[_, _, _, _]]) vC (mh _ _) rfl fun V bZ ai h => ?_
 have a5 := (Below.size hB)
 replace hB := Ze hB ai
 replace e := ai.at e
 replace f := ai.at f
 replace z := ai.mapT z
 replace h := dh.mono h a5
 refine Zv (dA (v := V) rfl h.sl du) <| Zw (.int .i64 0) rfl <| cT <| c7 ?_
 refine dw (σ := (Nat) × (List Cb)) [10, 35, 36, 37, 38, 39, 40, 41, 42, 43, 44, 45, 46] (fun (k, ks) => [(35, .int .i64 (k : Int))]) (fun sg W => match sg with | (k, ks) => (Below w.heap.size w W) ∧ (At W ac _ 49) ∧ (At W Z _ 49) ∧ (dh d9 1 3 W w.heap.size V _) ∧ (dR iC Value.bool W ah (ft ks)) ∧ (k ≤ (eg s).length) ∧ (∀ c, c ∈ ks ↔ ∃ j, j < k ∧ c = ⟨2 ^ n.toNat - 1, ((eg s).getD j 0).toNat⟩) ∧ (True)) (fun (k, ks) => (eg s).length - k) ((0, [])) ⟨rfl, trivial⟩ ⟨hB, e, f, h, z, (Nat.zero_le _), (fun c => by simp), trivial⟩ ?_
 clear hB e f z h
 rintro ⟨k, ks⟩ b0 b1 ⟨hB, e, f, h, z, hk, hks, _⟩ b2 a6
 refine Zr <| Zv (dL rfl rfl) <| cT <| cY fun b3 a7 => ZQ rfl (fun a8 => ?_) fun a8 => ?_
 refine c9 <| a7 _ _ <| cY fun b4 a9 => c7 <| Zr <| Zv (dJ (v := V) rfl h.sl rfl du Om (by first | omega | (simp only [cV, cW, cX, da]; omega))) <| Zv (dk (v := .int .i64 _) rfl dB (dM.cell h.sl eD 0 Om (by first | omega | (simp only [cV, cW, cX, da]; omega)) 0 rfl)) <| Zi rfl <| cT ?_
 obtain ⟨p, b5, b6, aJ⟩ := kO (s := s) (i := k) (by omega)
 refine cZ <| Zw (.map (some ah)) rfl <| Zi rfl <| Zv (M2 rfl rfl hn0) <| Zv (OV rfl rfl hn0 hn8) <| Zi rfl <| Zv (jt (m := p) (congrArg (Value.int .i64) aJ) Tryz.underlying3 Tryz.underlying5 (by simp only [d5]; omega)) <| Zv (mt (h0 := rfl) (k0 := rfl) (h1 := rfl) (k1 := rfl) (c0_0 := .int .u8 _) (c1_0 := .int .u8 _)) ?_
 refine gS (dd := none) rfl rfl rfl (fI (enc := iC) (encV := Value.bool) (k := ⟨_, _⟩) (v := true) rfl rfl rfl ld mF (fun a => ⟨a, rfl⟩) mn z (fun b7 aj ba => ?_))
 replace hB := Zg hB aj a3
 replace e := At.grownMap e z aj
 replace f := At.grownMap f z aj
 replace h := dh.grownMap h z aj
 replace z := ba
 rw [jj] at z
 refine cT <| a9 _ _ <| cZ <| Zv (dp rfl rfl Om Om) <| Zi rfl <| cT ?_
 exact a6 _ _ ((k + 1, iB ks ⟨2 ^ n.toNat - 1, p⟩)) Za ⟨rfl, trivial⟩ ⟨hB, e, f, h, z, Om, (Fz hks aJ), trivial⟩ (by show (eg s).length - (k + 1) < (eg s).length - k; omega)
 refine dr <| a4 _ _ <| Zr <| Zw (.slice none 0 0) rfl <| cT <| cY fun b8 bb => c7 ?_
 refine dw (σ := (Nat) × (List Cb) × (Value) × (List Cb) × (Nat)) [8, 11, 12, 13, 14, 15, 16, 17, 47, 48, 49, 50, 51, 52, 53, 54, 55, 56, 57, 58, 59, 60, 61, 62, 63, 64, 65, 66, 67, 68, 69, 70, 71, 72, 73, 74, 75, 76, 77, 78, 79, 80, 81, 82, 83, 84, 85, 86, 87, 88, 89, 90, 91, 92, 93, 94, 95, 96, 97, 98, 99, 100, 101, 102, 103] (fun (bn, now, v0, out, t) => [(8, .map (some bn)), (11, v0)]) (fun sg W => match sg with | (bn, now, v0, out, t) => (Below w.heap.size w W) ∧ (At W ac _ 49) ∧ (At W Z _ 49) ∧ (dh d9 1 3 W w.heap.size V _) ∧ (dR iC Value.bool W bn (ft now)) ∧ (dh gU 2 40 W w.heap.size v0 (out)) ∧ (nu s n t now) ∧ (uY s n t out) ∧ (iM out) ∧ (t ≤ n.toNat + 1) ∧ (True)) (fun (bn, now, v0, out, t) => t) ((ah, ks, .slice none 0 0, [], n.toNat + 1)) ⟨rfl, rfl, trivial⟩ ⟨hB, e, f, h, z, dh.nil, (Am hof (IP hks Om)), Jb, List.Pairwise.nil, (Nat.le_refl _), trivial⟩ ?_
 clear hB e f h z
 rintro ⟨bn, now, v0, out, t⟩ b9 ca ⟨hB, e, f, h, hmN, ho, hLv, hOut, hRis, ht, _⟩ cb bc
 refine cY fun cc bd => Zr <| Zw (.map (some bn)) rfl <| Zv (IZ rfl ld hmN) <| Zv (iQ rfl rfl) <| cT <| ZQ rfl (fun aw => ?_) fun aw => ?_
 refine c9 <| bd _ _ <| c7 ?_
 obtain ⟨t', rfl⟩ := Fk hLv aw
 refine Zr <| Zy (gE (enc := iC) (encV := Value.bool) fun E cd ax aa g => ?_)
 have aK := ZO ax hB
 have ak := Zn ax hmN.lt
 clear ax
 replace hB := Ze hB aa
 replace e := aa.at e
 replace f := aa.at f
 replace h := aa.ow h
 replace hmN := aa.mapT hmN
 replace ho := aa.ow ho
 replace g : dR iC Value.bool _ _ (ft []) := g
 refine Zy (gE (enc := iC) (encV := Value.bool) fun ab ce al X l => ?_)
 have bf := ZO al hB
 have aL := Zn al hmN.lt
 have ay := Zn al g.lt
 clear al
 replace hB := Ze hB X
 replace e := X.at e
 replace f := X.at f
 replace h := X.ow h
 replace hmN := X.mapT hmN
 replace ho := X.ow ho
 replace g := X.mapT g
 replace l : dR iC Value.bool _ _ (ft []) := l
 refine Zw (.map (some E)) rfl <| Zw (.map (some ab)) rfl <| cT <| cY fun cf bg => Zr <| Zw (.map (some bn)) rfl <| Zy (zv rfl ld hmN fun aM cg aN S o => ?_)
 have bh := ZO aN hB
 clear aN
 replace hB := Ze hB S
 replace e := S.at e
 replace f := S.at f
 replace h := S.ow h
 replace hmN := S.mapT hmN
 replace ho := S.ow ho
 replace g := S.mapT g
 replace l := S.mapT l
 refine cT <| c7 ?_
 refine dw (σ := (List Cb) × (List Cb) × (List Cb)) [14, 15, 16, 54, 55, 56, 57, 58, 59, 60, 61, 62, 63, 64, 65, 66, 67, 68, 69, 70, 71, 72, 73, 74, 75, 76, 77, 78, 79, 80, 81, 82, 83, 84, 85, 86, 87, 88, 89] (fun (seen, nl, ml) => []) (fun sg W => match sg with | (seen, nl, ml) => (Below w.heap.size w W) ∧ (At W ac _ 49) ∧ (At W Z _ 49) ∧ (dh d9 1 3 W w.heap.size V _) ∧ (dR iC Value.bool W bn _) ∧ (dh gU 2 40 W w.heap.size v0 _) ∧ (eJ iC Value.bool W aM bn (ft now) seen) ∧ (dR iC Value.bool W E (ft nl)) ∧ (dR iC Value.bool W ab (ft ml)) ∧ (∀ d, d ∈ nl ↔ jk now n seen d) ∧ (∀ d, d ∈ ml ↔ gk now n seen d) ∧ (True)) (fun (seen, nl, ml) => (ft now).length - seen.length) (([], [], [])) trivial ⟨hB, e, f, h, hmN, ho, o, g, l, Cc, zB, trivial⟩ ?_
 clear hB e f h hmN ho g l o
 rintro ⟨seen, nl, ml⟩ ch ci ⟨hB, e, f, h, hmN, ho, o, g, l, hN, hM, _⟩ cj bi
 refine Zr ?_
 refine gS (dd := some 54) rfl rfl rfl (Dp rfl o (fun bj => ?_) (fun A ck cl aO cm T bk => ?_))
 refine Zv (vO rfl) <| cT <| cY fun cn co => d4 rfl <| dr <| bg _ _ <| cY fun cp bl => ?_
 have hseen := BN o bj
 have hN' := F3 hN hseen
 have hM' := Bf hM hseen
 refine Zr <| Zw (.map (some bn)) rfl <| Zy (zv rfl ld hmN fun bm cq aP N u => ?_)
 have bo := ZO aP hB
 clear aP
 replace hB := Ze hB N
 replace e := N.at e
 replace f := N.at f
 replace h := N.ow h
 replace hmN := N.mapT hmN
 replace ho := N.ow ho
 replace o := N.iterT o
 replace g := N.mapT g
 replace l := N.mapT l
 refine cT <| c7 ?_
 refine dw (σ := (List Cb) × (Value) × (List Cb)) [11, 17, 92, 93, 94, 95, 96, 97, 98, 99, 100, 101, 102] (fun (seen2, v2, out2) => [(11, v2)]) (fun sg W => match sg with | (seen2, v2, out2) => (Below w.heap.size w W) ∧ (At W ac _ 49) ∧ (At W Z _ 49) ∧ (dh d9 1 3 W w.heap.size V _) ∧ (dR iC Value.bool W bn _) ∧ (dR iC Value.bool W E _) ∧ (dR iC Value.bool W ab _) ∧ (eJ iC Value.bool W bm bn (ft now) seen2) ∧ (dh gU 2 40 W w.heap.size v2 (out2)) ∧ (∀ c, c ∈ out2 ↔ c ∈ out ∨ (c ∈ seen2 ∧ c ∉ ml)) ∧ (iM out2) ∧ (True)) (fun (seen2, v2, out2) => (ft now).length - seen2.length) (([], v0, out)) ⟨rfl, trivial⟩ ⟨hB, e, f, h, hmN, g, l, u, ho, Nx, hRis, trivial⟩ ?_
 clear hB e f h hmN ho o g l u
 rintro ⟨seen2, v2, out2⟩ cr cs ⟨hB, e, f, h, hmN, g, l, u, B, ad, hR2, _⟩ ct aQ
 refine Zr ?_
 refine gS (dd := some 92) rfl rfl rfl (Dp rfl u (fun bp => ?_) (fun Y cu cv aR bq U br => ?_))
 refine Zv (vO rfl) <| cT <| cY fun cw cx => d4 rfl <| dr <| bl _ _ ?_
 have hseen2 := BN u bp
 refine cZ <| Zw (.map (some E)) rfl <| Zw (.map (some E)) rfl <| cT ?_
 exact bc _ _ ((E, nl, v2, out2, t')) Za ⟨rfl, rfl, trivial⟩ ⟨hB, e, f, h, g, (by exact B), (C9 hn8 hLv Om hN'), (IC hLv hOut hM' (Kn ad hseen2)), hR2, Om, trivial⟩ (by show t' < t' + 1; omega)
 replace hB := Zg hB U bo
 replace e := At.grownIter e u U
 replace f := At.grownIter f u U
 replace h := dh.grownIter h u U
 replace hmN := dR.grownIter hmN u U
 replace g := dR.grownIter g u U
 replace l := dR.grownIter l u U
 replace B := dh.grownIter B u U
 replace u := br
 refine Zv (mz rfl) <| cT <| cY fun cy bs => dz rfl <| c9 <| bs _ _ <| c7 ?_
 have hkn := (AB aR).1
 obtain ⟨hkm, hkv⟩ := vT hLv hn8 hkn
 refine Zr <| Zv (zM rfl u aR) <| Zv (dI rfl) <| Zy (dt i4 rfl fun bt cz az O C => ?_)
 have bu := ZO az hB
 have bv := dh.neB (b := bt) B (Nat.le_of_eq az.symm)
 clear az
 replace hB := Ze hB O
 replace e := O.at e
 replace f := O.at f
 replace h := O.ow h
 replace hmN := O.mapT hmN
 replace g := O.mapT g
 replace l := O.mapT l
 replace u := O.iterT u
 replace B := O.ow B
 refine Zy (dg rfl rfl dN rfl C rfl rfl fun cA P bw => ?_)
 replace hB := Zg hB P bu
 replace e := At.grownAt e C P Dd
 replace f := At.grownAt f C P Dd
 replace h := dh.grownAt h C P Dd
 replace hmN := dR.grownAt hmN C P
 replace g := dR.grownAt g C P
 replace l := dR.grownAt l C P
 replace u := eJ.grownAt u C P
 replace B := dh.grownAtNe B bv P
 replace C := bw
 refine cT <| Zr <| Zw (.map (some ab)) rfl <| Zv (db rfl dN rfl C) <| Zv (fR (enc := iC) (encV := Value.bool) (v0 := false) (k := ⟨Y.m, Y.v⟩) rfl rfl ld mF (fun a => ⟨a, rfl⟩) mn oN rfl l) <| Zv (fy rfl) <| cT <| ZQ rfl (fun aA => ?_) fun aA => ?_
 have hsm := Hb hLv hn8 hOut ad (fun c hc => Ad u c (List.mem_cons_of_mem _ hc)) hR2
 refine cZ <| Zw v2 rfl <| Zv (db rfl dN rfl C) <| ZC (vs := [v2, .agg #[_, _]]) O0 (vL _ _ _ _ B.sl (by first | assumption | omega)) rfl fun aS cB J ao => ?_
 have bx := dh.lt2 B
 have bz := (Below.size hB)
 replace hB := Ze hB J
 replace e := J.at e
 replace f := J.at f
 replace h := J.ow h
 replace hmN := J.mapT hmN
 replace g := J.mapT g
 replace l := J.mapT l
 replace u := J.iterT u
 replace B := J.ow B
 replace C := J.at C
 have cC := eO.new bx ao
 replace ao := dh.mono ao bz
 refine Zw aS rfl <| cT ?_
 exact aQ _ _ ((Y :: seen2, aS, yC out2 Y)) Za ⟨rfl, trivial⟩ ⟨hB, e, f, h, hmN, g, l, u, (by exact ao), (LF ad (Df aA)), (zY hR2 (MN hLv hOut ad hkn bq)), trivial⟩ (by have hle := eJ.len_le u; show (ft now).length - (Y :: seen2).length < (ft now).length - seen2.length; simp only [List.length_cons] at hle ⊢; omega)
 refine c9 ?_
 exact aQ _ _ ((Y :: seen2, v2, out2)) Za ⟨rfl, trivial⟩ ⟨hB, e, f, h, hmN, g, l, u, (by exact B), (Kk ad (Bk aA)), hR2, trivial⟩ (by have hle := eJ.len_le u; show (ft now).length - (Y :: seen2).length < (ft now).length - seen2.length; simp only [List.length_cons] at hle ⊢; omega)
 replace hB := Zg hB T bh
 replace e := At.grownIter e o T
 replace f := At.grownIter f o T
 replace h := dh.grownIter h o T
 replace hmN := dR.grownIter hmN o T
 replace ho := dh.grownIter ho o T
 replace g := dR.grownIter g o T
 replace l := dR.grownIter l o T
 replace o := bk
 refine Zv (mz rfl) <| cT <| cY fun cD bA => dz rfl <| c9 <| bA _ _ <| c7 ?_
 have hkn := (AB aO).1
 obtain ⟨hkm, hkv⟩ := vT hLv hn8 hkn
 refine Zr <| Zv (zM rfl o aO) <| Zv (dI rfl) <| Zy (dt i4 rfl fun aT cE aB Q r => ?_)
 have bB := ZO aB hB
 have bC := dh.neB (b := aT) ho (Nat.le_of_eq aB.symm)
 clear aB
 replace hB := Ze hB Q
 replace e := Q.at e
 replace f := Q.at f
 replace h := Q.ow h
 replace hmN := Q.mapT hmN
 replace ho := Q.ow ho
 replace o := Q.iterT o
 replace g := Q.mapT g
 replace l := Q.mapT l
 refine Zy (dg rfl rfl dN rfl r rfl rfl fun cF R bD => ?_)
 replace hB := Zg hB R bB
 replace e := At.grownAt e r R Dd
 replace f := At.grownAt f r R Dd
 replace h := dh.grownAt h r R Dd
 replace hmN := dR.grownAt hmN r R
 replace ho := dh.grownAtNe ho bC R
 replace o := eJ.grownAt o r R
 replace g := dR.grownAt g r R
 replace l := dR.grownAt l r R
 replace r := bD
 refine cT <| Zr <| Zi rfl <| Zw (.int .i64 0) rfl <| cT <| c7 ?_
 refine dw (σ := (Nat) × (List Cb) × (List Cb)) [15, 16, 59, 60, 61, 62, 63, 64, 65, 66, 67, 68, 69, 70, 71, 72, 73, 74, 75, 76, 77, 78, 79, 80, 81, 82, 83, 84, 85, 86, 87, 88, 89] (fun (i, nl2, ml2) => [(59, .int .i64 (i : Int))]) (fun sg W => match sg with | (i, nl2, ml2) => (Below w.heap.size w W) ∧ (At W ac _ 49) ∧ (At W Z _ 49) ∧ (dh d9 1 3 W w.heap.size V _) ∧ (dR iC Value.bool W bn _) ∧ (dh gU 2 40 W w.heap.size v0 _) ∧ (eJ iC Value.bool W aM bn _ _) ∧ (At W aT _ 40) ∧ (dR iC Value.bool W E (ft nl2)) ∧ (dR iC Value.bool W ab (ft ml2)) ∧ ((i : Int) ≤ n) ∧ (∀ d, d ∈ nl2 ↔ jk now n seen d ∨ ∃ q, q < i ∧ iR now A q ∧ d = i6 A q) ∧ (∀ d, d ∈ ml2 ↔ gk now n seen d ∨ (d = A ∧ ∃ q, q < i ∧ iR now A q)) ∧ (True)) (fun (i, nl2, ml2) => n.toNat - i) ((0, nl, ml)) ⟨rfl, trivial⟩ ⟨hB, e, f, h, hmN, ho, o, r, g, l, Om, (Fq hN), (Bm hM), trivial⟩ ?_
 clear hB e f h hmN ho o g l r
 rintro ⟨i, nl2, ml2⟩ cG cH ⟨hB, e, f, h, hmN, ho, o, r, g, l, hi, hN2, hM2, _⟩ cI aC
 refine Zr <| Zv (dL rfl rfl) <| cT <| cY fun cJ bE => ZQ rfl (fun bF => ?_) fun bF => ?_
 refine c9 <| bE _ _ <| cY fun cK aD => c7 <| Zr <| Zi rfl <| Zi rfl <| cT ?_
 have h7 := zE (show i < 8 by omega)
 have hd : A.m / 2 ^ i ≤ A.m := Nat.div_le_self _ _
 refine Zd eo fun bG K => ?_
 replace hB := Ze hB K
 replace e := K.at e
 replace f := K.at f
 replace h := K.ow h
 replace hmN := K.mapT hmN
 replace ho := K.ow ho
 replace o := K.iterT o
 replace r := K.at r
 replace g := K.mapT g
 replace l := K.mapT l
 have hS := eo.refl bG
 refine Tf 0 rfl rfl eQ hS <| Tk 1 rfl (fun _ hq => dk (v := .int .u8 _) rfl ef (At.cell (hq.at r) rfl)) hS <| Tf 2 rfl rfl gr hS <| Tk 3 rfl (fun _ hq => dk (v := .int .u8 _) rfl ef (At.cell (hq.at r) rfl)) hS <| Ti 4 rfl rfl hS <| Tk 5 rfl (fun _ _ => jB (m := 1) rfl rfl Om (by simp only [IntKind.bits]; omega) (by simp only [d5, Int.toNat_natCast, Nat.one_mul]; omega)) hS <| Tk 6 rfl (fun _ _ => JN (n := _) rfl rfl rfl (by first | assumption | (simp only [d5]; omega) | (simp only [d5]; decide)) (by simp only [d5, Int.toNat_natCast, Nat.one_mul]; omega)) hS <| Tk 7 rfl (fun _ _ => mt (h0 := rfl) (k0 := rfl) (h1 := rfl) (k1 := rfl) (c0_0 := .int .u8 _) (c1_0 := .int .u8 _)) hS <| To 8 rfl (dt i4 rfl fun bH cL ap F y => ⟨.inl (hS.trans F), ?_⟩)
 have bI := ZO ap hB
 have bJ := dh.neB (b := bH) ho (Nat.le_of_eq ap.symm)
 have bK := Zn ap r.lt
 clear ap
 replace hB := Ze hB F
 replace e := F.at e
 replace f := F.at f
 replace h := F.ow h
 replace hmN := F.mapT hmN
 replace ho := F.ow ho
 replace o := F.iterT o
 replace r := F.at r
 replace g := F.mapT g
 replace l := F.mapT l
 replace hS := hS.trans F
 refine To 9 rfl (dg rfl rfl dN rfl y rfl rfl fun cM L bL => ⟨.inr (by kernel_rfl), ?_⟩)
 replace hB := Zg hB L bI
 replace e := At.grownAt e y L Dd
 replace f := At.grownAt f y L Dd
 replace h := dh.grownAt h y L Dd
 replace hmN := dR.grownAt hmN y L
 replace ho := dh.grownAtNe ho bJ L
 replace o := eJ.grownAt o y L
 replace r := At.grownNe r bK L
 replace g := dR.grownAt g y L
 replace l := dR.grownAt l y L
 replace y := bL
 refine Td <| Zr <| Zf rfl eQ <| Zl rfl ef r rfl <| Zi rfl <| Zv (sL rfl rfl Om (by simp only [IntKind.bits]; omega)) <| Zv (nE (n := 1) rfl rfl rfl (by simp only [d5, Int.toNat_natCast]; omega) (by first | assumption | (simp only [d5]; omega) | (simp only [d5]; decide))) <| Zv (eB rfl rfl) <| ZX rfl (fun ae => ?_) fun ae => ?_
 refine Zw (.map (some bn)) rfl <| Zv (db rfl dN rfl y) <| Zv (fR (enc := iC) (encV := Value.bool) (v0 := false) (k := ⟨A.m, A.v ^^^ 1 * 2 ^ ((i : Nat) : Int).toNat⟩) rfl rfl ld mF (fun a => ⟨a, rfl⟩) mn oN rfl hmN) <| Zb rfl <| cT <| ZQ rfl (fun af => ?_) fun af => ?_
 refine gx (fun a b => a.grownBy b (some E)) im (fun bM I => ?_)
 replace hB := Ze hB I
 replace e := I.at e
 replace f := I.at f
 replace h := I.ow h
 replace hmN := I.mapT hmN
 replace ho := I.ow ho
 replace o := I.iterT o
 replace r := I.at r
 replace g := I.mapT g
 replace l := I.mapT l
 replace y := I.at y
 have aU := g
 have hS := World.grownBy.refl bM (some E)
 refine Tw 0 (.map (some E)) rfl rfl hS <| Tk 1 rfl (fun _ hq => db rfl dN rfl (At.grownMap r aU hq)) hS <| Ti 2 rfl rfl hS <| Tw 4 (.map (some ab)) rfl rfl hS <| Tk 5 rfl (fun _ hq => db rfl dN rfl (At.grownMap r aU hq)) hS <| To 3 rfl (TC (vs := [.agg #[_, _], .int .i64 _]) yw (kg _ _ _ _ (by first | assumption | omega) (by first | assumption | omega)) rfl fun cN cO D bN => ⟨.inl (dD hS (eo.grown D (some E))), ?_⟩)
 replace hB := Ze hB D
 replace e := D.at e
 replace f := D.at f
 replace h := D.ow h
 replace hmN := D.mapT hmN
 replace ho := D.ow ho
 replace o := D.iterT o
 replace r := D.at r
 replace g := D.mapT g
 replace l := D.mapT l
 replace y := D.at y
 replace hS := dD hS (eo.grown D (some E))
 obtain rfl := bN
 refine To 6 rfl (Dv (enc := iC) (encV := Value.bool) (v0 := false) (k := (i6 A i)) rfl rfl ld mF (fun a => ⟨a, rfl⟩) mn oN rfl g fun cP cQ G bO => ⟨.inl (dD hS G), ?_⟩)
 replace hS := dD hS G
 replace hB := Zg hB G aK
 replace e := At.grownMap e g G
 replace f := At.grownMap f g G
 replace h := dh.grownMap h g G
 replace hmN := dR.grownNe hmN ak G
 replace ho := dh.grownMap ho g G
 replace o := eJ.grownMap o g ak G
 replace r := At.grownMap r g G
 replace l := dR.grownNe l (Ne.symm ay) G
 replace y := At.grownMap y g G
 replace g := bO
 refine Tk 7 rfl (fun _ _ => dK rfl) hS <| To 8 rfl (yH (encV := Value.bool) (v := true) rfl rfl rfl g fun cR H bP => ⟨.inl (dD hS H), ?_⟩)
 replace hS := dD hS H
 replace hB := Zg hB H aK
 replace e := At.grownMapP e g H
 replace f := At.grownMapP f g H
 replace h := dh.grownMapP h g H
 replace hmN := dR.grownNe hmN ak H
 replace ho := dh.grownMapP ho g H
 replace o := eJ.grownMapP o g ak H
 replace r := At.grownMapP r g H
 replace l := dR.grownNe l (Ne.symm ay) H
 replace y := At.grownMapP y g H
 replace g := bP
 rw [jj] at g
 refine To 9 rfl (fI (enc := iC) (encV := Value.bool) (k := A) (v := true) rfl rfl rfl ld mF (fun a => ⟨a, rfl⟩) mn l fun cS M bQ => ⟨.inr (by kernel_rfl), ?_⟩)
 replace hB := Zg hB M bf
 replace e := At.grownMap e l M
 replace f := At.grownMap f l M
 replace h := dh.grownMap h l M
 replace hmN := dR.grownNe hmN aL M
 replace ho := dh.grownMap ho l M
 replace o := eJ.grownMap o l aL M
 replace r := At.grownMap r l M
 replace g := dR.grownNe g ay M
 replace y := At.grownMap y l M
 replace l := bQ
 rw [jj] at l
 refine Td <| aD _ _ <| cZ <| Zv (dp rfl rfl Om Om) <| Zi rfl <| cT ?_
 exact aC _ _ ((i + 1, iB nl2 (i6 A i), iB ml2 A)) Za ⟨rfl, trivial⟩ ⟨hB, e, f, h, hmN, ho, o, r, g, l, Om, (Jk hN2 (yf ae af)), (CI hM2 (yf ae af)), trivial⟩ (by show n.toNat - (i + 1) < n.toNat - i; omega)
 refine c9 <| aD _ _ <| cZ <| Zv (dp rfl rfl Om Om) <| Zi rfl <| cT ?_
 exact aC _ _ ((i + 1, nl2, ml2)) Za ⟨rfl, trivial⟩ ⟨hB, e, f, h, hmN, ho, o, r, g, l, Om, (xF hN2 (xZ af)), (tO hM2 (xZ af)), trivial⟩ (by show n.toNat - (i + 1) < n.toNat - i; omega)
 refine Zs <| Zs <| Zs <| Zw (.bool false) rfl <| cT <| d4 rfl <| c9 <| aD _ _ <| cZ <| Zv (dp rfl rfl Om Om) <| Zi rfl <| cT ?_
 exact aC _ _ ((i + 1, nl2, ml2)) Za ⟨rfl, trivial⟩ ⟨hB, e, f, h, hmN, ho, o, r, g, l, Om, (xF hN2 (x9 ae)), (tO hM2 (x9 ae)), trivial⟩ (by show n.toNat - (i + 1) < n.toNat - i; omega)
 refine dr ?_
 refine bi _ _ ((A :: seen, nl2, ml2)) ?_ ?_ ?_ ?_
 · repeat (first | exact fz.mask _ _ _ | refine fz.updo ?_ rfl _ | refine fz.updL ?_ _ rfl | refine fz.maskS rfl ?_)
 · exact trivial
 · exact ⟨hB, e, f, h, hmN, ho, o, g, l, (Hn hN2 (by omega)), (Da hM2 (by omega)), trivial⟩
 · have hle := eJ.len_le o; show (ft now).length - (A :: seen).length < (ft now).length - seen.length; simp only [List.length_cons] at hle ⊢; omega
 refine dr <| bb _ _ <| Zr <| Zw v0 rfl <| Zw v0 rfl <| Zw (.int .i64 0) rfl <| cT <| Zt <| dZ (v := v0) rfl (v1 := .int .i64 0) rfl ⟨hB, ?_⟩
 obtain rfl : now = [] := C5 aw
 rw [if_pos hof]
 exact ⟨_, rfl, by rw [← LU ht hLv hOut hRis]; exact ho⟩
end
section
open Go Go.RowKit
theorem Ol29_0 {p : Prop} (h : p := by first | omega | (simp only [cV, cW, cX, da, de]; omega)) : p := h
theorem fK : fx Tryz.prog 42 1 = some 2 := by kernel_rfl
theorem G2 : dC Tryz.prog 30 = true := by kernel_rfl
theorem gF : fx Tryz.prog 42 0 = some 0 := by kernel_rfl
theorem fQ : fx Tryz.prog 24 0 = some 0 := by kernel_rfl
theorem fF : fx Tryz.prog 24 1 = some 1 := by kernel_rfl
theorem eE : fp Tryz.prog 22 = true := by kernel_rfl
theorem ea : fO Tryz.prog 22 = some (49, 4, 32) := by kernel_rfl
theorem fU : fx Tryz.prog 24 2 = some 2 := by kernel_rfl
theorem eV : kY Tryz.prog 24 = some 3 := by kernel_rfl
theorem q5 : dC Tryz.prog 18 = true := by kernel_rfl
theorem CC : dC Tryz.prog 36 = true := by kernel_rfl
theorem eA : kY Tryz.prog 42 = some 3 := by kernel_rfl
theorem OA : dC Tryz.prog 26 = true := by kernel_rfl
theorem dT : fO Tryz.prog 29 = some (42, 3, 3) := by kernel_rfl
theorem kP : eL Tryz.prog 42 = some (.agg #[.int .u8 0, .int .u8 0, .int .u8 0]) := by kernel_rfl
theorem iu : (eL Tryz.prog 42).map (fun z => z.cells.size) = some 3 := by kernel_rfl
theorem NE : dC Tryz.prog 38 = true := by kernel_rfl
theorem tt : dC Tryz.prog 34 = true := by kernel_rfl
theorem MZ : dC Tryz.prog 35 = true := by kernel_rfl
theorem xx : (Tryz.prog.info? 40).map (·.size) = some 2 := by kernel_rfl
theorem kb {f : Nat → Value} {w : World} {d : Option Nat} {ty : TypeId} {ps : String} {af : Array Edge} {g : Option (Nat × Bool)} {x0 x1 : Operand} {c0_0 c0_1 c1_0 : Value} (h0 : dO f x0 = .agg #[c0_0, c0_1]) (h1 : dO f x1 = c1_0) (k1 : c1_0.cells = #[c1_0]) :
    (execOp (dO f) ⟨d, .build 42 #[(0, x0), (1, x1)], ty, ps, af, g⟩).run Tryz.prog w = .ok (.value (.agg #[c0_0, c0_1, c1_0])) w := by
  obtain ⟨i0, hi0, hz0⟩ := Option.bind_eq_some_iff.1 (show (Tryz.prog.info? 42).bind (·.zero) = _ from kP)
  obtain ⟨j5, hj5, hs5⟩ := Option.map_eq_some_iff.1 rJ
  obtain ⟨j40, hj40, hs40⟩ := Option.map_eq_some_iff.1 xx
  simp [execOp, h0, h1, k1, Instr.build, zeroValue, typeInfo, sizeOf, hi0, hz0, run_underlying Tryz.underlying42, Instr.fill, eW, hj5, hs5, hj40, hs40]
theorem M1 : dC Tryz.prog 37 = true := by kernel_rfl
theorem C8 : dC Tryz.prog 88 = true := by kernel_rfl
theorem AA {f : Nat → Value} {w : World} {d : Option Nat} {ty : TypeId} {ps : String} {af : Array Edge} {g : Option (Nat × Bool)}    :
    (execOp (dO f) ⟨d, .build 42 #[], ty, ps, af, g⟩).run Tryz.prog w = .ok (.value (.agg #[.int .u8 0, .int .u8 0, .int .u8 0])) w := by
  obtain ⟨i0, hi0, hz0⟩ := Option.bind_eq_some_iff.1 (show (Tryz.prog.info? 42).bind (·.zero) = _ from kP)
  obtain ⟨j5, hj5, hs5⟩ := Option.map_eq_some_iff.1 rJ
  obtain ⟨j40, hj40, hs40⟩ := Option.map_eq_some_iff.1 xx
  simp [execOp, Instr.build, zeroValue, typeInfo, sizeOf, hi0, hz0, run_underlying Tryz.underlying42, Instr.fill, eW, hj5, hs5, hj40, hs40]
theorem lr (o i : Nat) (w : World) (ho : o < 256) (hi : i < 8) :
    Fn Tryz.prog 30 #[.int .u8 (o : Int), .int .i64 (i : Int)] w fun v w' => v = .bool (o.testBit i) := by
 refine dq (n := 10) Tryz.func30 rfl rfl (Nat.le_of_ble_eq_true rfl) ?_
 have hB : Below w.heap.size w w := Below.refl _ _
 refine Zr <| Zw (.bool false) rfl <| cT <| Zr <| Zi rfl <| Zv (jt rfl Tryz.underlying5 Tryz.underlying3 (by first | assumption | (simp only [d5]; omega) | (simp only [d5]; decide))) <| Zi rfl <| ZC Im (lf _ _ _ (by first | assumption | omega) (by first | assumption | omega)) rfl fun c W5 a b => ?_
 replace hB := Ze hB a
 obtain rfl := b
 refine Zv (eB rfl rfl) <| Zb rfl <| cT <| Zt <| dE (v := .bool _) rfl ⟨hB, ?_⟩
 exact congrArg Value.bool G9
theorem po (m u o outs : Nat) (n : Int) (w : World) (hm : m < 256) (hv : u < 256) (ho : o < 256) :
    Fn Tryz.prog 26 #[.agg #[.int .u8 (m : Int), .int .u8 (u : Int), .int .u8 (o : Int)], .int .i64 n, .int .i64 (outs : Int)] w fun v w' => v = .bool (Pa o outs && dY m u n) := by
 refine dq (n := 27) Tryz.func26 rfl rfl (Nat.le_of_ble_eq_true rfl) ?_
 have hB : Below w.heap.size w w := Below.refl _ _
 refine Zr <| Zy (dU (c := #[_, _, _]) rfl rfl fun p W3 e q a => ?_)
 have B := ZO e hB
 clear e
 replace hB := Ze hB q
 refine Zw (.bool false) rfl <| cT <| Zr <| Zw (.bool false) rfl <| cT <| cY fun K8 r => Zr <| Zw (.int .i64 0) rfl <| cT <| c7 ?_
 refine dw (σ := (Nat)) [6, 7, 8, 9, 10, 11, 12, 13, 14, 15, 16, 17, 18, 19] (fun k => [(8, .int .i64 (k : Int)), (7, .bool (mA o k))]) (fun k W => (Below w.heap.size w W) ∧ (At W p _ 42) ∧ (k ≤ 8) ∧ (∀ j, j < k → o.testBit j = true → j < outs) ∧ (True)) (fun k => 8 - k) (0) ⟨rfl, rfl, trivial⟩ ⟨hB, a, Om, ff, trivial⟩ ?_
 clear hB a
 rintro k C D ⟨hB, a, hk, hq, _⟩ E f
 refine cY fun F s => Zr <| Zi rfl <| Zv (dL rfl rfl) <| cT <| ZQ rfl (fun t => ?_) fun t => ?_
 refine c9 <| s _ _ <| cY fun G g => c7 <| Zr <| Zf rfl fK <| Zl rfl ef a rfl <| Zi rfl <| ZC G2 (lr _ _ _ (by first | assumption | omega) (by first | assumption | omega)) rfl fun H I i x => ?_
 replace hB := Ze hB i
 replace a := i.at a
 obtain rfl := x
 refine cT <| ZQ rfl (fun b => ?_) fun b => ?_
 refine cY fun J y => Zr <| Zi rfl <| Zi rfl <| Zv (nJ rfl rfl) <| cT <| ZQ rfl (fun z => ?_) fun z => ?_
 refine Zr <| Zw (.bool false) rfl <| cT <| Zt <| dE (v := .bool false) rfl ⟨hB, ?_⟩
 rw [Nb b (by omega), Bool.false_and]
 refine c9 <| y _ _ <| cZ <| Zw (.bool true) rfl <| cT <| g _ _ <| cZ <| Zi rfl <| Zv (dp rfl rfl Om Om) <| Zi rfl <| cT ?_
 exact f _ _ (k + 1) Za ⟨rfl, (by first | exact congrArg Value.bool (IB b) | exact congrArg Value.bool (Ha b)), trivial⟩ ⟨hB, a, Om, (ey hq (fun _ => by omega)), trivial⟩ Zo
 refine c9 <| g _ _ <| cZ <| Zi rfl <| Zv (dp rfl rfl Om Om) <| Zi rfl <| cT ?_
 exact f _ _ (k + 1) Za ⟨rfl, (by first | exact congrArg Value.bool (IB b) | exact congrArg Value.bool (Ha b)), trivial⟩ ⟨hB, a, Om, (ey hq (fun h => by rw [h] at b; cases b)), trivial⟩ Zo
 refine dr <| r _ _ <| Zr <| Zb rfl <| ZX rfl (fun d => ?_) fun d => ?_
 refine Zf rfl gF <| Zv (ig rfl dN (At.cell a rfl) (At.cell a rfl)) <| Zi rfl <| ZC (vs := [.agg #[_, _], .int .i64 _]) Oz (oB _ _ _ _ (by first | assumption | omega) (by first | assumption | omega)) rfl fun K L l A => ?_
 replace hB := Ze hB l
 replace a := l.at a
 obtain rfl := A
 refine Zb rfl <| Zb rfl <| cT <| Zt <| dE (v := .bool _) rfl ⟨hB, ?_⟩
 obtain rfl : k = 8 := by omega
 rw [Fd ho hq, d, Bool.true_and]
 refine Zs <| Zs <| Zs <| Zs <| Zw (.bool false) rfl <| Zw (.bool false) rfl <| cT <| Zt <| dE (v := .bool false) rfl ⟨hB, ?_⟩
 obtain rfl : k = 8 := by omega
 rw [Fd ho hq, d, Bool.false_and]
theorem ka (S : Sp) (onV mayV : Value) (w : World) (hon : dM gp 4 w onV S.on) (hmay : dM gp 4 w mayV S.may) :
    Fn Tryz.prog 10 #[.agg #[.int .i64 S.n, onV, mayV]] w fun v w' => v = .bool (dP S) := by
 refine dq (n := 65) Tryz.func10 rfl rfl (Nat.le_of_ble_eq_true rfl) ?_
 have hB : Below w.heap.size w w := Below.refl _ _
 refine Zr <| Zy (dU (c := #[_, _, _]) rfl rfl fun r W3 m s a => ?_)
 have M := ZO m hB
 clear m
 replace hB := Ze hB s
 refine Zw (.bool false) rfl <| cT <| cY fun K6 t => Zr <| Zf rfl fQ <| Zl rfl dB a rfl <| Zv (dL rfl rfl) <| ZX rfl (fun u => ?_) fun u => ?_
 refine Zs <| Zs <| Zs <| Zw (.bool true) rfl <| Zw (.bool true) rfl <| Zs <| Zs <| Zs <| Zs <| Zw (.bool true) rfl <| Zw (.bool true) rfl <| Zs <| Zs <| Zs ?_
 refine Zs <| Zw (.bool true) rfl <| Zw (.bool true) rfl <| Zs <| Zs <| Zs <| Zs <| Zs <| Zs <| Zs <| Zw (.bool true) rfl <| cT <| dz rfl <| Zr ?_
 refine Zw (.bool false) rfl <| cT <| Zt <| dE (v := .bool false) rfl ⟨hB, ?_⟩
 exact lX Om
 refine Zf rfl fQ <| Zl rfl dB a rfl <| Zv (iQ rfl rfl) <| Zb rfl <| ZX rfl (fun x => ?_) fun x => ?_
 refine Zs <| Zs <| Zs <| Zs <| Zw (.bool true) rfl <| Zw (.bool true) rfl <| Zs <| Zs <| Zs <| Zs <| Zw (.bool true) rfl <| Zw (.bool true) rfl <| Zs <| Zs ?_
 refine Zs <| Zs <| Zs <| Zs <| Zs <| Zw (.bool true) rfl <| cT <| dz rfl <| Zr <| Zw (.bool false) rfl <| cT <| Zt <| dE (v := .bool false) rfl ⟨hB, ?_⟩
 exact lX Om
 refine Zf rfl fF <| ZL onV rfl eE a rfl <| Zv (dA (v := onV) rfl (Below.slT hB hon) ea) <| Zv (dL rfl rfl) <| Zb rfl <| ZX rfl (fun y => ?_) fun y => ?_
 refine Zs <| Zs <| Zs <| Zs <| Zw (.bool true) rfl <| Zw (.bool true) rfl <| Zs <| Zs <| Zs <| Zs <| Zs <| Zs <| Zs <| Zw (.bool true) rfl ?_
 refine cT <| dz rfl <| Zr <| Zw (.bool false) rfl <| cT <| Zt <| dE (v := .bool false) rfl ⟨hB, ?_⟩
 exact lX Om
 refine Zf rfl fF <| ZL onV rfl eE a rfl <| Zv (dA (v := onV) rfl (Below.slT hB hon) ea) <| Zv (iQ rfl rfl) <| Zb rfl <| ZX rfl (fun z => ?_) fun z => ?_
 refine Zs <| Zs <| Zs <| Zs <| Zs <| Zs <| Zs <| Zw (.bool true) rfl <| cT <| dz rfl <| Zr <| Zw (.bool false) rfl <| cT <| Zt ?_
 refine dE (v := .bool false) rfl ⟨hB, ?_⟩
 exact lX Om
 refine Zf rfl fU <| ZL mayV rfl eE a rfl <| Zv (dA (v := mayV) rfl (Below.slT hB hmay) ea) <| Zf rfl fF <| ZL onV rfl eE a rfl <| Zv (dA (v := onV) rfl (Below.slT hB hon) ea) <| Zv (f7 rfl rfl) <| Zb rfl <| cT <| ZQ rfl (fun A => ?_) fun A => ?_
 refine Zr <| Zw (.bool false) rfl <| cT <| Zt <| dE (v := .bool false) rfl ⟨hB, ?_⟩
 exact lX Om
 refine c9 <| t _ _ <| cY fun N B => Zr <| Zw (.int .i64 0) rfl <| cT <| c7 ?_
 refine dw (σ := (Nat)) [2, 3, 33, 34, 35, 36, 37, 38, 39, 40, 41, 42, 43, 44, 45, 46, 47, 48, 49, 50, 51, 52, 53, 54, 55, 56, 57, 58, 59, 60, 61, 62, 63, 64] (fun k => [(3, .int .i64 (k : Int))]) (fun k W => (Below w.heap.size w W) ∧ (At W r _ 24) ∧ (k ≤ S.on.length) ∧ (∀ q, q < k → ep (zQ S q) (jf S q) = true ∧ ep (jf S q) (fj S.n.toNat) = true) ∧ (True)) (fun k => S.on.length - k) (0) ⟨rfl, trivial⟩ ⟨hB, a, (Nat.zero_le _), ff, trivial⟩ ?_
 clear hB a
 rintro k O P ⟨hB, a, hk, hq, _⟩ Q C
 refine cY fun R D => Zr <| Zi rfl <| Zf rfl fF <| ZL onV rfl eE a rfl <| Zv (dA (v := onV) rfl (Below.slT hB hon) ea) <| Zv (dL rfl rfl) <| cT <| ZQ rfl (fun E => ?_) fun E => ?_
 refine c9 <| D _ _ <| cY fun T F => c7 ?_
 have h0 : 0 ≤ S.n := by omega
 have h8 : S.n ≤ 8 := by omega
 refine Zd eo fun G o => ?_
 replace hB := Ze hB o
 replace a := o.at a
 have hS := eo.refl G
 refine Tf 0 rfl rfl fF hS <| Tk 1 rfl (fun _ hq => dk (v := onV) rfl eE (At.cell (hq.at a) rfl)) hS <| Ti 2 rfl rfl hS <| Tk 3 rfl (fun _ hq => dJ (v := onV) rfl (hq.slT (Below.slT hB hon)) rfl ea Om Ol29_0) hS <| Tk 4 rfl (fun _ hq => fq rfl df (dM.cell (hq.slT (Below.slT hB hon)) dG 0 Om Ol29_0 0 rfl) (dM.cell (hq.slT (Below.slT hB hon)) dG 0 Om Ol29_0 1 rfl) (dM.cell (hq.slT (Below.slT hB hon)) dG 0 Om Ol29_0 2 rfl) (dM.cell (hq.slT (Below.slT hB hon)) dG 0 Om Ol29_0 3 rfl)) hS <| Tf 5 rfl rfl fU hS <| Tk 6 rfl (fun _ hq => dk (v := mayV) rfl eE (At.cell (hq.at a) rfl)) hS <| Ti 7 rfl rfl hS <| Tk 8 rfl (fun _ hq => dJ (v := mayV) rfl (hq.slT (Below.slT hB hmay)) rfl ea Om Ol29_0) hS <| Tk 9 rfl (fun _ hq => fq rfl df (dM.cell (hq.slT (Below.slT hB hmay)) dG 0 Om Ol29_0 0 rfl) (dM.cell (hq.slT (Below.slT hB hmay)) dG 0 Om Ol29_0 1 rfl) (dM.cell (hq.slT (Below.slT hB hmay)) dG 0 Om Ol29_0 2 rfl) (dM.cell (hq.slT (Below.slT hB hmay)) dG 0 Om Ol29_0 3 rfl)) hS <| To 10 rfl (TC (vs := [.agg #[_, _, _, _], .agg #[_, _, _, _]]) HY (jZ _ _ _) rfl fun U V g H => ⟨.inl (hS.trans g), ?_⟩)
 have d := hB
 have p := a
 replace hB := Ze hB g
 replace a := g.at a
 replace hS := hS.trans g
 obtain rfl := H
 refine Tk 11 rfl (fun _ _ => fy rfl) hS <| Tx 12 rfl (fun _ _ => kN (v := .bool _) rfl) hS (fun j => ?_) fun j => ?_
 refine Tp 13 rfl hS <| Tp 14 rfl hS <| Tp 15 rfl hS <| Tp 16 rfl hS <| Tp 17 rfl hS <| Tp 18 rfl hS <| Tp 19 rfl hS <| Tp 20 rfl hS <| Tp 21 rfl hS <| Tp 22 rfl hS <| Tp 23 rfl hS <| Tw 24 (.bool true) rfl rfl hS <| Td <| dz rfl ?_
 refine Zr <| Zw (.bool false) rfl <| cT <| Zt <| dE (v := .bool false) rfl ⟨hB, ?_⟩
 exact uo (k := k) Om (fun h => Bool.noConfusion (h.1.symm.trans (jc j)))
 refine Tf 13 rfl rfl fU hS <| Tk 14 rfl (fun _ hq => dk (v := mayV) rfl eE (At.cell (hq.at p) rfl)) hS <| Ti 15 rfl rfl hS <| Tk 16 rfl (fun _ hq => dJ (v := mayV) rfl (hq.slT (Below.slT d hmay)) rfl ea Om Ol29_0) hS <| Tk 17 rfl (fun _ hq => fq rfl df (dM.cell (hq.slT (Below.slT d hmay)) dG 0 Om Ol29_0 0 rfl) (dM.cell (hq.slT (Below.slT d hmay)) dG 0 Om Ol29_0 1 rfl) (dM.cell (hq.slT (Below.slT d hmay)) dG 0 Om Ol29_0 2 rfl) (dM.cell (hq.slT (Below.slT d hmay)) dG 0 Om Ol29_0 3 rfl)) hS <| Tf 18 rfl rfl fQ hS <| Tk 19 rfl (fun _ hq => dk (v := .int .i64 _) rfl dB (At.cell (hq.at p) rfl)) hS <| To 20 rfl (TC HF (lB _ _ (by first | assumption | omega) (by first | assumption | omega)) rfl fun I X i b => ⟨.inl (hS.trans i), ?_⟩)
 have J := (Below.size hB)
 replace hB := Ze hB i
 replace a := i.at a
 replace hS := hS.trans i
 replace b := dh.mono b J
 refine To 21 rfl (TC (vs := [I]) HG (lg _ _ _ b.sl (cX _)) rfl fun Y Z e K => ⟨.inl (hS.trans e), ?_⟩)
 replace hB := Ze hB e
 replace a := e.at a
 replace b := e.ow b
 replace hS := hS.trans e
 obtain rfl := K
 refine To 22 rfl (TC (vs := [.agg #[_, _, _, _], .agg #[_, _, _, _]]) HY (jZ _ _ _) rfl fun aa ab f L => ⟨.inl (hS.trans f), ?_⟩)
 replace hB := Ze hB f
 replace a := f.at a
 replace b := f.ow b
 replace hS := hS.trans f
 obtain rfl := L
 refine Tk 23 rfl (fun _ _ => fy rfl) hS <| Ty 24 rfl rfl hS <| Td <| ZQ rfl (fun l => ?_) fun l => ?_
 refine Zr <| Zw (.bool false) rfl <| cT <| Zt <| dE (v := .bool false) rfl ⟨hB, ?_⟩
 exact uo (k := k) Om (fun h => Bool.noConfusion (h.2.symm.trans ((tV h8).symm.trans (jc l))))
 refine c9 <| F _ _ <| cZ <| Zi rfl <| Zv (dp rfl rfl Om Om) <| Zi rfl <| cT ?_
 exact C _ _ (k + 1) Za ⟨rfl, trivial⟩ ⟨hB, a, Om, (ey hq ⟨ie j, by rw [← tV h8]; exact ie l⟩), trivial⟩ Zo
 refine dr <| B _ _ <| Zr <| Zw (.bool true) rfl <| cT <| Zt <| dE (v := .bool true) rfl ⟨hB, ?_⟩
 obtain rfl : k = S.on.length := by omega
 exact D1 Om hq
theorem iN (S : Sp) (onV mayV : Value) (w : World) (hon : dM gp 4 w onV S.on) (hmay : dM gp 4 w mayV S.may) :
    Fn Tryz.prog 18 #[.agg #[.int .i64 S.n, onV, mayV]] w fun v w' => v = .bool (dP S) := by
 refine dq (n := 63) Tryz.func18 rfl rfl (Nat.le_of_ble_eq_true rfl) ?_
 have hB : Below w.heap.size w w := Below.refl _ _
 refine Zr <| Zy (dU (c := #[_, _, _]) rfl rfl fun A W3 s B a => ?_)
 have ab := ZO s hB
 clear s
 replace hB := Ze hB B
 refine Zw (.bool false) rfl <| cT <| Zr <| Zf rfl fQ <| Zl rfl dB a rfl <| ZC wF (nR _ _) rfl fun ac W8 t C => ?_
 replace hB := Ze hB t
 replace a := t.at a
 obtain ⟨sa, er, rfl, hhP1_2⟩ := qi C
 refine Zw (.tuple #[.agg #[_, _, _, _], .int .i64 _]) rfl <| Zv (dI rfl) <| Zv (dK rfl) <| Zy (dt eM rfl fun u D x y b => ?_)
 have E := ZO x hB
 clear x
 replace hB := Ze hB y
 replace a := y.at a
 replace b : At D u #[wv 0 0, wv 0 1, wv 0 2, wv 0 3] 49 := b
 refine Zy (dg rfl rfl df rfl b rfl rfl fun ad z F => ?_)
 replace hB := Zg hB z E
 replace a := At.grownAt a b z Dd
 replace b := F
 refine Zi rfl <| cT <| cY fun ae G => Zr <| Zi rfl <| Zv (f7 rfl rfl) <| ZX rfl (fun j => ?_) fun j => ?_
 refine Zs <| Zs <| Zs <| Zs <| Zw (.bool true) rfl <| Zw (.bool true) rfl <| Zs <| Zs <| Zs <| Zs <| Zw (.bool true) rfl <| Zw (.bool true) rfl <| Zs <| Zs ?_
 refine Zs <| Zs <| Zs <| Zs <| Zs <| Zw (.bool true) rfl <| cT <| dz rfl <| Zr <| Zw (.bool false) rfl <| cT <| Zt <| dE (v := .bool false) rfl ⟨hB, ?_⟩
 exact lX (fun h => OE hhP1_2 j ⟨h.1, h.2.1⟩)
 refine Zf rfl fF <| ZL onV rfl eE a rfl <| Zv (dA (v := onV) rfl (Below.slT hB hon) ea) <| Zv (dL rfl rfl) <| Zb rfl <| ZX rfl (fun H => ?_) fun H => ?_
 refine Zs <| Zs <| Zs <| Zs <| Zw (.bool true) rfl <| Zw (.bool true) rfl <| Zs <| Zs <| Zs <| Zs <| Zs <| Zs <| Zs <| Zw (.bool true) rfl ?_
 refine cT <| dz rfl <| Zr <| Zw (.bool false) rfl <| cT <| Zt <| dE (v := .bool false) rfl ⟨hB, ?_⟩
 exact lX Om
 refine Zf rfl fF <| ZL onV rfl eE a rfl <| Zv (dA (v := onV) rfl (Below.slT hB hon) ea) <| Zv (iQ rfl rfl) <| Zb rfl <| ZX rfl (fun I => ?_) fun I => ?_
 refine Zs <| Zs <| Zs <| Zs <| Zs <| Zs <| Zs <| Zw (.bool true) rfl <| cT <| dz rfl <| Zr <| Zw (.bool false) rfl <| cT <| Zt ?_
 refine dE (v := .bool false) rfl ⟨hB, ?_⟩
 exact lX Om
 refine Zf rfl fF <| ZL onV rfl eE a rfl <| Zv (dA (v := onV) rfl (Below.slT hB hon) ea) <| Zf rfl fU <| ZL mayV rfl eE a rfl <| Zv (dA (v := mayV) rfl (Below.slT hB hmay) ea) <| Zv (f7 rfl rfl) <| Zb rfl <| cT <| ZQ rfl (fun J => ?_) fun J => ?_
 refine Zr <| Zw (.bool false) rfl <| cT <| Zt <| dE (v := .bool false) rfl ⟨hB, ?_⟩
 exact lX Om
 refine c9 <| G _ _ <| cY fun af K => ?_
 obtain ⟨h0, h8, rfl⟩ := u7 hhP1_2 j
 refine Zr <| Zf rfl fF <| ZL onV rfl eE a rfl <| Zv (dA (v := onV) rfl (Below.slT hB hon) ea) <| Zw (.int .i64 0) rfl <| cT <| c7 ?_
 refine dw (σ := (Nat)) [2, 5, 6, 39, 40, 41, 42, 43, 44, 45, 46, 47, 48, 49, 50, 51, 52, 53, 54, 55, 56, 57, 58, 59, 60, 61, 62] (fun k => [(39, .int .i64 (k : Int))]) (fun k W => (Below w.heap.size w W) ∧ (At W A _ 24) ∧ (At W u _ 49) ∧ (k ≤ S.on.length) ∧ (∀ q, q < k → ep (zQ S q) (jf S q) = true ∧ ep (jf S q) (fj S.n.toNat) = true) ∧ (True)) (fun k => S.on.length - k) (0) ⟨rfl, trivial⟩ ⟨hB, a, b, (Nat.zero_le _), ff, trivial⟩ ?_
 clear hB a b
 rintro k ag ah ⟨hB, a, b, hk, hq, _⟩ ai L
 refine Zr <| Zv (dL rfl rfl) <| cT <| cY fun aj M => ZQ rfl (fun N => ?_) fun N => ?_
 refine c9 <| M _ _ <| cY fun ak O => c7 <| Zr <| Zi rfl <| Zv (dJ (v := onV) rfl (Below.slT hB hon) rfl ea Om Ol29_0) <| Zv (fq rfl df (dM.cell (Below.slT hB hon) dG 0 Om Ol29_0 0 rfl) (dM.cell (Below.slT hB hon) dG 0 Om Ol29_0 1 rfl) (dM.cell (Below.slT hB hon) dG 0 Om Ol29_0 2 rfl) (dM.cell (Below.slT hB hon) dG 0 Om Ol29_0 3 rfl)) <| Zy (dt eM rfl fun P Q l m d => ?_)
 have R := ZO l hB
 have T := Zn l b.lt
 clear l
 replace hB := Ze hB m
 replace a := m.at a
 replace b := m.at b
 replace d : At Q P #[wv 0 0, wv 0 1, wv 0 2, wv 0 3] 49 := d
 refine Zi rfl <| Zy (dg rfl rfl df rfl d rfl rfl fun al o U => ?_)
 replace hB := Zg hB o R
 replace a := At.grownAt a d o Dd
 replace b := At.grownNe b T o
 replace d := U
 refine cT <| Zd eo fun V i => ?_
 replace hB := Ze hB i
 replace a := i.at a
 replace b := i.at b
 replace d := i.at d
 have hS := eo.refl V
 refine Tk 0 rfl (fun _ hq => db rfl df rfl (hq.at d)) hS <| Tf 1 rfl rfl fU hS <| Tk 2 rfl (fun _ hq => dk (v := mayV) rfl eE (At.cell (hq.at a) rfl)) hS <| Ti 3 rfl rfl hS <| Tk 4 rfl (fun _ hq => dJ (v := mayV) rfl (hq.slT (Below.slT hB hmay)) rfl ea Om Ol29_0) hS <| Tk 5 rfl (fun _ hq => fq rfl df (dM.cell (hq.slT (Below.slT hB hmay)) dG 0 Om Ol29_0 0 rfl) (dM.cell (hq.slT (Below.slT hB hmay)) dG 0 Om Ol29_0 1 rfl) (dM.cell (hq.slT (Below.slT hB hmay)) dG 0 Om Ol29_0 2 rfl) (dM.cell (hq.slT (Below.slT hB hmay)) dG 0 Om Ol29_0 3 rfl)) hS <| To 6 rfl (TC (vs := [.agg #[_, _, _, _], .agg #[_, _, _, _]]) pL (ij _ _ _) rfl fun ao ap e X => ⟨.inl (hS.trans e), ?_⟩)
 have g := hB
 have Y := a
 have Z := b
 replace hB := Ze hB e
 replace a := e.at a
 replace b := e.at b
 replace d := e.at d
 replace hS := hS.trans e
 obtain rfl := X
 refine Tk 7 rfl (fun _ _ => fy rfl) hS <| Tx 8 rfl (fun _ _ => kN (v := .bool _) rfl) hS (fun p => ?_) fun p => ?_
 refine Tp 9 rfl hS <| Tp 10 rfl hS <| Tp 11 rfl hS <| Tp 12 rfl hS <| Tp 13 rfl hS <| Tp 14 rfl hS <| Tp 15 rfl hS <| Tp 16 rfl hS <| Tw 17 (.bool true) rfl rfl hS <| Td <| dz rfl <| Zr <| Zw (.bool false) rfl <| cT ?_
 refine Zt <| dE (v := .bool false) rfl ⟨hB, ?_⟩
 exact uo (k := k) Om (fun h => Bool.noConfusion (h.1.symm.trans (jc p)))
 refine Tf 9 rfl rfl fU hS <| Tk 10 rfl (fun _ hq => dk (v := mayV) rfl eE (At.cell (hq.at Y) rfl)) hS <| Ti 11 rfl rfl hS <| Tk 12 rfl (fun _ hq => dJ (v := mayV) rfl (hq.slT (Below.slT g hmay)) rfl ea Om Ol29_0) hS <| Tk 13 rfl (fun _ hq => fq rfl df (dM.cell (hq.slT (Below.slT g hmay)) dG 0 Om Ol29_0 0 rfl) (dM.cell (hq.slT (Below.slT g hmay)) dG 0 Om Ol29_0 1 rfl) (dM.cell (hq.slT (Below.slT g hmay)) dG 0 Om Ol29_0 2 rfl) (dM.cell (hq.slT (Below.slT g hmay)) dG 0 Om Ol29_0 3 rfl)) hS <| Tk 14 rfl (fun _ hq => db rfl df rfl (hq.at Z)) hS <| To 15 rfl (TC (vs := [.agg #[_, _, _, _], .agg #[_, _, _, _]]) pL (ij _ _ _) rfl fun aq ar f aa => ⟨.inl (hS.trans f), ?_⟩)
 replace hB := Ze hB f
 replace a := f.at a
 replace b := f.at b
 replace d := f.at d
 replace hS := hS.trans f
 obtain rfl := aa
 refine Tk 16 rfl (fun _ _ => fy rfl) hS <| Ty 17 rfl rfl hS <| Td <| ZQ rfl (fun r => ?_) fun r => ?_
 refine Zr <| Zw (.bool false) rfl <| cT <| Zt <| dE (v := .bool false) rfl ⟨hB, ?_⟩
 exact uo (k := k) Om (fun h => Bool.noConfusion (h.2.symm.trans (jc r)))
 refine c9 <| O _ _ <| cZ <| Zv (dp rfl rfl Om Om) <| Zi rfl <| cT ?_
 exact L _ _ (k + 1) Za ⟨rfl, trivial⟩ ⟨hB, a, b, Om, (ey hq ⟨ie p, ie r⟩), trivial⟩ Zo
 refine dr <| K _ _ <| Zr <| Zw (.bool true) rfl <| cT <| Zt <| dE (v := .bool true) rfl ⟨hB, ?_⟩
 obtain rfl : k = S.on.length := by omega
 exact D1 Om hq
theorem oI (S : Sp) (onV mayV : Value) (c : Cb) (w : World) (hon : dM gp 4 w onV S.on) (hmay : dM gp 4 w mayV S.may) (hc : c.m < 256 ∧ c.v < 256) (hl : S.may.length ≤ 7) :
    Fn Tryz.prog 36 #[.agg #[.int .i64 S.n, onV, mayV], .agg #[.int .u8 (c.m : Int), .int .u8 (c.v : Int)]] w fun v w' => v = .int .u8 ((kB S c : Nat) : Int) := by
 refine dq (n := 27) Tryz.func36 rfl rfl (Nat.le_of_ble_eq_true rfl) ?_
 have hB : Below w.heap.size w w := Below.refl _ _
 refine Zr <| Zy (dU (c := #[_, _, _]) rfl rfl fun s W3 i t a => ?_)
 have F := ZO i hB
 clear i
 replace hB := Ze hB t
 refine Zy (dU (c := #[_, _]) rfl rfl fun u W6 j l b => ?_)
 have G := ZO j hB
 clear j
 replace hB := Ze hB l
 replace a := l.at a
 refine Zw (.int .u8 0) rfl <| cT <| Zr <| Zw (.int .u8 0) rfl <| cT <| cY fun H x => Zr <| Zf rfl fU <| ZL mayV rfl eE a rfl <| Zv (dA (v := mayV) rfl (Below.slT hB hmay) ea) <| Zw (.int .i64 0) rfl <| cT <| c7 ?_
 refine dw (σ := (Nat)) [5, 6, 7, 11, 12, 13, 14, 15, 16, 17, 18, 19, 20, 21, 22, 23, 24, 25] (fun k => [(11, .int .i64 (k : Int)), (5, .int .u8 ((kW S c k : Nat) : Int))]) (fun k W => (Below w.heap.size w W) ∧ (At W s _ 24) ∧ (At W u _ 40) ∧ (k ≤ S.may.length) ∧ (True)) (fun k => S.may.length - k) (0) ⟨rfl, rfl, trivial⟩ ⟨hB, a, b, (Nat.zero_le _), trivial⟩ ?_
 clear hB a b
 rintro k I J ⟨hB, a, b, hk, _⟩ K o
 refine Zr <| Zv (dL rfl rfl) <| cT <| cY fun L y => ZQ rfl (fun z => ?_) fun z => ?_
 refine c9 <| y _ _ <| cY fun M p => c7 <| Zr <| Zi rfl <| Zv (dJ (v := mayV) rfl (Below.slT hB hmay) rfl ea Om Ol29_0) <| Zv (fq rfl df (dM.cell (Below.slT hB hmay) dG 0 Om Ol29_0 0 rfl) (dM.cell (Below.slT hB hmay) dG 0 Om Ol29_0 1 rfl) (dM.cell (Below.slT hB hmay) dG 0 Om Ol29_0 2 rfl) (dM.cell (Below.slT hB hmay) dG 0 Om Ol29_0 3 rfl)) <| Zy (dt eM rfl fun A B r g d => ?_)
 have C := ZO r hB
 clear r
 replace hB := Ze hB g
 replace a := g.at a
 replace b := g.at b
 replace d : At B A #[wv 0 0, wv 0 1, wv 0 2, wv 0 3] 49 := d
 refine Zi rfl <| Zy (dg rfl rfl df rfl d rfl rfl fun N h D => ?_)
 replace hB := Zg hB h C
 replace a := At.grownAt a d h Dd
 replace b := At.grownAt b d h Dd
 replace d := D
 refine cT <| Zr <| Zv (db rfl dN rfl b) <| Zv (db rfl df rfl d) <| Zf rfl fQ <| Zl rfl dB a rfl <| ZC (vs := [.agg #[_, _], .agg #[_, _, _, _], .int .i64 _]) CE (mi c.m c.v _ _ _ hc.1 hc.2) rfl fun O P f E => ?_
 replace hB := Ze hB f
 replace a := f.at a
 replace b := f.at b
 replace d := f.at d
 obtain rfl := E
 refine cT <| ZQ rfl (fun e => ?_) fun e => ?_
 have hlt := qk S c k
 have h7 := zE (show k < 8 by omega)
 refine cZ <| Zi rfl <| Zi rfl <| Zv (jB (m := 1) rfl rfl Om (by simp only [IntKind.bits]; omega) (by simp only [d5, Int.toNat_natCast, Nat.one_mul]; omega)) <| Zv (Cq (n := _) rfl rfl rfl (by simp only [d5]; omega) (by simp only [d5, Int.toNat_natCast, Nat.one_mul]; omega)) <| Zi rfl <| cT <| p _ _ <| cZ <| Zv (dp rfl rfl Om Om) <| Zi rfl <| cT ?_
 exact o _ _ (k + 1) Za ⟨rfl, (by first | exact congrArg (fun q : Nat => Value.int .u8 (q : Int)) (Hp e) | exact congrArg (fun q : Nat => Value.int .u8 (q : Int)) (GL e)), trivial⟩ ⟨hB, a, b, Om, trivial⟩ Zo
 refine c9 <| p _ _ <| cZ <| Zv (dp rfl rfl Om Om) <| Zi rfl <| cT ?_
 exact o _ _ (k + 1) Za ⟨rfl, (by first | exact congrArg (fun q : Nat => Value.int .u8 (q : Int)) (Hp e) | exact congrArg (fun q : Nat => Value.int .u8 (q : Int)) (GL e)), trivial⟩ ⟨hB, a, b, Om, trivial⟩ Zo
 refine dr <| x _ _ <| Zr <| Zi rfl <| Zi rfl <| cT <| Zt <| dE (v := .int .u8 _) rfl ⟨hB, ?_⟩
 obtain rfl : k = S.may.length := by omega
 rfl
theorem mg (S : Sp) (onV mayV : Value) (m u o : Nat) (w : World) (hon : dM gp 4 w onV S.on) (hmay : dM gp 4 w mayV S.may) (hm : m < 256) (hv : u < 256) (ho : o < 256) :
    Fn Tryz.prog 88 #[.agg #[.int .i64 S.n, onV, mayV], .agg #[.int .u8 (m : Int), .int .u8 (u : Int), .int .u8 (o : Int)]] w fun v w' => v = .bool (pM S ⟨⟨m, u⟩, o⟩) := by
 refine dq (n := 22) Tryz.func88 rfl rfl (Nat.le_of_ble_eq_true rfl) ?_
 have hB : Below w.heap.size w w := Below.refl _ _
 refine Zr <| Zy (dU (c := #[_, _, _]) rfl rfl fun y W3 j q a => ?_)
 have z := ZO j hB
 clear j
 replace hB := Ze hB q
 refine Zy (dU (c := #[_, _, _]) rfl rfl fun A W6 l p d => ?_)
 have B := ZO l hB
 clear l
 replace hB := Ze hB p
 replace a := p.at a
 refine Zw (.bool false) rfl <| cT <| Zd eo fun r i => ?_
 replace hB := Ze hB i
 replace a := i.at a
 replace d := i.at d
 have hS := eo.refl r
 refine Tk 0 rfl (fun _ hq => db rfl eV rfl (hq.at a)) hS <| To 1 rfl (TC (vs := [.agg #[_, _, _]]) q5 (iN S _ _  _ (Below.slT hB hon) (Below.slT hB hmay) ) rfl fun C D f s => ⟨.inl (hS.trans f), ?_⟩)
 have t := a
 have h := d
 replace hB := Ze hB f
 replace a := f.at a
 replace d := f.at d
 replace hS := hS.trans f
 obtain rfl := s
 refine Tx 2 rfl (fun _ _ => kN (v := .bool _) rfl) hS (fun b => ?_) fun b => ?_
 refine Tf 3 rfl rfl fK hS <| Tk 4 rfl (fun _ hq => dk (v := .int .u8 _) rfl ef (At.cell (hq.at h) rfl)) hS <| Tk 5 rfl (fun _ _ => iQ rfl rfl) hS <| Ty 6 rfl rfl hS <| Tx 7 rfl (fun _ _ => kN (v := .bool _) rfl) hS (fun e => ?_) fun e => ?_
 refine Tf 8 rfl rfl fK hS <| Tk 9 rfl (fun _ hq => dk (v := .int .u8 _) rfl ef (At.cell (hq.at h) rfl)) hS <| Tk 10 rfl (fun _ hq => db rfl eV rfl (hq.at t)) hS <| Tf 11 rfl rfl gF hS <| Tk 12 rfl (fun _ hq => ig rfl dN (At.cell (hq.at h) rfl) (At.cell (hq.at h) rfl)) hS <| To 13 rfl (TC (vs := [.agg #[_, _, _], .agg #[_, _]]) CC (oI S _ _ ⟨m, u⟩ _ (Below.slT hB hon) (Below.slT hB hmay) ⟨hm, hv⟩ (by obtain ⟨_, _, _, h4, h5, _⟩ := d7.1 b; omega)) rfl fun E F g x => ⟨.inl (hS.trans g), ?_⟩)
 replace hB := Ze hB g
 replace a := g.at a
 replace d := g.at d
 replace hS := hS.trans g
 obtain rfl := x
 refine Tk 14 rfl (fun _ _ => pB (n := _) rfl rfl rfl (by first | assumption | (simp only [d5]; omega) | (simp only [d5]; decide)) (by have h1 := qk S ⟨m, u⟩ S.may.length; have h2 := F4 (k := S.may.length) (by obtain ⟨_, _, _, h4, h5, _⟩ := d7.1 b; omega); show kW S ⟨m, u⟩ S.may.length < 256; omega)) hS <| Tk 15 rfl (fun _ _ => eB rfl rfl) hS <| Ty 16 rfl rfl hS <| Ty 17 rfl rfl hS <| Td <| Zt <| dE (v := .bool _) rfl ⟨hB, ?_⟩
 first | exact congrArg Value.bool (Jl b e) | exact ot (Hh e) | exact ot (G8 b)
 refine Tp 8 rfl hS <| Tp 9 rfl hS <| Tp 10 rfl hS <| Tp 11 rfl hS <| Tp 12 rfl hS <| Tp 13 rfl hS <| Tp 14 rfl hS <| Tp 15 rfl hS <| Tw 16 (.bool false) rfl rfl hS <| Tw 17 (.bool false) rfl rfl hS <| Td <| Zt <| dE (v := .bool false) rfl ⟨hB, ?_⟩
 first | exact congrArg Value.bool (Jl b e) | exact ot (Hh e) | exact ot (G8 b)
 refine Tp 3 rfl hS <| Tp 4 rfl hS <| Tp 5 rfl hS <| Tw 6 (.bool false) rfl rfl hS <| Tw 7 (.bool false) rfl rfl hS <| Tp 8 rfl hS <| Tp 9 rfl hS <| Tp 10 rfl hS <| Tp 11 rfl hS <| Tp 12 rfl hS <| Tp 13 rfl hS <| Tp 14 rfl hS <| Tp 15 rfl hS <| Tw 16 (.bool false) rfl rfl hS ?_
 refine Tw 17 (.bool false) rfl rfl hS <| Td <| Zt <| dE (v := .bool false) rfl ⟨hB, ?_⟩
 first | exact congrArg Value.bool (Jl b e) | exact ot (Hh e) | exact ot (G8 b)
theorem xm (m u o m2 u2 o2 : Nat) (w : World) :
    Fn Tryz.prog 38 #[.agg #[.int .u8 (m : Int), .int .u8 (u : Int), .int .u8 (o : Int)], .agg #[.int .u8 (m2 : Int), .int .u8 (u2 : Int), .int .u8 (o2 : Int)]] w fun v w' => v = .bool (zP ⟨⟨m, u⟩, o⟩ ⟨⟨m2, u2⟩, o2⟩) := by
 refine dq (n := 38) Tryz.func38 rfl rfl (Nat.le_of_ble_eq_true rfl) ?_
 have hB : Below w.heap.size w w := Below.refl _ _
 refine Zr <| Zy (dU (c := #[_, _, _]) rfl rfl fun k W3 g i a => ?_)
 have l := ZO g hB
 clear g
 replace hB := Ze hB i
 refine Zy (dU (c := #[_, _, _]) rfl rfl fun p W6 e h b => ?_)
 have q := ZO e hB
 have r := Zn e a.lt
 clear e
 replace hB := Ze hB h
 replace a := h.at a
 refine Zw (.bool false) rfl <| cT <| cY fun K9 j => c7 <| Zr <| Zf rfl fK <| Zl rfl ef a rfl <| Zf rfl fK <| Zl rfl ef b rfl <| Zv (f7 rfl rfl) <| Zb rfl <| cT <| ZQ rfl (fun d => ?_) fun d => ?_
 refine Zr <| Zf rfl fK <| Zl rfl ef a rfl <| Zf rfl fK <| Zl rfl ef b rfl <| Zv (dL rfl rfl) <| Zb rfl <| cT <| Zt <| dE (v := .bool _) rfl ⟨hB, ?_⟩
 exact congrArg Value.bool (Qd d)
 refine Zr <| Zf rfl gF <| Zf rfl eQ <| Zl rfl ef a rfl <| Zf rfl gF <| Zf rfl eQ <| Zl rfl ef b rfl <| Zv (f7 rfl rfl) <| Zb rfl <| cT <| ZQ rfl (fun f => ?_) fun f => ?_
 refine Zr <| Zf rfl gF <| Zf rfl eQ <| Zl rfl ef a rfl <| Zf rfl gF <| Zf rfl eQ <| Zl rfl ef b rfl <| Zv (dL rfl rfl) <| Zb rfl <| cT <| Zt <| dE (v := .bool _) rfl ⟨hB, ?_⟩
 exact congrArg Value.bool (Qg d f)
 refine c9 <| j _ _ <| Zr <| Zf rfl gF <| Zf rfl gr <| Zl rfl ef a rfl <| Zf rfl gF <| Zf rfl gr <| Zl rfl ef b rfl <| Zv (dL rfl rfl) <| Zb rfl <| cT <| Zt <| dE (v := .bool _) rfl ?_
 refine ⟨hB, ?_⟩
 exact congrArg Value.bool (PR d f)
theorem ny (xa : Value) (l : List Rw) (q : Nat) (w : World) (hl : dM gv 3 w xa l) (hq : dC Tryz.prog q = true) (hdo : ∀ (m u o m2 u2 o2 : Nat) (w : World), Fn Tryz.prog q #[.agg #[.int .u8 (m : Int), .int .u8 (u : Int), .int .u8 (o : Int)], .agg #[.int .u8 (m2 : Int), .int .u8 (u2 : Int), .int .u8 (o2 : Int)]] w fun v w' => v = .bool (zP ⟨⟨m, u⟩, o⟩ ⟨⟨m2, u2⟩, o2⟩)) (hlb : l.length ≤ 2000000) :
    Fn Tryz.prog 37 #[xa, .func (.func q) #[] #[]] w fun v w' => dh gv 3 42 w' w.heap.size v (fm l l.length) := by
 refine dq (n := 44) Tryz.func37 rfl rfl (Nat.le_of_ble_eq_true rfl) ?_
 have hB : Below w.heap.size w w := Below.refl _ _
 refine Zr <| Zw (.slice none 0 0) rfl <| cT <| Zr <| Zw (.slice none 0 0) rfl <| cT <| cY fun K5 Z => Zr <| Zw xa rfl <| Zv (dA (v := xa) rfl (Below.slT hB hl) dT) <| Zw (.int .i64 0) rfl <| cT <| c7 ?_
 refine dw (σ := (Nat) × (Value)) [5, 7, 8, 11, 12, 13, 14, 15, 16, 17, 18, 19, 20, 21, 22, 23, 24, 25, 26, 27, 28, 29, 30, 31, 32, 33, 34, 35, 36, 37, 38, 39, 40, 41, 42] (fun (k, v0) => [(11, .int .i64 (k : Int)), (5, v0)]) (fun sg W => match sg with | (k, v0) => (Below w.heap.size w W) ∧ (dh gv 3 42 W w.heap.size v0 (fm l k)) ∧ (k ≤ l.length) ∧ (True)) (fun (k, v0) => l.length - k) ((0, .slice none 0 0)) ⟨rfl, rfl, trivial⟩ ⟨hB, dh.nil, (Nat.zero_le _), trivial⟩ ?_
 clear hB
 rintro ⟨k, v0⟩ au W9 ⟨hB, ho, hk, _⟩ av S
 refine Zr <| Zv (dL rfl rfl) <| cT <| cY fun aw aa => ZQ rfl (fun ab => ?_) fun ab => ?_
 refine c9 <| aa _ _ <| cY fun ax T => c7 ?_
 have hsl := n7 l k
 have hC : (fm l k).length ≤ iU v0 := (Sl.eqv ho.sl).2.1
 refine Zr <| Zv (dJ (v := xa) rfl (Below.slT hB hl) rfl dT Om Ol29_0) <| Zv (k8 rfl eA (dM.cell (Below.slT hB hl) ej ⟨⟨0, 0⟩, 0⟩ Om Ol29_0 0 rfl) (dM.cell (Below.slT hB hl) ej ⟨⟨0, 0⟩, 0⟩ Om Ol29_0 1 rfl) (dM.cell (Below.slT hB hl) ej ⟨⟨0, 0⟩, 0⟩ Om Ol29_0 2 rfl)) <| Zy (dt kP rfl fun U ay G V c => ?_)
 have ac := ZO G hB
 have ad := dh.neB (b := U) ho (Nat.le_of_eq G.symm)
 clear G
 replace hB := Ze hB V
 replace ho := V.ow ho
 refine Zy (dg rfl rfl eA rfl c rfl rfl fun az X ae => ?_)
 replace hB := Zg hB X ac
 replace ho := dh.grownAtNe ho ad X
 replace c := ae
 refine cT <| Zr <| Zw v0 rfl <| Zv (dA (v := v0) rfl ho.sl dT) <| Zi rfl <| cT <| cY fun aA Y => c7 ?_
 refine dw (σ := (Nat)) [8, 17, 18, 19, 20, 21, 22, 23, 24, 25, 26, 27, 28, 29, 30] (fun i => [(8, .int .i64 (i : Int))]) (fun i W => (Below w.heap.size w W) ∧ (dh gv 3 42 W w.heap.size v0 _) ∧ (At W U _ 42) ∧ (i ≤ (fm l k).length) ∧ (og (fm l k) (l.getD k ⟨⟨0, 0⟩, 0⟩) (fm l k).length = og (fm l k) (l.getD k ⟨⟨0, 0⟩, 0⟩) i) ∧ (True)) (fun i => i) ((fm l k).length) ⟨rfl, trivial⟩ ⟨hB, ho, c, (Nat.le_refl _), rfl, trivial⟩ ?_
 clear hB ho c
 rintro i aB aC ⟨hB, ho, c, hi, hp, _⟩ aD af
 refine cY fun aE ag => Zd eo fun ah H => ?_
 replace hB := Ze hB H
 replace ho := H.ow ho
 replace c := H.at c
 have hS := eo.refl ah
 refine Ti 0 rfl rfl hS <| Tk 1 rfl (fun _ _ => iQ rfl rfl) hS <| Tx 2 rfl (fun _ _ => kN (v := .bool _) rfl) hS (fun ai => ?_) fun ai => ?_
 refine Tw 3 (.func (.func q) #[] #[]) rfl rfl hS <| Tk 4 rfl (fun _ hq => db rfl eA rfl (hq.at c)) hS <| Tw 5 v0 rfl rfl hS <| Ti 6 rfl rfl hS <| Tk 7 rfl (fun _ _ => kU rfl rfl Om Om) hS <| Tk 8 rfl (fun _ hq => dJ (v := v0) rfl ((hq.ow ho)).sl rfl dT Om Ol29_0) hS <| Tk 9 rfl (fun _ hq => k8 rfl eA (dM.cell ((hq.ow ho)).sl ej ⟨⟨0, 0⟩, 0⟩ Om Ol29_0 0 rfl) (dM.cell ((hq.ow ho)).sl ej ⟨⟨0, 0⟩, 0⟩ Om Ol29_0 1 rfl) (dM.cell ((hq.ow ho)).sl ej ⟨⟨0, 0⟩, 0⟩ Om Ol29_0 2 rfl)) hS <| To 10 rfl (Yd.call (vQ (q := q) rfl hq (v0 := .agg #[_, _, _]) rfl (v1 := .agg #[_, _, _]) rfl) (hdo _ _ _ _ _ _ _) fun aF aG A aj => ⟨.inl (hS.trans A), ?_⟩)
 replace hB := Ze hB A
 replace ho := A.ow ho
 replace c := A.at c
 replace hS := hS.trans A
 obtain rfl := aj
 refine Ty 11 rfl rfl hS <| Td <| ZQ rfl (fun F => ?_) fun F => ?_
 refine c9 <| ag _ _ <| c7 <| cZ <| Zi rfl <| Zv (kU rfl rfl Om Om) <| Zi rfl <| cT ?_
 exact af _ _ (i - 1) Za ⟨congrArg (Value.int .i64) (by omega : (i : Int) - 1 = ((i - 1 : Nat) : Int)), trivial⟩ ⟨hB, ho, c, Om, (hp.trans (Cl Om F)), trivial⟩ Zo
 refine dr <| Y _ _ ?_
 have hpos : og (fm l k) (l.getD k ⟨⟨0, 0⟩, 0⟩) (fm l k).length = i := hp.trans (x4 (by first | exact .inr F | exact .inl (by omega)))
 have hsl := n7 l k
 have hC : (fm l k).length ≤ iU v0 := (Sl.eqv ho.sl).2.1
 have hil : ((i : Nat) : Int).toNat = i := rfl
 refine gx eo im (fun I J => ?_)
 replace hB := Ze hB J
 replace ho := J.ow ho
 replace c := J.at c
 have hS := eo.refl I
 refine Tw 0 v0 rfl rfl hS <| Ti 1 rfl rfl hS <| Ti 2 rfl rfl hS <| Tk 3 rfl (fun _ hq => l8 (v := v0) rfl ((hq.ow ho)).sl dT rfl rfl Om Om Om) hS ?_
 have d : dM gv 3 I (fV 3 v0 0 i i) (((fm l k).drop 0).take (i - 0)) := dM.part ej ho.sl (by omega) (by omega) (by omega) (by omega)
 refine Tk 4 rfl (fun _ hq => db rfl eA rfl (hq.at c)) hS <| Tw 6 v0 rfl rfl hS <| Ti 7 rfl rfl hS <| Tk 8 rfl (fun _ hq => l9 (v := v0) rfl ((hq.ow ho)).sl dT rfl Om Om) hS ?_
 have f : dM gv 3 I (fV 3 v0 i (fm l k).length (iU v0)) (((fm l k).drop i).take ((fm l k).length - i)) := dM.part ej ho.sl (by omega) (by omega) (by omega) (by omega)
 refine To 5 rfl (fc (u := .agg #[_, _, _]) rfl dT iu rfl Dd Dd fun g aH r s K => ⟨.inl (hS.trans s), ?_⟩)
 have L := ZO r hB
 have B := Nat.le_trans (eo.size hS) (Nat.le_of_eq r.symm)
 have ak := dh.neB (b := g) ho (Nat.le_of_eq r.symm)
 have al := Zn r c.lt
 have ao := dM.far (b := g) d (Nat.le_of_eq r.symm)
 have ap := dM.far (b := g) f (Nat.le_of_eq r.symm)
 clear r
 replace hB := Ze hB s
 replace ho := s.ow ho
 replace c := s.at c
 replace d := s.slT d
 replace f := s.slT f
 replace hS := hS.trans s
 have M := ix (enc := gv) (a := (l.getD k ⟨⟨0, 0⟩, 0⟩)) K rfl rfl L
 refine To 9 rfl (ez (v := .slice (some ⟨g, 0, none⟩) 1 1) (v2 := fV 3 v0 i (fm l k).length (iU v0)) rfl rfl dT iu Dd M f (kA) (by have := Below.size hB; omega) (by simp; omega) (by simp; omega) fun O aI C h => ⟨.inl (dy hS C (Nat.le_refl _) (fun j hj => by have e : g = j := Option.some.inj hj; rw [← e]; exact B)), ?_⟩)
 replace hS : eo _ _ := dy hS C (Nat.le_refl _) (fun j hj => by have e : g = j := Option.some.inj hj; rw [← e]; exact B)
 replace h := dh.app (enc := gv) rfl rfl rfl rfl h
 replace hB := ZG hB C M
 replace d := dM.grownFar d ao C
 replace f := dM.grownFar f ap C
 clear ho M
 refine To 10 rfl (js (N := w.heap.size) (v := fV 3 v0 0 i i) (v2 := O) rfl rfl dT iu d (v6 (by simp; omega)) h.sl (by simp) (Below.size hB) (by simp; omega) (by simp; omega) fun D aJ y p => ⟨.inl (hS.trans y), ?_⟩)
 replace p := dh.app (enc := gv) rfl rfl rfl rfl p
 replace hB := Ze hB y
 replace d := y.slT d
 replace f := y.slT f
 replace h := y.ow h
 replace hS := hS.trans y
 refine Tw 11 D rfl rfl hS <| Td <| T _ _ <| cZ <| Zv (dp rfl rfl Om Om) <| Zi rfl <| cT ?_
 exact S _ _ ((k + 1, D)) Za ⟨rfl, rfl, trivial⟩ ⟨hB, (by rw [fm, Fv, hpos]; have e : ((fm l k).drop i).take ((fm l k).length - i) = (fm l k).drop i := List.take_of_length_le (by simp); rw [e] at p; simpa using p), Om, trivial⟩ (by show l.length - (k + 1) < l.length - k; omega)
 refine Tp 3 rfl hS <| Tp 4 rfl hS <| Tp 5 rfl hS <| Tp 6 rfl hS <| Tp 7 rfl hS <| Tp 8 rfl hS <| Tp 9 rfl hS <| Tp 10 rfl hS <| Tw 11 (.bool false) rfl rfl hS <| Td <| d4 rfl <| dr <| Y _ _ ?_
 have hpos : og (fm l k) (l.getD k ⟨⟨0, 0⟩, 0⟩) (fm l k).length = i := hp.trans (x4 (by first | exact .inr F | exact .inl (by omega)))
 have hsl := n7 l k
 have hC : (fm l k).length ≤ iU v0 := (Sl.eqv ho.sl).2.1
 have hil : ((i : Nat) : Int).toNat = i := rfl
 refine gx eo im (fun P Q => ?_)
 replace hB := Ze hB Q
 replace ho := Q.ow ho
 replace c := Q.at c
 have hS := eo.refl P
 refine Tw 0 v0 rfl rfl hS <| Ti 1 rfl rfl hS <| Ti 2 rfl rfl hS <| Tk 3 rfl (fun _ hq => l8 (v := v0) rfl ((hq.ow ho)).sl dT rfl rfl Om Om Om) hS ?_
 have d : dM gv 3 P (fV 3 v0 0 i i) (((fm l k).drop 0).take (i - 0)) := dM.part ej ho.sl (by omega) (by omega) (by omega) (by omega)
 refine Tk 4 rfl (fun _ hq => db rfl eA rfl (hq.at c)) hS <| Tw 6 v0 rfl rfl hS <| Ti 7 rfl rfl hS <| Tk 8 rfl (fun _ hq => l9 (v := v0) rfl ((hq.ow ho)).sl dT rfl Om Om) hS ?_
 have f : dM gv 3 P (fV 3 v0 i (fm l k).length (iU v0)) (((fm l k).drop i).take ((fm l k).length - i)) := dM.part ej ho.sl (by omega) (by omega) (by omega) (by omega)
 refine To 5 rfl (fc (u := .agg #[_, _, _]) rfl dT iu rfl Dd Dd fun g aK t x K => ⟨.inl (hS.trans x), ?_⟩)
 have L := ZO t hB
 have B := Nat.le_trans (eo.size hS) (Nat.le_of_eq t.symm)
 have ak := dh.neB (b := g) ho (Nat.le_of_eq t.symm)
 have al := Zn t c.lt
 have aq := dM.far (b := g) d (Nat.le_of_eq t.symm)
 have ar := dM.far (b := g) f (Nat.le_of_eq t.symm)
 clear t
 replace hB := Ze hB x
 replace ho := x.ow ho
 replace c := x.at c
 replace d := x.slT d
 replace f := x.slT f
 replace hS := hS.trans x
 have R := ix (enc := gv) (a := (l.getD k ⟨⟨0, 0⟩, 0⟩)) K rfl rfl L
 refine To 9 rfl (ez (v := .slice (some ⟨g, 0, none⟩) 1 1) (v2 := fV 3 v0 i (fm l k).length (iU v0)) rfl rfl dT iu Dd R f (kA) (by have := Below.size hB; omega) (by simp; omega) (by simp; omega) fun O aL E h => ⟨.inl (dy hS E (Nat.le_refl _) (fun j hj => by have e : g = j := Option.some.inj hj; rw [← e]; exact B)), ?_⟩)
 replace hS : eo _ _ := dy hS E (Nat.le_refl _) (fun j hj => by have e : g = j := Option.some.inj hj; rw [← e]; exact B)
 replace h := dh.app (enc := gv) rfl rfl rfl rfl h
 replace hB := ZG hB E R
 replace d := dM.grownFar d aq E
 replace f := dM.grownFar f ar E
 clear ho R
 refine To 10 rfl (js (N := w.heap.size) (v := fV 3 v0 0 i i) (v2 := O) rfl rfl dT iu d (v6 (by simp; omega)) h.sl (by simp) (Below.size hB) (by simp; omega) (by simp; omega) fun D aM z p => ⟨.inl (hS.trans z), ?_⟩)
 replace p := dh.app (enc := gv) rfl rfl rfl rfl p
 replace hB := Ze hB z
 replace d := z.slT d
 replace f := z.slT f
 replace h := z.ow h
 replace hS := hS.trans z
 refine Tw 11 D rfl rfl hS <| Td <| T _ _ <| cZ <| Zv (dp rfl rfl Om Om) <| Zi rfl <| cT ?_
 exact S _ _ ((k + 1, D)) Za ⟨rfl, rfl, trivial⟩ ⟨hB, (by rw [fm, Fv, hpos]; have e : ((fm l k).drop i).take ((fm l k).length - i) = (fm l k).drop i := List.take_of_length_le (by simp); rw [e] at p; simpa using p), Om, trivial⟩ (by show l.length - (k + 1) < l.length - k; omega)
 refine dr <| Z _ _ <| Zr <| Zw v0 rfl <| Zw v0 rfl <| cT <| Zt <| dE (v := v0) rfl ⟨hB, ?_⟩
 obtain rfl : k = l.length := by omega
 exact ho
theorem Ba (S : Sp) (onV mayV : Value) (w : World) (hon : dM gp 4 w onV S.on) (hmay : dM gp 4 w mayV S.may) :
    Fn Tryz.prog 14 #[.agg #[.int .i64 S.n, onV, mayV]] w fun v w' => if dP S = true then ∃ x, v = .tuple #[x, .int .i64 0] ∧ dh gv 3 42 w' w.heap.size x (eR S) else v = .tuple #[.slice none 0 0, .int .i64 1] := by
 refine dq (n := 78) Tryz.func14 rfl rfl (Nat.le_of_ble_eq_true rfl) ?_
 have hB : Below w.heap.size w w := Below.refl _ _
 refine Zr <| Zy (dU (c := #[_, _, _]) rfl rfl fun F W3 Q ad a => ?_)
 have aJ := ZO Q hB
 clear Q
 replace hB := Ze hB ad
 refine Zw (.slice none 0 0) rfl <| Zw (.int .i64 0) rfl <| cT <| cY fun K6 ae => Zr <| Zv (db rfl eV rfl a) <| ZC (vs := [.agg #[_, _, _]]) q5 (iN S _ _  _ (Below.slT hB hon) (Below.slT hB hmay) ) rfl fun aK aL R af => ?_
 replace hB := Ze hB R
 replace a := R.at a
 obtain rfl := af
 refine Zv (fy rfl) <| cT <| ZQ rfl (fun G => ?_) fun G => ?_
 refine Zr <| Zw (.slice none 0 0) rfl <| Zw (.int .i64 1) rfl <| cT <| Zt <| dZ (v := .slice none 0 0) rfl (v1 := .int .i64 1) rfl ⟨hB, ?_⟩
 rw [if_neg (by rw [jc G]; decide)]
 refine c9 <| ae _ _ ?_
 have hr : dP S = true := ie G
 obtain ⟨h0, h8, h1, h4, h5, hin⟩ := d7.1 hr
 have aM := F4 (k := S.may.length) (by omega)
 have aN := Nat.two_pow_pos S.may.length
 refine Zr <| Zw (.slice none 0 0) rfl <| cT <| cY fun aO ag => Zr <| Zw (.int .i64 1) rfl <| cT <| c7 ?_
 refine dw (σ := (Nat) × (Value)) [4, 5, 6, 7, 8, 9, 10, 12, 16, 17, 18, 19, 20, 21, 22, 23, 24, 25, 26, 27, 28, 29, 30, 31, 32, 33, 34, 35, 36, 37, 38, 39, 40, 41, 42, 43, 44, 45, 46, 47, 48, 49, 50, 51, 52, 53, 54, 55, 56, 57, 58, 59, 60, 61, 62, 63, 64, 65, 66, 67, 68, 69, 70, 71, 72, 73, 74, 75] (fun (o, v0) => [(5, .int .i64 (o : Int)), (4, v0)]) (fun sg W => match sg with | (o, v0) => (Below w.heap.size w W) ∧ (At W F _ 24) ∧ (dh gv 3 42 W w.heap.size v0 (jG S o)) ∧ (1 ≤ o ∧ o ≤ 2 ^ S.may.length) ∧ (True)) (fun (o, v0) => 2 ^ S.may.length - o) ((1, .slice none 0 0)) ⟨rfl, rfl, trivial⟩ ⟨hB, a, (by rw [show jG S 1 = [] from rfl]; exact dh.nil), Om, trivial⟩ ?_
 clear hB a
 rintro ⟨o, v0⟩ aP aQ ⟨hB, a, ho, hoo, _⟩ aR ah
 refine cY fun aS ai => Zr <| Zi rfl <| Zf rfl fU <| ZL mayV rfl eE a rfl <| Zv (dA (v := mayV) rfl (Below.slT hB hmay) ea) <| Zv (jB (m := 1) rfl rfl Om (by simp only [IntKind.bits]; omega) (by exact rO _ _ (by simp only [lN]; omega))) <| Zv (dL rfl rfl) <| cT <| ZQ rfl (fun H => ?_) fun H => ?_
 refine c9 <| ai _ _ <| cY fun aT aj => c7 ?_
 have hol : o < 2 ^ S.may.length := by simp only [Nat.one_mul, Int.toNat_natCast] at H; omega
 have hal := s7 (S := S) h8 o
 refine Zr <| Zf rfl fQ <| Zl rfl dB a rfl <| ZC wF (nR _ _) rfl fun aU aV I ak => ?_
 replace hB := Ze hB I
 replace a := I.at a
 replace ho := I.ow ho
 obtain ⟨sa, er, rfl, hhP7_2⟩ := qi ak
 refine Zw (.tuple #[.agg #[_, _, _, _], .int .i64 _]) rfl <| Zv (dI rfl) <| Zv (dK rfl) <| Zy (dt eM rfl fun J al T K d => ?_)
 have U := ZO T hB
 clear T
 replace hB := Ze hB K
 replace a := K.at a
 replace ho := K.ow ho
 replace d : At al J #[wv 0 0, wv 0 1, wv 0 2, wv 0 3] 49 := d
 refine Zy (dg rfl rfl df rfl d rfl rfl fun aW L ao => ?_)
 replace hB := Zg hB L U
 replace a := At.grownAt a d L Dd
 replace ho := dh.grownAt ho d L Dd
 replace d := ao
 refine Zi rfl <| cT <| cY fun aX ap => ?_
 obtain ⟨_, _, hsa⟩ := u7 hhP7_2 (fun h => h (hhP7_2.elim (fun q => q.2.2.2) (fun q => absurd ⟨h0, h8⟩ q.1)))
 subst hsa
 refine Zr <| Zf rfl fU <| ZL mayV rfl eE a rfl <| Zv (dA (v := mayV) rfl (Below.slT hB hmay) ea) <| Zw (.int .i64 0) rfl <| cT <| c7 ?_
 refine dw (σ := (Nat)) [8, 33, 34, 35, 36, 37, 38, 39, 40, 41, 42, 43, 44, 45, 46, 47, 48] (fun k => [(33, .int .i64 (k : Int))]) (fun k W => (Below w.heap.size w W) ∧ (At W F _ 24) ∧ (dh gv 3 42 W w.heap.size v0 _) ∧ (At W J #[wv (kH S o k) 0, wv (kH S o k) 1, wv (kH S o k) 2, wv (kH S o k) 3] 49) ∧ (k ≤ S.may.length) ∧ (True)) (fun k => S.may.length - k) (0) ⟨rfl, trivial⟩ ⟨hB, a, ho, d, (Nat.zero_le _), trivial⟩ ?_
 clear hB a ho d
 rintro k aY aZ ⟨hB, a, ho, d, hk, _⟩ a0 V
 refine Zr <| Zv (dL rfl rfl) <| cT <| cY fun a1 aq => ZQ rfl (fun ar => ?_) fun ar => ?_
 refine c9 <| aq _ _ <| cY fun a2 X => c7 <| Zr <| Zi rfl <| Zi rfl <| cT <| Zr <| Zi rfl <| Zi rfl <| Zv (sL rfl rfl Om (by simp only [IntKind.bits]; omega)) <| Zv (nE (n := 1) rfl rfl rfl (by simp only [d5]; have := Nat.div_le_self o (2 ^ ((k : Nat) : Int).toNat); omega) Dd) <| Zv (eB rfl rfl) ?_
 refine cT <| ZQ rfl (fun r => ?_) fun r => ?_
 refine gx eo im (fun au C => ?_)
 replace hB := Ze hB C
 replace a := C.at a
 replace ho := C.ow ho
 replace d := C.at d
 have hS := eo.refl au
 refine Tk 0 rfl (fun _ hq => db rfl df rfl (hq.at d)) hS <| Tf 1 rfl rfl fU hS <| Tk 2 rfl (fun _ hq => dk (v := mayV) rfl eE (At.cell (hq.at a) rfl)) hS <| Ti 3 rfl rfl hS <| Tk 4 rfl (fun _ hq => dJ (v := mayV) rfl (hq.slT (Below.slT hB hmay)) rfl ea Om Ol29_0) hS <| Tk 5 rfl (fun _ hq => fq rfl df (dM.cell (hq.slT (Below.slT hB hmay)) dG 0 Om Ol29_0 0 rfl) (dM.cell (hq.slT (Below.slT hB hmay)) dG 0 Om Ol29_0 1 rfl) (dM.cell (hq.slT (Below.slT hB hmay)) dG 0 Om Ol29_0 2 rfl) (dM.cell (hq.slT (Below.slT hB hmay)) dG 0 Om Ol29_0 3 rfl)) hS <| To 6 rfl (TC (vs := [.agg #[_, _, _, _], .agg #[_, _, _, _]]) tt (qs _ _ _) rfl fun a3 a4 j av => ⟨.inl (hS.trans j), ?_⟩)
 replace hB := Ze hB j
 replace a := j.at a
 replace ho := j.ow ho
 replace d := j.at d
 replace hS := hS.trans j
 obtain rfl := av
 refine To 7 rfl (dg rfl rfl df rfl d rfl rfl fun a5 M aw => ⟨.inr (by kernel_rfl), ?_⟩)
 replace hB := Zg hB M U
 replace a := At.grownAt a d M Dd
 replace ho := dh.grownAt ho d M Dd
 replace d := aw
 refine Td <| X _ _ <| cZ <| Zv (dp rfl rfl Om Om) <| Zi rfl <| cT ?_
 exact V _ _ (k + 1) Za ⟨rfl, trivial⟩ ⟨hB, a, ho, (by first | (rw [← DO (uL r)]; exact d) | (rw [← D3 (ur r)]; exact d)), Om, trivial⟩ Zo
 refine c9 <| X _ _ <| cZ <| Zv (dp rfl rfl Om Om) <| Zi rfl <| cT ?_
 exact V _ _ (k + 1) Za ⟨rfl, trivial⟩ ⟨hB, a, ho, (by first | (rw [← DO (uL r)]; exact d) | (rw [← D3 (ur r)]; exact d)), Om, trivial⟩ Zo
 refine dr <| ap _ _ ?_
 obtain rfl : k = S.may.length := by omega
 refine Zr <| Zv (db rfl df rfl d) <| Zf rfl fQ <| Zl rfl dB a rfl <| ZC (vs := [.agg #[_, _, _, _], .int .i64 _]) MZ (BR (gf S o) _ _) rfl fun a6 a7 D ax => ?_
 have ay := (Below.size hB)
 replace hB := Ze hB D
 replace a := D.at a
 replace ho := D.ow ho
 replace d := D.at d
 obtain ⟨x_hP14_3, er_hP14_3, l_hP14_3, rfl, ho_hP14_3, hc_hP14_3⟩ := LD ax
 replace ho_hP14_3 := dh.mono ho_hP14_3 ay
 refine Zw (.tuple #[x_hP14_3, .int .i64 _]) rfl <| Zv (dI rfl) <| Zv (dK rfl) <| Zw x_hP14_3 rfl <| Zi rfl <| cT ?_
 obtain ⟨q2, q3⟩ := hc_hP14_3.elim (fun h => h.2) (fun h => absurd (GK hr o) (by rw [h.1]; decide))
 subst q2 q3
 have hpl := tM (s := gf S o) h8
 refine Zr <| Zw x_hP14_3 rfl <| Zv (dA (v := x_hP14_3) rfl ho_hP14_3.sl eZ) <| Zw (.int .i64 0) rfl <| cT <| c7 ?_
 refine dw (σ := (Nat) × (Value)) [4, 12, 58, 59, 60, 61, 62, 63, 64, 65, 66, 67, 68, 69, 70, 71, 72, 73, 74, 75] (fun (i, v1) => [(58, .int .i64 (i : Int)), (4, v1)]) (fun sg W => match sg with | (i, v1) => (Below w.heap.size w W) ∧ (At W F _ 24) ∧ (At W J _ 49) ∧ (dh gU 2 40 W w.heap.size x_hP14_3 _) ∧ (dh gv 3 42 W w.heap.size v1 (jG S o ++ iG S o i)) ∧ (i ≤ (eH (gf S o) S.n).length) ∧ (True)) (fun (i, v1) => (eH (gf S o) S.n).length - i) ((0, v0)) ⟨rfl, rfl, trivial⟩ ⟨hB, a, d, ho_hP14_3, (by rw [iG, List.append_nil]; exact ho), (Nat.zero_le _), trivial⟩ ?_
 clear hB a ho d ho_hP14_3
 rintro ⟨i, v1⟩ a8 a9 ⟨hB, a, d, ho_hP14_3, f, hi, _⟩ ba Y
 refine Zr <| Zv (dL rfl rfl) <| cT <| cY fun bb az => ZQ rfl (fun aA => ?_) fun aA => ?_
 refine c9 <| az _ _ <| cY fun bc Z => c7 ?_
 have hci : ((eH (gf S o) S.n).getD i ⟨0, 0⟩).m < 256 ∧ ((eH (gf S o) S.n).getD i ⟨0, 0⟩).v < 256 := I4 h8 (by omega)
 have hrl := qZ S o i
 have hol2 := qk S ((eH (gf S o) S.n).getD i ⟨0, 0⟩) S.may.length
 refine Zr <| Zv (dJ (v := x_hP14_3) rfl ho_hP14_3.sl rfl eZ Om Ol29_0) <| Zv (ig rfl dN (dM.cell ho_hP14_3.sl gj ⟨0, 0⟩ Om Ol29_0 0 rfl) (dM.cell ho_hP14_3.sl gj ⟨0, 0⟩ Om Ol29_0 1 rfl)) <| Zy (dt i4 rfl fun aB bd N t g => ?_)
 have aC := ZO N hB
 have aD := dh.neB (b := aB) ho_hP14_3 (Nat.le_of_eq N.symm)
 clear N
 replace hB := Ze hB t
 replace a := t.at a
 replace d := t.at d
 replace ho_hP14_3 := t.ow ho_hP14_3
 replace f := t.ow f
 refine Zy (dg rfl rfl dN rfl g rfl rfl fun bf y aE => ?_)
 replace hB := Zg hB y aC
 replace a := At.grownAt a g y Dd
 replace d := At.grownAt d g y Dd
 replace ho_hP14_3 := dh.grownAtNe ho_hP14_3 aD y
 replace f := dh.grownAt f g y Dd
 replace g := aE
 refine cT <| Zr <| Zv (db rfl eV rfl a) <| Zv (db rfl dN rfl g) <| ZC (vs := [.agg #[_, _, _], .agg #[_, _]]) CC (oI S _ _ ((eH (gf S o) S.n).getD i ⟨0, 0⟩) _ (Below.slT hB hon) (Below.slT hB hmay) hci Om) rfl fun bg bh l aF => ?_
 replace hB := Ze hB l
 replace a := l.at a
 replace d := l.at d
 replace ho_hP14_3 := l.ow ho_hP14_3
 replace f := l.ow f
 replace g := l.at g
 obtain rfl := aF
 refine Zi rfl <| Zv (jt rfl Tryz.underlying3 Tryz.underlying5 (by simp only [d5]; omega)) <| Zv (eB rfl rfl) <| cT <| ZQ rfl (fun z => ?_) fun z => ?_
 refine cZ <| Zw v1 rfl <| Zv (db rfl dN rfl g) <| Zi rfl <| Zv (jt rfl Tryz.underlying3 Tryz.underlying5 (by simp only [d5]; omega)) <| Zv (kb (h0 := rfl) (h1 := rfl) (k1 := rfl) (c1_0 := .int .u8 _)) <| Zy (fc (u := .agg #[_, _, _]) rfl dT iu rfl Dd Dd fun aa bi O p aG => ?_)
 have bj := ZO O hB
 have bk := dh.neB (b := aa) f (Nat.le_of_eq O.symm)
 clear O
 replace hB := Ze hB p
 replace a := p.at a
 replace d := p.at d
 replace ho_hP14_3 := p.ow ho_hP14_3
 replace f := p.ow f
 replace g := p.at g
 refine Zy (ez (v := v1) (v2 := .slice (some ⟨aa, 0, none⟩) 1 1) rfl rfl dT iu Dd f (fG aG rfl) rfl (by have := Below.size hB; omega) (by first | omega | (simp; omega) | (simp only [cV, cW, cX, da, de]; omega)) (by first | omega | (simp; omega) | (simp only [cV, cW, cX, da, de]; omega)) fun ab bl A E => ?_)
 replace E := dh.snoc (enc := gv) (x := ⟨(eH (gf S o) S.n).getD i ⟨0, 0⟩, o⟩) rfl rfl rfl rfl E
 replace hB := ZG hB A f
 replace a := At.grownOw a f A Dd
 replace d := At.grownOw d f A Dd
 replace ho_hP14_3 := dh.grownOw ho_hP14_3 f A Dd
 replace g := At.grownOw g f A Dd
 clear f
 refine Zw ab rfl <| cT <| Z _ _ <| cZ <| Zv (dp rfl rfl Om Om) <| Zi rfl <| cT ?_
 exact Y _ _ ((i + 1, ab)) Za ⟨rfl, rfl, trivial⟩ ⟨hB, a, d, ho_hP14_3, (by first | (rw [← Bc (CF z), ← List.append_assoc]; exact E) | (rw [← z9 (fun h => z (congrArg Int.ofNat h))]; exact E)), Om, trivial⟩ (by show (eH (gf S o) S.n).length - (i + 1) < (eH (gf S o) S.n).length - i; omega)
 refine c9 <| Z _ _ <| cZ <| Zv (dp rfl rfl Om Om) <| Zi rfl <| cT ?_
 exact Y _ _ ((i + 1, v1)) Za ⟨rfl, rfl, trivial⟩ ⟨hB, a, d, ho_hP14_3, (by first | (rw [← Bc (CF z), ← List.append_assoc]; exact f) | (rw [← z9 (fun h => z (congrArg Int.ofNat h))]; exact f)), Om, trivial⟩ (by show (eH (gf S o) S.n).length - (i + 1) < (eH (gf S o) S.n).length - i; omega)
 refine dr <| aj _ _ <| cZ <| Zi rfl <| Zv (dp rfl rfl Om Om) <| Zi rfl <| cT ?_
 exact ah _ _ ((o + 1, v1)) Za ⟨rfl, rfl, trivial⟩ ⟨hB, a, (by rw [← Dl Om]; have e : i = (eH (gf S o) S.n).length := Om; subst e; exact f), Om, trivial⟩ (by show 2 ^ S.may.length - (o + 1) < 2 ^ S.may.length - o; omega)
 refine dr <| ag _ _ ?_
 obtain rfl : o = 2 ^ S.may.length := by simp only [Nat.one_mul, Int.toNat_natCast] at H; omega
 have hal := s7 (S := S) h8 (2 ^ S.may.length)
 refine Zr <| Zw v0 rfl <| ZC M1 (ny _ (eR S) 38 _ ho.sl NE (fun m u o m2 u2 o2 w => xm m u o m2 u2 o2 w) (show (jG S (2 ^ S.may.length)).length ≤ 2000000 by omega)) rfl fun ac bm P B => ?_
 have aH := dh.lt2 ho
 have aI := (Below.size hB)
 replace hB := Ze hB P
 replace a := P.at a
 replace ho := P.ow ho
 have bn := eO.new aH B
 replace B := dh.mono B aI
 rw [FT] at B
 refine Zw ac rfl <| Zw (.int .i64 0) rfl <| cT <| Zt <| dZ (v := ac) rfl (v1 := .int .i64 0) rfl ⟨hB, ?_⟩
 rw [if_pos hr]
 exact ⟨_, rfl, B⟩
theorem r9 (S : Sp) (onV mayV : Value) (x : Rw) (w : World) (hon : dM gp 4 w onV S.on) (hmay : dM gp 4 w mayV S.may) (hbx : x.c.m < 256 ∧ x.c.v < 256 ∧ x.o < 256) :
    Fn Tryz.prog 47 #[.agg #[.int .i64 S.n, onV, mayV], .agg #[.int .u8 (x.c.m : Int), .int .u8 (x.c.v : Int), .int .u8 (x.o : Int)]] w fun v w' => v = if pM S x = true then .tuple #[.agg #[.int .u8 ((tX S x).c.m : Int), .int .u8 ((tX S x).c.v : Int), .int .u8 ((tX S x).o : Int)], .int .i64 0] else .tuple #[.agg #[.int .u8 0, .int .u8 0, .int .u8 0], .int .i64 1] := by
 refine dq (n := 36) Tryz.func47 rfl rfl (Nat.le_of_ble_eq_true rfl) ?_
 have hB : Below w.heap.size w w := Below.refl _ _
 refine Zr <| Zy (dU (c := #[_, _, _]) rfl rfl fun X W3 R Y b => ?_)
 have aw := ZO R hB
 clear R
 replace hB := Ze hB Y
 refine Zy (dU (c := #[_, _, _]) rfl rfl fun Z W6 T U a => ?_)
 have G := ZO T hB
 clear T
 replace hB := Ze hB U
 replace b := U.at b
 refine Zy (dt kP rfl fun aa W9 H I d => ?_)
 have V := ZO H hB
 have l := Zn H a.lt
 clear H
 replace hB := Ze hB I
 replace b := I.at b
 replace a := I.at a
 refine Zw (.int .i64 0) rfl <| cT <| cY fun ax ab => Zr <| Zv (db rfl eV rfl b) <| Zv (db rfl eA rfl a) <| ZC (vs := [.agg #[_, _, _], .agg #[_, _, _]]) C8 (mg S _ _ _ _ _ _ (Below.slT hB hon) (Below.slT hB hmay) hbx.1 hbx.2.1 hbx.2.2) rfl fun ay az s ac => ?_
 replace hB := Ze hB s
 replace b := s.at b
 replace a := s.at a
 replace d := s.at d
 obtain rfl := ac
 refine Zv (fy rfl) <| cT <| ZQ rfl (fun J => ?_) fun J => ?_
 refine Zr <| Zv (AA ) <| Zy (dg rfl rfl eA rfl d rfl rfl fun aA K ad => ?_)
 replace hB := Zg hB K V
 replace b := At.grownAt b d K Dd
 replace a := At.grownNe a l K
 replace d := ad
 refine Zw (.int .i64 1) rfl <| cT <| Zt <| fw rfl eA d rfl (v1 := .int .i64 1) rfl ⟨hB, ?_⟩
 rw [if_neg (by rw [show pM S x = false from jc J]; decide)]
 refine c9 <| ab _ _ <| cY fun aB ae => ?_
 have hi : pM S x = true := ie J
 obtain ⟨h0, h8, h1, h4, h5, hin⟩ := d7.1 (gy.1 hi).1
 refine Zr <| Zf rfl fQ <| Zl rfl dB b rfl <| Zw (.int .i64 0) rfl <| cT <| c7 ?_
 refine dw (σ := (Nat)) [6, 7, 15, 16, 17, 18, 19, 20, 21, 22, 23, 24, 25, 26, 27, 28, 29] (fun i => [(15, .int .i64 (i : Int))]) (fun i W => (Below w.heap.size w W) ∧ (At W X _ 24) ∧ (At W aa _ 42) ∧ (At W Z #[.int .u8 ((ex S x i).m : Int), .int .u8 ((ex S x i).v : Int), .int .u8 (x.o : Int)] 42) ∧ ((i : Int) ≤ S.n) ∧ (True)) (fun i => S.n.toNat - i) (0) ⟨rfl, trivial⟩ ⟨hB, b, d, a, Om, trivial⟩ ?_
 clear hB b a d
 rintro i aC aD ⟨hB, b, d, a, hi2, _⟩ aE t
 refine Zr <| Zv (dL rfl rfl) <| cT <| cY fun aF af => ZQ rfl (fun ag => ?_) fun ag => ?_
 refine c9 <| af _ _ <| cY fun aG u => c7 ?_
 have hg := rU (S := S) (x := x) ⟨hbx.1, hbx.2.1⟩ i
 have hle := uT (ex S x i).m (i : Int)
 have hle2 : (ex S x i).v &&& jx (ex S x i).m (i : Int) ≤ (ex S x i).v := Nat.and_le_left
 refine Zr <| Zi rfl <| Zi rfl <| cT <| Zd eo fun ah y => ?_
 replace hB := Ze hB y
 replace b := y.at b
 replace d := y.at d
 replace a := y.at a
 have hS := eo.refl ah
 refine Tf 0 rfl rfl gF hS <| Tk 1 rfl (fun _ hq => ig rfl dN (At.cell (hq.at a) rfl) (At.cell (hq.at a) rfl)) hS <| Ti 2 rfl rfl hS <| Tf 4 rfl rfl fK hS <| Tk 5 rfl (fun _ hq => dk (v := .int .u8 _) rfl ef (At.cell (hq.at a) rfl)) hS ?_
 refine HN 3 7 (by kernel_rfl) rfl rfl rfl rfl rfl rfl rfl rfl (Yd.call (ug yw (v0 := .agg #[_, _]) rfl (v1 := .int .i64 _) rfl) (kg _ _ (i : Int) _ hg.1 hg.2) (fun ai aH h L => ⟨.inl (hS.trans h), ?_⟩)) (dt kP rfl (fun aj aI z j e => ⟨.inl (hS.trans j), ?_⟩))
 replace hB := Ze hB h
 replace b := h.at b
 replace d := h.at d
 replace a := h.at a
 replace hS := hS.trans h
 obtain rfl := L
 refine Tk 6 rfl (fun _ _ => kb (h0 := rfl) (h1 := rfl) (k1 := rfl) (c1_0 := .int .u8 _)) hS <| To 7 rfl (dt kP rfl fun aj aJ A k e => ⟨.inl (hS.trans k), ?_⟩)
 have M := ZO A hB
 have N := Zn A d.lt
 have p := Zn A a.lt
 clear A
 replace hB := Ze hB k
 replace b := k.at b
 replace d := k.at d
 replace a := k.at a
 replace hS := hS.trans k
 refine To 8 rfl (dg rfl rfl eA rfl e rfl rfl fun aK B ak => ⟨.inr (by kernel_rfl), ?_⟩)
 replace hB := Zg hB B M
 replace b := At.grownAt b e B Dd
 replace d := At.grownNe d N B
 replace a := At.grownNe a p B
 replace e := ak
 refine Td <| Zr <| Zv (db rfl eV rfl b) <| Zv (db rfl eA rfl e) <| ZC (vs := [.agg #[_, _, _], .agg #[_, _, _]]) C8 (mg S _ _ (i6 (ex S x i) i).m (i6 (ex S x i) i).v x.o _ (Below.slT hB hon) (Below.slT hB hmay) (by show jx (ex S x i).m (i : Int) < 256; omega) (by show (ex S x i).v &&& jx (ex S x i).m (i : Int) < 256; omega) hbx.2.2) rfl fun al aL q O => ?_
 replace hB := Ze hB q
 replace b := q.at b
 replace d := q.at d
 replace a := q.at a
 replace e := q.at e
 obtain rfl := O
 refine cT <| ZQ rfl (fun f => ?_) fun f => ?_
 refine cZ <| Zv (db rfl eA rfl e) <| Zy (dg rfl rfl eA rfl a rfl rfl fun aM C ao => ?_)
 replace hB := Zg hB C G
 replace b := At.grownAt b a C Dd
 replace d := At.grownNe d (Ne.symm l) C
 replace e := At.grownNe e (Ne.symm p) C
 replace a := ao
 refine cT <| u _ _ <| cZ <| Zv (dp rfl rfl Om Om) <| Zi rfl <| cT ?_
 exact t _ _ (i + 1) Za ⟨rfl, trivial⟩ ⟨hB, b, d, (by first | (rw [← uP f]; exact a) | (rw [← uq f]; exact a)), Om, trivial⟩ Zo
 refine c9 <| u _ _ <| cZ <| Zv (dp rfl rfl Om Om) <| Zi rfl <| cT ?_
 exact t _ _ (i + 1) Za ⟨rfl, trivial⟩ ⟨hB, b, d, (by first | (rw [← uP f]; exact a) | (rw [← uq f]; exact a)), Om, trivial⟩ Zo
 have M := ZO z hB
 have N := Zn z d.lt
 have p := Zn z a.lt
 clear z
 replace hB := Ze hB j
 replace b := j.at b
 replace d := j.at d
 replace a := j.at a
 replace hS := hS.trans j
 refine To 3 rfl (TC (vs := [.agg #[_, _], .int .i64 _]) yw (kg _ _ (i : Int) _ hg.1 hg.2) rfl fun ai aN g L => ⟨.inl (hS.trans g), ?_⟩)
 replace hB := Ze hB g
 replace b := g.at b
 replace d := g.at d
 replace a := g.at a
 replace e := g.at e
 replace hS := hS.trans g
 obtain rfl := L
 refine Tk 6 rfl (fun _ _ => kb (h0 := rfl) (h1 := rfl) (k1 := rfl) (c1_0 := .int .u8 _)) hS <| To 8 rfl (dg rfl rfl eA rfl e rfl rfl fun aO D ap => ⟨.inr (by kernel_rfl), ?_⟩)
 replace hB := Zg hB D M
 replace b := At.grownAt b e D Dd
 replace d := At.grownNe d N D
 replace a := At.grownNe a p D
 replace e := ap
 refine Td <| Zr <| Zv (db rfl eV rfl b) <| Zv (db rfl eA rfl e) <| ZC (vs := [.agg #[_, _, _], .agg #[_, _, _]]) C8 (mg S _ _ (i6 (ex S x i) i).m (i6 (ex S x i) i).v x.o _ (Below.slT hB hon) (Below.slT hB hmay) (by show jx (ex S x i).m (i : Int) < 256; omega) (by show (ex S x i).v &&& jx (ex S x i).m (i : Int) < 256; omega) hbx.2.2) rfl fun al aP r O => ?_
 replace hB := Ze hB r
 replace b := r.at b
 replace d := r.at d
 replace a := r.at a
 replace e := r.at e
 obtain rfl := O
 refine cT <| ZQ rfl (fun f => ?_) fun f => ?_
 refine cZ <| Zv (db rfl eA rfl e) <| Zy (dg rfl rfl eA rfl a rfl rfl fun aQ E aq => ?_)
 replace hB := Zg hB E G
 replace b := At.grownAt b a E Dd
 replace d := At.grownNe d (Ne.symm l) E
 replace e := At.grownNe e (Ne.symm p) E
 replace a := aq
 refine cT <| u _ _ <| cZ <| Zv (dp rfl rfl Om Om) <| Zi rfl <| cT ?_
 exact t _ _ (i + 1) Za ⟨rfl, trivial⟩ ⟨hB, b, d, (by first | (rw [← uP f]; exact a) | (rw [← uq f]; exact a)), Om, trivial⟩ Zo
 refine c9 <| u _ _ <| cZ <| Zv (dp rfl rfl Om Om) <| Zi rfl <| cT ?_
 exact t _ _ (i + 1) Za ⟨rfl, trivial⟩ ⟨hB, b, d, (by first | (rw [← uP f]; exact a) | (rw [← uq f]; exact a)), Om, trivial⟩ Zo
 refine dr <| ae _ _ ?_
 obtain rfl : i = S.n.toNat := by omega
 refine Zr <| Zv (db rfl eV rfl b) <| Zf rfl gF <| Zv (ig rfl dN (At.cell a rfl) (At.cell a rfl)) <| ZC (vs := [.agg #[_, _, _], .agg #[_, _]]) CC (oI S _ _ (ex S x S.n.toNat) _ (Below.slT hB hon) (Below.slT hB hmay) (rU ⟨hbx.1, hbx.2.1⟩ _) Om) rfl fun aR aS F ar => ?_
 replace hB := Ze hB F
 replace b := F.at b
 replace d := F.at d
 replace a := F.at a
 obtain rfl := ar
 refine Zf rfl fK <| Zy (eC (v := .int .u8 _) rfl rfl ef rfl a (by simp) fun aT P au => ?_)
 replace hB := Zg hB P G
 replace b := At.grownAt b a P Dd
 replace d := At.grownNe d (Ne.symm l) P
 replace a := au
 replace a : At _ _ #[_, _, _] _ := a
 refine cT <| Zr <| Zv (db rfl eA rfl a) <| Zy (dg rfl rfl eA rfl d rfl rfl fun aU Q av => ?_)
 replace hB := Zg hB Q V
 replace b := At.grownAt b d Q Dd
 replace a := At.grownNe a l Q
 replace d := av
 refine Zw (.int .i64 0) rfl <| cT <| Zt <| fw rfl eA d rfl (v1 := .int .i64 0) rfl ⟨hB, ?_⟩
 rw [if_pos hi]
 rfl
end
section
open Go Go.RowKit
def hU (l : List Rw) : Prop := ∀ x, x ∈ l → x.c.m < 256 ∧ x.c.v < 256 ∧ x.o < 256
theorem hU.get {l : List Rw} (h : hU l) {k : Nat} (hk : k < l.length) : (l.getD k ⟨⟨0, 0⟩, 0⟩).c.m < 256 ∧ (l.getD k ⟨⟨0, 0⟩, 0⟩).c.v < 256 ∧ (l.getD k ⟨⟨0, 0⟩, 0⟩).o < 256 := h _ (dS hk)
theorem Hc {S : Sp} {l : List Rw} {k : Nat} (hk : k < l.length) (h : ¬ EV S (l.getD k ⟨⟨0, 0⟩, 0⟩) = true) : Value.bool false = .bool (oh S l) := ot fun hm => h (kq.1 hm k hk)
theorem Pm {S : Sp} {x : Rw} (h : (!dY x.c.m x.c.v S.n) = true) : ¬ EV S x = true := fun hk => by
 rw [(jd.1 hk).1] at h; cases h
theorem PG {S : Sp} {x : Rw} (h : (x.o : Int) = 0) : ¬ EV S x = true := fun hk => by
 have := (jd.1 hk).2.1; omega
theorem PM {S : Sp} {x : Rw} (h : ((1 * 2 ^ S.on.length : Nat) : Int) ≤ (x.o : Int)) : ¬ EV S x = true := fun hk => by
 have := (jd.1 hk).2.2
 rw [Nat.one_mul] at h; omega
theorem PY {S : Sp} {x : Rw} (h : (!dY x.c.m x.c.v S.n) = false) (h2 : ¬ (x.o : Int) = 0) (h3 : ¬ ((1 * 2 ^ S.on.length : Nat) : Int) ≤ (x.o : Int)) : EV S x = true := by
 rw [Nat.one_mul] at h3
 exact jd.2 ⟨ie h, by omega, by omega⟩
theorem E8 {S : Sp} {x : Rw} : (Pa x.o S.on.length && dY x.c.m x.c.v S.n) = EV S x := by
 rw [Bool.eq_iff_iff, Bool.and_eq_true, zK, jd]
 exact ⟨fun h => ⟨h.2, h.1⟩, fun h => ⟨h.2, h.1⟩⟩
def wW (l : List Rw) (n out : Int) : Bool := decide (0 ≤ n ∧ n ≤ 8 ∧ 0 ≤ out ∧ out < 4) && l.all fun x => dY x.c.m x.c.v n
theorem rC {l : List Rw} {n out : Int} : wW l n out = true ↔ (0 ≤ n ∧ n ≤ 8 ∧ 0 ≤ out ∧ out < 4) ∧ ∀ k, k < l.length → dY (l.getD k ⟨⟨0, 0⟩, 0⟩).c.m (l.getD k ⟨⟨0, 0⟩, 0⟩).c.v n = true := by
 unfold wW
 rw [Bool.and_eq_true, decide_eq_true_eq, List.all_eq_true]
 constructor
 ·rintro ⟨h1, h2⟩; exact ⟨h1, fun k hk => h2 _ (dS hk)⟩
 ·rintro ⟨h1, h2⟩
  refine ⟨h1, fun x hx => ?_⟩
  obtain ⟨k, hk, rfl⟩ := fo (d := ⟨⟨0, 0⟩, 0⟩) hx
  exact h2 k hk
theorem uH {l : List Rw} {n out : Int} (h : ¬ (0 ≤ n ∧ n ≤ 8 ∧ 0 ≤ out ∧ out < 4)) : ¬ wW l n out = true := fun k => h (rC.1 k).1
theorem NR {l : List Rw} {n out : Int} {k : Nat} (hk : k < l.length) (h : dY (l.getD k ⟨⟨0, 0⟩, 0⟩).c.m (l.getD k ⟨⟨0, 0⟩, 0⟩).c.v n = false) : ¬ wW l n out = true := fun q => by
 rw [(rC.1 q).2 k hk] at h; cases h
theorem LA {l : List Rw} {n out : Int} {v : Value} (h : v = if wW l n out = true then .tuple #[eP (mC l n.toNat out.toNat l.length), .int .i64 0] else .tuple #[eP 0, .int .i64 1]) :
  ∃ (sa : Nat) (er : Int), v = .tuple #[eP sa, .int .i64 er] ∧ ((wW l n out = true ∧ sa = mC l n.toNat out.toNat l.length ∧ er = 0) ∨ (wW l n out = false ∧ sa = 0 ∧ er = 1)) := by
 by_cases ho : wW l n out = true
 ·rw [if_pos ho] at h
  exact ⟨_, _, h, .inl ⟨ho, rfl, rfl⟩⟩
 ·rw [if_neg ho] at h
  exact ⟨_, _, h, .inr ⟨by simpa using ho, rfl, rfl⟩⟩
theorem KC {S : Sp} {l : List Rw} {o : Nat} (hr : dP S = true) (hm : oh S l = true) (ho : o < S.on.length) : wW l S.n (o : Int) = true := by
 obtain ⟨h0, h8, h1, h4, h5, _⟩ := d7.1 hr
 exact rC.2 ⟨by omega, fun k hk => (jd.1 (kq.1 hm k hk)).1⟩
theorem NJ {S : Sp} {l : List Rw} (h : dP S = false) : Value.bool false = .bool (ju S l) := ot fun k => by
 rw [(gX.1 k).1] at h; cases h
theorem Nf {S : Sp} {l : List Rw} (h : oh S l = false) : Value.bool false = .bool (ju S l) := ot fun k => by
 rw [(gX.1 k).2.1] at h; cases h
theorem O5 {S : Sp} {l : List Rw} {o : Nat} (ho : o < S.on.length) (h : ep (zQ S o) (mC l S.n.toNat o l.length) = false) : Value.bool false = .bool (ju S l) := ot fun k => by
 have := (gX.1 k).2.2 o ho
 unfold w5 at this
 rw [h] at this; cases this
theorem Oa {S : Sp} {l : List Rw} {o : Nat} (ho : o < S.on.length) (h : ep (mC l S.n.toNat o l.length) (jf S o) = false) : Value.bool false = .bool (ju S l) := ot fun k => by
 have := (gX.1 k).2.2 o ho
 unfold w5 at this
 rw [h, Bool.and_false] at this; cases this
theorem IM {S : Sp} {l : List Rw} {o : Nat} (h1 : ep (zQ S o) (mC l S.n.toNat o l.length) = true) (h2 : ep (mC l S.n.toNat o l.length) (jf S o) = true) : w5 S l o = true := by
 unfold w5; rw [h1, h2]; rfl
def yF (l : List Rw) (p o : Nat) : Bool := l.any fun x => x.o.testBit o && pf x.c.m x.c.v p
theorem rr {l : List Rw} {p o : Nat} : yF l p o = true ↔ ∃ k, k < l.length ∧ ((l.getD k ⟨⟨0, 0⟩, 0⟩).o.testBit o && pf (l.getD k ⟨⟨0, 0⟩, 0⟩).c.m (l.getD k ⟨⟨0, 0⟩, 0⟩).c.v p) = true := by
 unfold yF
 rw [List.any_eq_true]
 constructor
 ·rintro ⟨x, hx, h⟩
  obtain ⟨k, hk, rfl⟩ := fo (d := ⟨⟨0, 0⟩, 0⟩) hx
  exact ⟨k, hk, h⟩
 ·rintro ⟨k, hk, h⟩; exact ⟨_, dS hk, h⟩
theorem QO {l : List Rw} {p o k : Nat} (hk : k < l.length) (h1 : (l.getD k ⟨⟨0, 0⟩, 0⟩).o.testBit o = true) (h2 : pf (l.getD k ⟨⟨0, 0⟩, 0⟩).c.m (l.getD k ⟨⟨0, 0⟩, 0⟩).c.v p = true) : Value.bool true = .bool (yF l p o) := Bu (rr.2 ⟨k, hk, by rw [h1, h2]; rfl⟩)
theorem Qs {l : List Rw} {p o k : Nat} (hk : k = l.length) (h : ∀ q, q < k → ((l.getD q ⟨⟨0, 0⟩, 0⟩).o.testBit o && pf (l.getD q ⟨⟨0, 0⟩, 0⟩).c.m (l.getD q ⟨⟨0, 0⟩, 0⟩).c.v p) = false) : Value.bool false = .bool (yF l p o) := ot fun hc => by
 obtain ⟨q, hq, h2⟩ := rr.1 hc
 rw [h q (by omega)] at h2; cases h2
theorem HH : ∀ n, n ≤ 8 → (eg (HV (lE (2 ^ n)))).length = 2 ^ n := by decide +kernel
theorem mq {S : Sp} {l : List Rw} {o : Nat} (hr : dP S = true) (hm : oh S l = true) (ho : o < S.on.length) :
  w5 S l o = true ↔ ∀ p, p < 2 ^ S.n.toNat → ((zQ S o).testBit p = true → yF l p o = true) ∧ (yF l p o = true → (jf S o).testBit p = true) := by
 obtain ⟨h0, h8, h1, h4, h5, hin⟩ := d7.1 hr
 have hp := fh h8
 obtain ⟨w1, w2⟩ := hin o ho
 have hcv : ∀ p, p < 2 ^ S.n.toNat → ((mC l S.n.toNat o l.length).testBit p = true ↔ yF l p o = true) := fun p hpn => by
  rw [kr (by omega) p _ (Nat.le_refl _), rr]
  have key : ∀ k, k < l.length → (Ou (l.getD k ⟨⟨0, 0⟩, 0⟩) o p ↔ ((l.getD k ⟨⟨0, 0⟩, 0⟩).o.testBit o && pf (l.getD k ⟨⟨0, 0⟩, 0⟩).c.m (l.getD k ⟨⟨0, 0⟩, 0⟩).c.v p) = true) := fun k hk => by
   have hv := (dW.1 (jd.1 (kq.1 hm k hk)).1).2.2.2
   unfold Ou hold pf
   rw [Bool.and_eq_true, decide_eq_true_eq, hv]
  constructor
  ·rintro ⟨_, k, hk, h⟩; exact ⟨k, hk, (key k hk).1 h⟩
  ·rintro ⟨k, hk, h⟩; exact ⟨hpn, k, hk, (key k hk).2 h⟩
 unfold w5
 rw [Bool.and_eq_true, d6, d6]
 constructor
 ·rintro ⟨g1, g2⟩ p hpn
  exact ⟨fun h => (hcv p hpn).1 (g1 p (by omega) h), fun h => g2 p (by omega) ((hcv p hpn).2 h)⟩
 ·intro g
  have hlt : ∀ p, p < 256 → (jf S o).testBit p = true → p < 2 ^ S.n.toNat := fun p hp2 h => by
   have := d6.1 w2 p hp2 h
   rw [fP] at this
   simpa using this
  refine ⟨fun p hp2 h => ?_, fun p hp2 h => ?_⟩
  ·have hpn := hlt p hp2 (d6.1 w1 p hp2 h)
   exact (hcv p hpn).2 ((g p hpn).1 h)
  ·have hpn := ((kr (by omega) p _ (Nat.le_refl _)).1 h).1
   exact (g p hpn).2 ((hcv p hpn).1 h)
theorem rf {S : Sp} {l : List Rw} {o p : Nat} (hr : dP S = true) (hm : oh S l = true) (ho : o < S.on.length) (hp : p < 2 ^ S.n.toNat)
  (h : ¬ (((zQ S o).testBit p = true → yF l p o = true) ∧ (yF l p o = true → (jf S o).testBit p = true))) : Value.bool false = .bool (ju S l) := ot fun k => h ((mq hr hm ho).1 ((gX.1 k).2.2 o ho) p hp)
theorem GE {a b : Bool} (h : a = false) : (a && b) = false := by rw [h]; rfl
theorem HA {a b : Bool} (h : b = false) : (a && b) = false := by rw [h, Bool.and_false]
theorem Bq {o : Nat} {i : Int} (h : ((o / 2 ^ i.toNat &&& 1 : Nat) : Int) = 1) : o.testBit i.toNat = true := k7.1 h
theorem Bz {o : Nat} {i : Int} (h : ¬ ((o / 2 ^ i.toNat &&& 1 : Nat) : Int) = 1) : ¬ o.testBit i.toNat = true := fun k => h (k7.2 k)
theorem JH {S : Sp} {l : List Rw} {k : Nat} (hk : k < l.length) (h : ¬ EV S (l.getD k ⟨⟨0, 0⟩, 0⟩) = true) : Value.bool false = .bool (ju S l) := ot fun hc => h (kq.1 (gX.1 hc).2.1 k hk)
theorem Gw {s p : Nat} (hp : p < 256) (h : (pr s).getD (p : Int).toNat false = true) : s.testBit p = true := (xC hp).symm.trans h
theorem FZ {s p : Nat} (hp : p < 256) (h : (pr s).getD (p : Int).toNat false = false) : ¬ s.testBit p = true := fun k => by
 rw [xC hp, k] at h; cases h
end
end Go.Proofs.YteimkklmmanncaaGreat
